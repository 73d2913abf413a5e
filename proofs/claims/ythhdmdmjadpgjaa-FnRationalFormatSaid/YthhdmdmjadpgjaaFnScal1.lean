/- What the law of scaling needs: rows of numbers compared, bytes read. -/
import Derived.Test.YthhdmdmjadpgjaaInts
import Derived.Test.YthhdmdmjadpgjaaBytes
import Derived.Test.YthhdmdmjadpgjaaTypes
namespace Go.Proofs.Ythhdmdmjadpgjaa
open Go.ChangeShapes Go.WideShapes Go.ChangeAt Go.RowKit

theorem openU8 {P : Program} {t : Nat} (ht : P.underlying t = some (.int .u8)) (hc : P.cellsOf t = 1) : OpenE P t 1 vU (fun _ => True) := ⟨hc, fun H enc w base spare held n c y h => by
  obtain ⟨m, rfl, _, hw⟩ := DataW.trod_int ht h
  simp [Lit.wf, IntKind.min, IntKind.max, IntKind.signed, IntKind.bits] at hw
  obtain ⟨k, rfl⟩ : ∃ k : Nat, m = k := ⟨m.toNat, by omega⟩
  refine ⟨UInt8.ofNat k, ?_, trivial⟩
  show [Value.int .u8 (k : Int)] = [.int .u8 ((UInt8.ofNat k).toNat : Int)]
  rw [UInt8.toNat_ofNat', Nat.mod_eq_of_lt (by omega)]⟩
theorem oBytes : OpenE Try.prog 22 1 (vSl 1 vU) (fun l => l.length ≤ maxLen ∧ ∀ x ∈ l, True) := openSl Try.underlying22 (by kernel_rfl) (by omega) (openU8 Try.underlying5 (by kernel_rfl))
theorem lawBig_any {A : Option Addr} {n c : Nat} {w : World} (hn : n ≤ 9223372036854775807) : Calls Try.prog 4 #[.slice A n c] w fun e w' => e = .returned (.bool (decide (1048576 < n))) ∧ ∃ y, w' = ext w y := by
  have H := Lib.hid (show decide ((1048576 : Int) < (n : Int)) = decide (1048576 < n) from decide_eq_decide.2 (by omega))
  go_enter Try.func4, Try.ntmps4
  go_wp2
  go_ret
  refine ⟨?_, refl_ext w⟩
  rw [← H.out]
  rfl
theorem cellY {w wr : World} {b o : Nat} {u : Value} (hy : ∃ y, wr = ext w y) (hb : b < w.heap.size) (h : w.cell? ⟨b, o, none⟩ = some u) : wr.cell? ⟨b, o, none⟩ = some u := by
  obtain ⟨y, rfl⟩ := hy
  rw [cell_ext hb]; exact h
theorem ltY {w wr : World} {b : Nat} (hy : ∃ y, wr = ext w y) (hb : b < w.heap.size) : b < wr.heap.size := Nat.lt_of_lt_of_le hb (size_of_ext hy)
end Go.Proofs.Ythhdmdmjadpgjaa
