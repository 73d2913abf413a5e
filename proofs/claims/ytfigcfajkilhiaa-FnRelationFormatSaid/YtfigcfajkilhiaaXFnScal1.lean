/- What the law of scaling needs: rows of numbers compared, bytes read. -/
import Derived.Test.YtfigcfajkilhiaaE01
namespace Go.Proofs.Ytfigcfajkilhiaa
open Go.ChangeShapes Go.WideShapes Go.ChangeAt Go.RowKit

set_option maxHeartbeats 400000 in
theorem lawSameInts_any {A A' : Option Addr} {c c' : Nat} {xs ys : List Int} {w : World} (hx : xs.length ≤ 1000000000) (h1 : RI w A xs) (hy : ys.length ≤ 1000000000) (h2 : RI w A' ys) :
    Calls Try.prog 68 #[.slice A xs.length c, .slice A' ys.length c'] w fun e w' => e = .returned (.bool (decide (xs = ys))) ∧ ∃ y, w' = ext w y := by
  by_cases hl : xs.length = ys.length
  · have hn : ((xs.length : Int) != (ys.length : Int)) = false := by simp [hl]
    go_enter Try.func68, Try.ntmps68
    go_wp2
    go_loopw [5] (fun i wr => ∃ k : Nat, i = .int .i64 k ∧ k ≤ xs.length ∧ xs.take k = ys.take k ∧ ∃ y, wr = ext w y) (fun i _ => xs.length - (intOf i).toNat)
    case atStart => exact ⟨0, rfl, by omega, by simp, refl_ext w⟩
    case round =>
      obtain ⟨k, rfl, hk, ht, y, rfl⟩ := hrel
      have Ht := Lib.hid ht
      clear ht
      by_cases hlt : k < xs.length
      · obtain ⟨b, o, rfl, hb, hc⟩ := h1.atI hlt
        obtain ⟨b', o', rfl, hb', hc'⟩ := h2.atI (k := k) (by omega)
        go_wp2
        refine wp_region_ext (by kernel_rfl) (by kernel_rfl) ?_
        repeat (go_big_quiet_step (fail))
        refine wpQuiet_nil ?_
        rintro _ ⟨z, rfl⟩
        go_wp2
        · go_ret
          have he : ¬ xs[k] = ys[k] := by simpa using ‹(xs[k] != ys[k]) = true›
          exact ⟨by rw [decide_eq_false (ne_of_at hlt (by omega) he)]; rfl, _, ext_ext⟩
        · have he : xs[k] = ys[k] := by simpa using ‹(xs[k] != ys[k]) = false›
          exact ⟨⟨k + 1, by go_num, by omega, take_snoc_eq _ _ Ht.out he, _, ext_ext⟩, by simp [intOf]; omega⟩
      · go_wp2
        go_ret
        exact ⟨by rw [decide_eq_true (all_eq hl hlt Ht.out)]; rfl, y, rfl⟩
  · have hn : ((xs.length : Int) != (ys.length : Int)) = true := by simp; omega
    go_enter Try.func68, Try.ntmps68
    go_wp2
    go_ret
    exact ⟨by rw [decide_eq_false (by rintro rfl; exact hl rfl)]; rfl, refl_ext w⟩
theorem openU8 {P : Program} {t : Nat} (ht : P.underlying t = some (.int .u8)) (hc : P.cellsOf t = 1) : OpenE P t 1 vU (fun _ => True) := ⟨hc, fun H enc w base spare held n c y h => by
  obtain ⟨m, rfl, _, hw⟩ := DataW.trod_int ht h
  simp [Lit.wf, IntKind.min, IntKind.max, IntKind.signed, IntKind.bits] at hw
  obtain ⟨k, rfl⟩ : ∃ k : Nat, m = k := ⟨m.toNat, by omega⟩
  refine ⟨UInt8.ofNat k, ?_, trivial⟩
  show [Value.int .u8 (k : Int)] = [.int .u8 ((UInt8.ofNat k).toNat : Int)]
  rw [UInt8.toNat_ofNat', Nat.mod_eq_of_lt (by omega)]⟩
theorem oBytes : OpenE Try.prog 62 1 (vSl 1 vU) (fun l => l.length ≤ maxLen ∧ ∀ x ∈ l, True) := openSl Try.underlying62 (by kernel_rfl) (by omega) (openU8 Try.underlying5 (by kernel_rfl))
theorem lawBig_any {A : Option Addr} {n c : Nat} {w : World} (hn : n ≤ 9223372036854775807) : Calls Try.prog 39 #[.slice A n c] w fun e w' => e = .returned (.bool (decide (1048576 < n))) ∧ ∃ y, w' = ext w y := by
  have H := Lib.hid (show decide ((1048576 : Int) < (n : Int)) = decide (1048576 < n) from decide_eq_decide.2 (by omega))
  go_enter Try.func39, Try.ntmps39
  go_wp2
  go_ret
  refine ⟨?_, refl_ext w⟩
  rw [← H.out]
  rfl
theorem cellY {w wr : World} {b o : Nat} {u : Value} (hy : ∃ y, wr = ext w y) (hb : b < w.heap.size) (h : w.cell? ⟨b, o, none⟩ = some u) : wr.cell? ⟨b, o, none⟩ = some u := by
  obtain ⟨y, rfl⟩ := hy
  rw [cell_ext hb]; exact h
theorem ltY {w wr : World} {b : Nat} (hy : ∃ y, wr = ext w y) (hb : b < w.heap.size) : b < wr.heap.size := Nat.lt_of_lt_of_le hb (size_of_ext hy)
end Go.Proofs.Ytfigcfajkilhiaa
