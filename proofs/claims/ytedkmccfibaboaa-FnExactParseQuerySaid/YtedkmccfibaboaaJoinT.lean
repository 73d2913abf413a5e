/- Texts joined by a separator. -/
import Derived.Test.YtedkmccfibaboaaRows
import Derived.Test.YtedkmccfibaboaaDec
import Derived.Test.YtedkmccfibaboaaStrs
namespace Go.Proofs.Ytedkmccfibaboaa
open Go.RowKit

theorem tS : SlT Try.prog 39 9 1 16 (.string ⟨#[]⟩) := ⟨Try.underlying39, by kernel_rfl, rfl, by omega⟩
/-! texts joined by a separator -/
def joinF (sep : ByteArray) : Nat → ByteArray → List ByteArray → ByteArray
  | _, acc, [] => acc
  | k, acc, p :: ps => joinF sep (k + 1) ((if 0 < k then acc ++ sep else acc) ++ p) ps
theorem joinF_step {sep acc : ByteArray} {ps : List ByteArray} {k : Nat} (h : k < ps.length) : joinF sep k acc (ps.drop k) = joinF sep (k + 1) ((if 0 < k then acc ++ sep else acc) ++ ps[k]) (ps.drop (k + 1)) := by
  rw [List.drop_eq_getElem_cons h, joinF]
set_option maxHeartbeats 1000000 in
theorem join_any {A : Option Addr} {c : Nat} {ps : List ByteArray} {sep : ByteArray} {w : World} (hx : ps.length ≤ 1000000000) (h1 : RS w A ps) (hs : sep.size ≤ 1000000000) (hp : ∀ j (h : j < ps.length), ps[j].size ≤ 1000000000) :
    Calls Try.prog 34 #[.slice A ps.length c, .string sep] w fun e w' => e = .returned (.string (joinF sep 0 ⟨#[]⟩ ps)) ∧ ∃ y, w' = ext w y := by
  have Hp := Lib.hid hp
  clear hp
  go_enter Try.func34, Try.ntmps34
  go_wp2
  go_loopw [5, 10] (fun o i wr => ∃ (k : Nat) (acc : ByteArray), o = .string acc ∧ i = .int .i64 k ∧ k ≤ ps.length ∧ acc.size ≤ 2000000000 * k ∧ joinF sep k acc (ps.drop k) = joinF sep 0 ⟨#[]⟩ ps ∧ ∃ y, wr = ext w y) (fun _ i _ => ps.length - (intOf i).toNat)
  case atStart => exact ⟨0, ⟨#[]⟩, rfl, rfl, by omega, by decide, by simp, refl_ext w⟩
  case round =>
    obtain ⟨k, acc, rfl, rfl, hk, ha, hj, hy⟩ := hrel
    have Hj := Lib.hid hj
    clear hj
    have h1' := h1.toExt hy
    by_cases hlt : k < ps.length
    · have hpk := Hp.out k hlt
      have e := Hj.out
      rw [joinF_step hlt] at e
      have He := Lib.hid e
      clear e
      obtain ⟨b, o, rfl, hb, hc⟩ := h1'.atS hlt
      have hsa := ba_size acc sep
      have hsb := ba_size (acc ++ sep) ps[k]
      have hsc := ba_size acc ps[k]
      by_cases h0 : 0 < k
      · have e := He.out
        rw [if_pos h0] at e
        have He := Lib.hid e
        clear e
        go_wp2
        exact ⟨⟨k + 1, acc ++ sep ++ ps[k], rfl, by go_num, by omega, by omega, He.out, hy⟩, by simp [intOf]; omega⟩
      · have e := He.out
        rw [if_neg h0] at e
        have He := Lib.hid e
        clear e
        go_wp2
        exact ⟨⟨k + 1, acc ++ ps[k], rfl, by go_num, by omega, by omega, He.out, hy⟩, by simp [intOf]; omega⟩
    · go_wp2
      go_ret
      have e := Hj.out
      rw [List.drop_eq_nil_of_le (by omega), joinF] at e
      exact ⟨by rw [← e]; rfl, hy⟩
theorem join_n {A : Option Addr} {c n : Nat} {ps : List ByteArray} {sep : ByteArray} {w : World} (hn : ps.length = n) (hx : n ≤ 1000000000) (h1 : RS w A ps) (hs : sep.size ≤ 1000000000) (hp : ∀ j (h : j < ps.length), ps[j].size ≤ 1000000000) :
    Calls Try.prog 34 #[.slice A n c, .string sep] w fun e w' => e = .returned (.string (joinF sep 0 ⟨#[]⟩ ps)) ∧ ∃ y, w' = ext w y := by
  subst hn
  exact join_any hx h1 hs hp
end Go.Proofs.Ytedkmccfibaboaa
