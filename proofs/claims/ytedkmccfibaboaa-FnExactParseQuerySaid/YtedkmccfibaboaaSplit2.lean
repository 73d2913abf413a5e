/- Texts divided at a byte: the pieces read, the calls with the byte as a number. -/
import Derived.Test.YtedkmccfibaboaaSplit
import Derived.Test.YtedkmccfibaboaaStrs
namespace Go.Proofs.Ytedkmccfibaboaa
open Go.RowKit

theorem isEmpty_yes {s : ByteArray} (h : s.size = 0) : s.toList.isEmpty = true := by
  rw [ByteArray.toList_eq, List.isEmpty_iff]
  apply List.eq_nil_of_length_eq_zero
  rw [Array.length_toList]
  exact h
theorem size_zero {s : ByteArray} (h : s.size = 0) : bl s = [] := List.eq_nil_of_length_eq_zero (by rw [bl_length]; exact h)
theorem RV.atS2 {w : World} {A : Option Addr} {xs : List ByteArray} {p q : ByteArray} (h : RS w A xs) (h1 : 1 < xs.length) (hp : xs.getD 0 ⟨#[]⟩ = p) (hq : xs.getD 1 ⟨#[]⟩ = q) : ∃ b o, A = some ⟨b, o, none⟩ ∧ b < w.heap.size ∧ w.cell? ⟨b, o, none⟩ = some (.string p) ∧ w.cell? ⟨b, o + 1, none⟩ = some (.string q) := by
  obtain ⟨b, o, e, hb, hc⟩ := h.atS (k := 0) (by omega)
  obtain ⟨b', o', e', _, hc'⟩ := h.atS h1
  rw [e] at e'
  injection e' with e'
  injection e' with e1 e2
  subst e1 e2 hp hq
  refine ⟨b, o, e, hb, ?_, ?_⟩
  · rw [show xs.getD 0 ⟨#[]⟩ = xs[0] by simp [List.getD_eq_getElem?_getD, show 0 < xs.length by omega]]; exact hc
  · rw [show xs.getD 1 ⟨#[]⟩ = xs[1] by simp [List.getD_eq_getElem?_getD, h1]]; exact hc'
theorem RV.atS1 {w : World} {A : Option Addr} {xs : List ByteArray} {p : ByteArray} (h : RS w A xs) (h1 : 0 < xs.length) (hp : xs.getD 0 ⟨#[]⟩ = p) : ∃ b o, A = some ⟨b, o, none⟩ ∧ b < w.heap.size ∧ w.cell? ⟨b, o, none⟩ = some (.string p) := by
  obtain ⟨b, o, e, hb, hc⟩ := h.atS h1
  subst hp
  refine ⟨b, o, e, hb, ?_⟩
  rw [show xs.getD 0 ⟨#[]⟩ = xs[0] by simp [List.getD_eq_getElem?_getD, h1]]; exact hc
theorem splB_getD (c : UInt8) (s : ByteArray) (k : Nat) (hs : s.size ≤ 1000000000) : ((splB c s).getD k ⟨#[]⟩).size ≤ 1000000000 := by
  by_cases h : k < (splB c s).length
  · rw [show (splB c s).getD k ⟨#[]⟩ = (splB c s)[k] by simp [List.getD_eq_getElem?_getD, h]]
    exact Nat.le_trans (splB_piece (List.getElem_mem h)) hs
  · rw [show (splB c s).getD k ⟨#[]⟩ = ⟨#[]⟩ by simp [List.getD_eq_getElem?_getD, Nat.le_of_not_lt h]]
    decide
theorem splB_empty {c : UInt8} {s : ByteArray} (h : s.size = 0) : splB c s = [⟨#[]⟩] := by
  rw [splB, size_zero h]
  rfl
theorem split_v {s : ByteArray} {c : UInt8} {w : World} {n : Nat} (hs : s.size ≤ 1000000000) (hn : (splB c s).length = n) :
    Calls Try.prog 23 #[.string s, .int .u8 c.toNat] w fun e w' => ∃ A cap, e = .returned (.slice A n cap) ∧ (∃ y, w' = ext w y) ∧ RS w' A (splB c s) := by
  subst hn
  refine (split_any hs).mono ?_
  rintro e w' ⟨v, F, rfl, hx, hS, _⟩
  obtain ⟨A, cap, rfl, _, _, r⟩ := hS.view sS_v
  exact ⟨A, cap, rfl, hx, r⟩
theorem split_c {s : ByteArray} (m : Int) (c : UInt8) {w : World} {n : Nat} (hs : s.size ≤ 1000000000) (hn : (splB c s).length = n) (hm : (c.toNat : Int) = m) :
    Calls Try.prog 23 #[.string s, .int .u8 m] w fun e w' => ∃ A cap, e = .returned (.slice A n cap) ∧ (∃ y, w' = ext w y) ∧ RS w' A (splB c s) := by
  subst hm
  exact split_v hs hn
theorem split_m {s : ByteArray} (m : Int) (c : UInt8) {w : World} (hs : s.size ≤ 1000000000) (hm : (c.toNat : Int) = m) :
    Calls Try.prog 23 #[.string s, .int .u8 m] w fun e w' => ∃ v F, e = .returned v ∧ (∃ y, w' = ext w y) ∧ SV 9 1 sS w' v (splB c s) F ∧ ∀ b ∈ F, w.heap.size ≤ b := by
  subst hm
  exact split_any hs
theorem l5Cut_m {s : ByteArray} (m : Int) (c : UInt8) {w : World} (hs : s.size ≤ 1000000000) (hm : (c.toNat : Int) = m) :
    Calls Try.prog 19 #[.string s, .int .u8 m] w fun e w' => ∃ v F, e = .returned v ∧ (∃ y, w' = ext w y) ∧ SV 9 1 sS w' v (splB c s) F ∧ ∀ b ∈ F, w.heap.size ≤ b := by
  subst hm
  exact l5Cut_any hs
end Go.Proofs.Ytedkmccfibaboaa
