/- Texts read as numbers and as rational numbers: plain laws, then the program's way and the reference's. -/
import Derived.Test.YthhdmdmjadpgjaaRatText
import Derived.Test.YthhdmdmjadpgjaaSplit
namespace Go.Proofs.Ythhdmdmjadpgjaa
open Go.RowKit

/-- the sign and the digits -/
def sgn (l : List UInt8) : Bool × List UInt8 := if l.head? = some 45 then (true, l.tail) else (false, l)
def rdL (l : List UInt8) : Int × Bool := if (sgn l).2 = [] ∨ 10 < (sgn l).2.length then (0, false) else match numG 0 (sgn l).2 with
  | none => (0, false)
  | some n => (if (sgn l).1 = true then -n else n, true)
def l2N (l : List UInt8) : Int := if (sgn l).2.length < 12 then (match numG 0 (sgn l).2 with
  | none => 0
  | some n => if (sgn l).1 = true then -n else n) else 0
theorem isD_45 : isD 45 = false := by decide
theorem isD_47 : isD 47 = false := by decide
theorem sgn_dec (n : Nat) : sgn (dec n) = (false, dec n) := by
  unfold sgn
  rw [if_neg]
  intro h
  have hm : (45 : UInt8) ∈ dec n := List.mem_of_mem_head? h
  exact isD_ne (dec_isD n _ hm) isD_45 rfl
theorem sgn_decI (z : Int) : sgn (bl (decI z)) = (decide (z < 0), dec z.natAbs) := by
  unfold decI
  split
  · rename_i h
    rw [bl_bs, decide_eq_true h]
    rfl
  · rename_i h
    rw [bl_bs, sgn_dec, decide_eq_false h]
theorem rdL_decI {z : Int} (h : z.natAbs < 10000000000) : rdL (bl (decI z)) = (z, true) := by
  have hl := dec_length 10 z.natAbs (by omega) h
  unfold rdL
  rw [sgn_decI, if_neg (by simp [dec_ne]; omega)]
  simp only [numG_dec, decide_eq_true_eq, Prod.mk.injEq, and_true]
  split <;> omega
theorem l2N_decI {z : Int} (h : z.natAbs < 10000000000) : l2N (bl (decI z)) = z := by
  have hl := dec_length 10 z.natAbs (by omega) h
  unfold l2N
  rw [sgn_decI, if_pos (by simp; omega)]
  simp only [numG_dec, decide_eq_true_eq]
  split <;> omega
theorem p10 {k : Nat} (h : k ≤ 11) : (10 : Int) ^ k ≤ 100000000000 := by
  have : (10 : Nat) ^ k ≤ 10 ^ 11 := Nat.pow_le_pow_right (by omega) h
  have h2 : ((10 ^ k : Nat) : Int) ≤ ((10 ^ 11 : Nat) : Int) := by exact_mod_cast this
  simpa using h2
theorem decI_47 (z : Int) : ∀ x ∈ bl (decI z), x ≠ 47 := by
  intro x hx
  unfold decI at hx
  split at hx
  · rw [bl_bs] at hx
    rcases List.mem_cons.1 hx with e | e
    · subst e; decide
    · exact isD_ne (dec_isD _ x e) isD_47
  · rw [bl_bs] at hx
    exact isD_ne (dec_isD _ x hx) isD_47
/-- the place of the first '/' -/
def sl : List UInt8 → Nat
  | [] => 0
  | x :: xs => if x = 47 then 0 else sl xs + 1
theorem sl_step {l : List UInt8} {k : Nat} (h : k < l.length) (hc : l[k] ≠ 47) : k + sl (l.drop k) = k + 1 + sl (l.drop (k + 1)) := by
  rw [List.drop_eq_getElem_cons h, sl, if_neg hc]
  omega
theorem sl_hit {l : List UInt8} {k : Nat} (h : k < l.length) (hc : l[k] = 47) : k + sl (l.drop k) = k := by
  rw [List.drop_eq_getElem_cons h, sl, if_pos hc]
  omega
theorem sl_end {l : List UInt8} {k : Nat} (h : ¬ k < l.length) : k + sl (l.drop k) = k := by
  rw [List.drop_eq_nil_of_le (by omega), sl]
  omega
theorem sl_none : ∀ {p : List UInt8}, (∀ x ∈ p, x ≠ 47) → sl p = p.length
  | [], _ => rfl
  | x :: p, h => by rw [sl, if_neg (h x (by simp)), sl_none fun y hy => h y (by simp [hy])]; rfl
theorem sl_two : ∀ {p : List UInt8} (_ : ∀ x ∈ p, x ≠ 47) (r : List UInt8), sl (p ++ 47 :: r) = p.length
  | [], _, r => by simp [sl]
  | x :: p, h, r => by rw [List.cons_append, sl, if_neg (h x (by simp)), sl_two (fun y hy => h y (by simp [hy])) r]; rfl
/-- a text read as a rational number: the program's way -/
def fin (r : Int × Int) (s : ByteArray) : Option (Int × Int) := if ratText r = s ∧ s.size ≠ 0 then some r else none
def pRat (s : ByteArray) : Option (Int × Int) :=
  let ws := splB 47 s
  let a := rdL (bl (ws.getD 0 ⟨#[]⟩))
  let b := rdL (bl (ws.getD 1 ⟨#[]⟩))
  if a.2 = true then (if ws.length = 2 then (if b.2 = true then fin (a.1, b.1) s else none) else if ws.length = 1 then fin (a.1, 1) s else none) else none
def pRs (s : ByteArray) : Option (Int × Int) :=
  if sl (bl s) < s.size then fin (l2N (bl (s.extract 0 (sl (bl s)))), l2N (bl (s.extract (sl (bl s) + 1) s.size))) s else fin (l2N (bl (s.extract 0 (sl (bl s)))), 1) s
theorem fin_some {r q : Int × Int} {s : ByteArray} (h : fin r s = some q) : r = q ∧ isVR q = true ∧ ratText q = s := by
  unfold fin at h
  split at h
  · rename_i h1
    injection h with h
    subst h
    refine ⟨rfl, Classical.byContradiction fun hv => ?_, h1.1⟩
    apply h1.2
    rw [← h1.1]
    unfold ratText
    rw [if_neg hv]
    rfl
  · cases h
theorem fin_self {r : Int × Int} (h : isVR r = true) : fin r (ratText r) = some r := by
  unfold fin
  have := (ratText_size h).1
  rw [if_pos ⟨rfl, by omega⟩]
theorem pRat_some {s : ByteArray} {r : Int × Int} (h : pRat s = some r) : isVR r = true ∧ ratText r = s := by
  unfold pRat at h
  simp only at h
  split at h
  · split at h
    · split at h
      · exact (fin_some h).2
      · cases h
    · split at h
      · exact (fin_some h).2
      · cases h
  · cases h
theorem pRs_some {s : ByteArray} {r : Int × Int} (h : pRs s = some r) : isVR r = true ∧ ratText r = s := by
  unfold pRs at h
  split at h
  · exact (fin_some h).2
  · exact (fin_some h).2
theorem ratText_one {r : Int × Int} (h : isVR r = true) (h1 : r.2 = 1) : ratText r = decI r.1 := by unfold ratText; rw [if_pos h, if_pos h1]
theorem ratText_two {r : Int × Int} (h : isVR r = true) (h1 : ¬ r.2 = 1) : bl (ratText r) = bl (decI r.1) ++ 47 :: bl (decI r.2) := by
  unfold ratText
  rw [if_pos h, if_neg h1]
  simp [bl]
theorem pRat_text {r : Int × Int} (h : isVR r = true) : pRat (ratText r) = some r := by
  have hf := fin_self h
  obtain ⟨p1, p2, p3, p4, _⟩ := isVR_t h
  unfold pRat
  simp only
  by_cases h1 : r.2 = 1
  · have hs : splB 47 (ratText r) = [decI r.1] := by
      rw [ratText_one h h1, splB, spl_none (decI_47 _)]
      rfl
    rw [hs]
    simp only [List.getD_cons_zero, rdL_decI (z := r.1) (by omega), List.length_cons, List.length_nil]
    simp only [if_true]
    rw [if_neg (by omega), show ((r.1, 1) : Int × Int) = r from Prod.ext rfl h1.symm]
    exact hf
  · have hs : splB 47 (ratText r) = [decI r.1, decI r.2] := by
      rw [splB, ratText_two h h1, spl_two (decI_47 _), spl_none (decI_47 _)]
      rfl
    rw [hs]
    simp only [List.getD_cons_zero, List.getD_cons_succ, rdL_decI (z := r.1) (by omega), rdL_decI (z := r.2) (by omega), List.length_cons, List.length_nil]
    simp only [if_true]
    exact hf
theorem pRs_text {r : Int × Int} (h : isVR r = true) : pRs (ratText r) = some r := by
  have hf := fin_self h
  obtain ⟨p1, p2, p3, p4, _⟩ := isVR_t h
  unfold pRs
  by_cases h1 : r.2 = 1
  · have e : sl (bl (ratText r)) = (ratText r).size := by rw [ratText_one h h1, sl_none (decI_47 _), bl_length]
    rw [e, if_neg (by omega)]
    have e2 : (ratText r).extract 0 (ratText r).size = ratText r := by rw [ext_bs, List.take_of_length_le (by rw [bl_length]; omega)]; rfl
    rw [e2]
    rw [show l2N (bl (ratText r)) = r.1 by rw [ratText_one h h1, l2N_decI (by omega)], show ((r.1, 1) : Int × Int) = r from Prod.ext rfl h1.symm]
    exact hf
  · have e := ratText_two h h1
    have e1 : sl (bl (ratText r)) = (bl (decI r.1)).length := by rw [e, sl_two (decI_47 _)]
    have e2 : (ratText r).size = (bl (decI r.1)).length + 1 + (bl (decI r.2)).length := by rw [← bl_length, e]; simp; omega
    rw [e1, if_pos (by omega), ext_bs, ext_bs, bl_bs, bl_bs, e, e2]
    rw [show ((bl (decI r.1) ++ 47 :: bl (decI r.2)).take (bl (decI r.1)).length).drop 0 = bl (decI r.1) by simp]
    rw [show ((bl (decI r.1) ++ 47 :: bl (decI r.2)).take ((bl (decI r.1)).length + 1 + (bl (decI r.2)).length)).drop ((bl (decI r.1)).length + 1) = bl (decI r.2) by
      rw [List.take_of_length_le (by simp; omega), List.drop_append, List.drop_eq_nil_of_le (by omega)]
      simp]
    rw [l2N_decI (by omega), l2N_decI (by omega)]
    exact hf
theorem pRs_eq (s : ByteArray) : pRs s = pRat s := by
  cases h : pRat s with
  | some r =>
    obtain ⟨h1, rfl⟩ := pRat_some h
    exact pRs_text h1
  | none =>
    cases h2 : pRs s with
    | none => rfl
    | some r =>
      obtain ⟨h1, rfl⟩ := pRs_some h2
      rw [pRat_text h1] at h
      cases h
end Go.Proofs.Ythhdmdmjadpgjaa
