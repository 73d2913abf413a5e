/- Linear programs: the laws' helpers, and whether one is valid; the program's way and the reference's. -/
import Derived.Test.YtnchebfemacebaaMat
import Derived.Test.YtnchebfemacebaaRowsD
import Derived.Test.YtnchebfemacebaaOpen
import Derived.Test.YtnchebfemacebaaBox3
namespace Go.Proofs.Ytnchebfemacebaa
open Go.RowKit

abbrev LPd := List (List (Int × Int)) × (List (Int × Int) × List (Int × Int))
abbrev vLP : VE LPd := vP 1 vRR (vP 1 (vSl 2 vR) (vSl 2 vR))
abbrev sLP : SE LPd := sP 1 sRR (sP 1 (sSl 25 2 sR) (sSl 25 2 sR))
theorem sLP_v {w : World} (c : List Value) (d : LPd) (F : List Nat) (h : sLP w c d F) : vLP w c d := sP_v (sRR_v) (sP_v (sSl_v sR_v) (sSl_v sR_v)) c d F h
def QLP (d : LPd) : Prop := QSS d.1 ∧ d.2.1.length ≤ maxLen ∧ d.2.2.length ≤ maxLen
def BLP (d : LPd) : Prop := BSS d.1 ∧ d.2.1.length ≤ 1048576 ∧ d.2.2.length ≤ 1048576
def szLP (left : Int) (d : LPd) : Int := if szN szR left d.1 < 0 then -1 else if szL (szN szR left d.1) d.2.1.length < 0 then -1 else szL (szL (szN szR left d.1) d.2.1.length) d.2.2.length
theorem vLP_shape {w : World} {c : List Value} {d : LPd} (h : vLP w c d) : ∃ A a B b C g, c = [.slice A d.1.length a, .slice B d.2.1.length b, .slice C d.2.2.length g] := by
  obtain ⟨c0, c1, e0, h0, ⟨A1, d1, rfl, k1⟩, c2, c3, e1, h2, ⟨A2, d2, rfl, k2⟩, A3, d3, rfl, k3⟩ := h
  subst e1
  exact ⟨_, _, _, _, _, _, e0⟩
theorem szL_neg {l : Int} {n : Nat} (h : szL l n < 0) : szL l n = -1 := by
  unfold szL at h ⊢
  split
  · rfl
  · rename_i h1; rw [if_neg h1] at h; omega
theorem szLP_parts {left : Int} {d : LPd} (h : 0 ≤ szLP left d) : 0 ≤ szN szR left d.1 ∧ 0 ≤ szL (szN szR left d.1) d.2.1.length ∧ 0 ≤ szL (szL (szN szR left d.1) d.2.1.length) d.2.2.length ∧ szLP left d = szL (szL (szN szR left d.1) d.2.1.length) d.2.2.length := by
  unfold szLP at h ⊢
  split at h
  · omega
  · split at h
    · omega
    · rename_i h1 h2
      rw [if_neg h1, if_neg h2]
      exact ⟨by omega, by omega, h, rfl⟩
theorem szLP_le {left : Int} {d : LPd} (h : 0 ≤ szLP left d) : szLP left d ≤ left := by
  obtain ⟨h1, h2, h3, e⟩ := szLP_parts h
  rw [e]
  have := szRR_le h1
  have := szL_le h2
  have := szL_le h3
  omega
theorem szLP_small {left : Int} {d : LPd} (h : 0 ≤ szLP left d) (hl : left ≤ 1048576) : BLP d := by
  obtain ⟨h1, h2, h3, _⟩ := szLP_parts h
  have := szRR_le h1
  have a1 := szL_small h2
  have a2 := szL_small h3
  have := szL_le h2
  exact ⟨szRR_small h1 hl, by omega, by omega⟩
theorem vSl2_get {w : World} {A : Option Addr} {n c : Nat} {d : List (Int × Int)} (h : vSl 2 vR w [.slice A n c] d) : n = d.length ∧ RR w A d := by
  obtain ⟨A', c', e, h⟩ := h
  injection e with e
  injection e with e1 e2 e3
  subst e1
  exact ⟨e2, h⟩
theorem vLP_get {w : World} {A B C : Option Addr} {c e g n m k : Nat} {d : LPd} (h : vLP w [.slice A n c, .slice B m e, .slice C k g] d) : vRR w [.slice A n c] d.1 ∧ RR w B d.2.1 ∧ RR w C d.2.2 := by
  obtain ⟨c0, c1, e0, h0, h1, c2, c3, e1, h2, h3, h4⟩ := h
  obtain ⟨A1, d1, rfl, k1⟩ := h1
  obtain ⟨A2, d2, rfl, k2⟩ := h3
  obtain ⟨A3, d3, rfl, k3⟩ := h4
  subst e1
  simp only [List.cons_append, List.nil_append, List.cons.injEq, Value.slice.injEq, and_true] at e0
  obtain ⟨⟨q1, q2, q3⟩, ⟨q4, q5, q6⟩, q7, q8, q9⟩ := e0
  subst q1 q2 q3 q4 q5 q6 q7 q8 q9
  exact ⟨⟨_, _, rfl, k1⟩, k2, k3⟩
set_option maxHeartbeats 1000000 in
theorem szLinearProgram_d {A B C : Option Addr} {c e' g : Nat} {d : LPd} {left : Int} {w : World} (hq : QLP d) (h : vLP w [.slice A d.1.length c, .slice B d.2.1.length e', .slice C d.2.2.length g] d) (h1 : 0 ≤ left) (h2 : left ≤ 1000000000) :
    Calls Try.prog 31 #[.agg #[.slice A d.1.length c, .slice B d.2.1.length e', .slice C d.2.2.length g], .int .i64 left] w fun e w' => e = .returned (.int .i64 (szLP left d)) ∧ ∃ y, w' = ext w y := by
  obtain ⟨r1, r2, r3⟩ := vLP_get h
  obtain ⟨q1, q2, q3⟩ := hq
  have m2 := le_maxLen q2
  have m3 := le_maxLen q3
  obtain ⟨l1, hl1⟩ : ∃ l, szN szR left d.1 = l := ⟨_, rfl⟩
  obtain ⟨l2, hl2⟩ : ∃ l, szL l1 d.2.1.length = l := ⟨_, rfl⟩
  obtain ⟨l3, hl3⟩ : ∃ l, szL l2 d.2.2.length = l := ⟨_, rfl⟩
  have H1 := Lib.hid hl1
  have H2 := Lib.hid hl2
  have H3 := Lib.hid hl3
  have e0 : szLP left d = if l1 < 0 then -1 else if l2 < 0 then -1 else l3 := by unfold szLP; rw [hl1, hl2, hl3]
  have b1 : 0 ≤ l1 → l1 ≤ left := fun h => by rw [← hl1] at h ⊢; exact szRR_le h
  have b2 : 0 ≤ l2 → l2 ≤ l1 := fun h => by rw [← hl2] at h ⊢; exact szL_le h
  have n3 : l3 < 0 → l3 = -1 := fun h => by rw [← hl3] at h ⊢; exact szL_neg h
  clear h q2 q3 hl1 hl2 hl3
  by_cases c1 : l1 < 0
  · rw [e0, if_pos c1]
    clear e0 b1 b2 n3
    go_enter Try.func31, Try.ntmps31
    go_wp2_with (go_at_call 36; refine (szRationalSS_d q1 (VD.toExt r1 (by refine Chg.isExt (F := []) ?_ (refl_ext _) (by simp); repeat (with_reducible (first | exact Chg.refl _ _ | exact Nat.le_refl _ | exact Chg.ofExt (by assumption) | refine Chg.trans0 ?_ (by assumption) | refine Chg.extS ?_ _ | refine Chg.alloc ?_ _ | refine Chg.drew ?_ | refine Chg.setCellE ?_ ?_ _ | refine le_addk ?_ _ | refine le_ext ?_ | refine le_alloc ?_ _ | refine le_setC ?_ _ _ | refine le_drew ?_ | assumption | (refine Nat.le_of_lt ?_; omega) | omega)))) h1 h2).mono ?_; rintro e w1 ⟨rfl, y1, rfl⟩; rw [H1.out])
    go_ret
    exact ⟨rfl, (by refine Chg.isExt (F := []) ?_ (refl_ext _) (by simp); repeat (with_reducible (first | exact Chg.refl _ _ | exact Nat.le_refl _ | exact Chg.ofExt (by assumption) | refine Chg.trans0 ?_ (by assumption) | refine Chg.extS ?_ _ | refine Chg.alloc ?_ _ | refine Chg.drew ?_ | refine Chg.setCellE ?_ ?_ _ | refine le_addk ?_ _ | refine le_ext ?_ | refine le_alloc ?_ _ | refine le_setC ?_ _ _ | refine le_drew ?_ | assumption | (refine Nat.le_of_lt ?_; omega) | omega)))⟩
  · have hb1 := b1 (by omega)
    by_cases c2 : l2 < 0
    · rw [e0, if_neg c1, if_pos c2]
      clear e0 b1 b2 n3
      go_enter Try.func31, Try.ntmps31
      go_wp2_with (first
        | (go_at_call 36; refine (szRationalSS_d q1 (VD.toExt r1 (by refine Chg.isExt (F := []) ?_ (refl_ext _) (by simp); repeat (with_reducible (first | exact Chg.refl _ _ | exact Nat.le_refl _ | exact Chg.ofExt (by assumption) | refine Chg.trans0 ?_ (by assumption) | refine Chg.extS ?_ _ | refine Chg.alloc ?_ _ | refine Chg.drew ?_ | refine Chg.setCellE ?_ ?_ _ | refine le_addk ?_ _ | refine le_ext ?_ | refine le_alloc ?_ _ | refine le_setC ?_ _ _ | refine le_drew ?_ | assumption | (refine Nat.le_of_lt ?_; omega) | omega)))) h1 h2).mono ?_; rintro e w1 ⟨rfl, y1, rfl⟩; rw [H1.out])
        | (go_at_call 15; refine (szRationalS_any (by omega) (by omega) (by omega)).mono ?_; rintro e w1 ⟨rfl, y1, rfl⟩; (first | rw [H2.out] | rw [H3.out])))
      go_ret
      exact ⟨rfl, (by refine Chg.isExt (F := []) ?_ (refl_ext _) (by simp); repeat (with_reducible (first | exact Chg.refl _ _ | exact Nat.le_refl _ | exact Chg.ofExt (by assumption) | refine Chg.trans0 ?_ (by assumption) | refine Chg.extS ?_ _ | refine Chg.alloc ?_ _ | refine Chg.drew ?_ | refine Chg.setCellE ?_ ?_ _ | refine le_addk ?_ _ | refine le_ext ?_ | refine le_alloc ?_ _ | refine le_setC ?_ _ _ | refine le_drew ?_ | assumption | (refine Nat.le_of_lt ?_; omega) | omega)))⟩
    · have hb2 := b2 (by omega)
      rw [e0, if_neg c1, if_neg c2]
      by_cases c3 : l3 < 0
      · have HN := Lib.hid (n3 c3)
        clear e0 b1 b2 n3
        go_enter Try.func31, Try.ntmps31
        go_wp2_with (first
          | (go_at_call 36; refine (szRationalSS_d q1 (VD.toExt r1 (by refine Chg.isExt (F := []) ?_ (refl_ext _) (by simp); repeat (with_reducible (first | exact Chg.refl _ _ | exact Nat.le_refl _ | exact Chg.ofExt (by assumption) | refine Chg.trans0 ?_ (by assumption) | refine Chg.extS ?_ _ | refine Chg.alloc ?_ _ | refine Chg.drew ?_ | refine Chg.setCellE ?_ ?_ _ | refine le_addk ?_ _ | refine le_ext ?_ | refine le_alloc ?_ _ | refine le_setC ?_ _ _ | refine le_drew ?_ | assumption | (refine Nat.le_of_lt ?_; omega) | omega)))) h1 h2).mono ?_; rintro e w1 ⟨rfl, y1, rfl⟩; rw [H1.out])
          | (go_at_call 15; refine (szRationalS_any (by omega) (by omega) (by omega)).mono ?_; rintro e w1 ⟨rfl, y1, rfl⟩; (first | rw [H2.out] | rw [H3.out])))
        go_ret
        exact ⟨by rw [HN.out]; rfl, (by refine Chg.isExt (F := []) ?_ (refl_ext _) (by simp); repeat (with_reducible (first | exact Chg.refl _ _ | exact Nat.le_refl _ | exact Chg.ofExt (by assumption) | refine Chg.trans0 ?_ (by assumption) | refine Chg.extS ?_ _ | refine Chg.alloc ?_ _ | refine Chg.drew ?_ | refine Chg.setCellE ?_ ?_ _ | refine le_addk ?_ _ | refine le_ext ?_ | refine le_alloc ?_ _ | refine le_setC ?_ _ _ | refine le_drew ?_ | assumption | (refine Nat.le_of_lt ?_; omega) | omega)))⟩
      · clear e0 b1 b2 n3
        go_enter Try.func31, Try.ntmps31
        go_wp2_with (first
          | (go_at_call 36; refine (szRationalSS_d q1 (VD.toExt r1 (by refine Chg.isExt (F := []) ?_ (refl_ext _) (by simp); repeat (with_reducible (first | exact Chg.refl _ _ | exact Nat.le_refl _ | exact Chg.ofExt (by assumption) | refine Chg.trans0 ?_ (by assumption) | refine Chg.extS ?_ _ | refine Chg.alloc ?_ _ | refine Chg.drew ?_ | refine Chg.setCellE ?_ ?_ _ | refine le_addk ?_ _ | refine le_ext ?_ | refine le_alloc ?_ _ | refine le_setC ?_ _ _ | refine le_drew ?_ | assumption | (refine Nat.le_of_lt ?_; omega) | omega)))) h1 h2).mono ?_; rintro e w1 ⟨rfl, y1, rfl⟩; rw [H1.out])
          | (go_at_call 15; refine (szRationalS_any (by omega) (by omega) (by omega)).mono ?_; rintro e w1 ⟨rfl, y1, rfl⟩; (first | rw [H2.out] | rw [H3.out])))
        go_ret
        exact ⟨rfl, (by refine Chg.isExt (F := []) ?_ (refl_ext _) (by simp); repeat (with_reducible (first | exact Chg.refl _ _ | exact Nat.le_refl _ | exact Chg.ofExt (by assumption) | refine Chg.trans0 ?_ (by assumption) | refine Chg.extS ?_ _ | refine Chg.alloc ?_ _ | refine Chg.drew ?_ | refine Chg.setCellE ?_ ?_ _ | refine le_addk ?_ _ | refine le_ext ?_ | refine le_alloc ?_ _ | refine le_setC ?_ _ _ | refine le_drew ?_ | assumption | (refine Nat.le_of_lt ?_; omega) | omega)))⟩
theorem sLP_form {w : World} {v0 v1 v2 : Value} {d : LPd} {F : List Nat} (h : sLP w [v0, v1, v2] d F) : ∃ A c B e C g, v0 = .slice A d.1.length c ∧ v1 = .slice B d.2.1.length e ∧ v2 = .slice C d.2.2.length g := by
  obtain ⟨c0, c1, F0, F1, e0, h0, ⟨u0, rfl, h1⟩, ⟨c2, c3, F2, F3, e1, h2, ⟨u1, rfl, h3⟩, ⟨u2, rfl, h4⟩, _⟩, _⟩ := h
  subst e1
  simp only [List.cons_append, List.nil_append, List.cons.injEq, and_true] at e0
  obtain ⟨rfl, rfl, rfl⟩ := e0
  obtain ⟨A, c, rfl, _⟩ := h1.form
  obtain ⟨B, e, rfl, _⟩ := h3.form
  obtain ⟨C, g, rfl, _⟩ := h4.form
  exact ⟨A, c, B, e, C, g, rfl, rfl, rfl⟩
set_option maxHeartbeats 1000000 in
theorem toLinearProgram_d {A B C : Option Addr} {c e' g : Nat} {d : LPd} {w : World} (hb : BLP d) (h : vLP w [.slice A d.1.length c, .slice B d.2.1.length e', .slice C d.2.2.length g] d) :
    Calls Try.prog 33 #[.agg #[.slice A d.1.length c, .slice B d.2.1.length e', .slice C d.2.2.length g]] w fun e w' => ∃ v0 v1 v2 F, e = .returned (.agg #[v0, v1, v2]) ∧ (∃ y, w' = ext w y) ∧ sLP w' [v0, v1, v2] d F ∧ F.Nodup ∧ ∀ b ∈ F, w.heap.size ≤ b := by
  obtain ⟨r1, r2, r3⟩ := vLP_get h
  obtain ⟨q1, q2, q3⟩ := hb
  clear h
  go_enter Try.func33, Try.ntmps33
  go_upto_region 1 with fail
  refine wp_name ?_
  intro w0 hw0
  have hx0 : ∃ y, w0 = ext w y := by rw [hw0.out]; exact (by refine Chg.isExt (F := []) ?_ (refl_ext _) (by simp); repeat (with_reducible (first | exact Chg.refl _ _ | exact Nat.le_refl _ | exact Chg.ofExt (by assumption) | refine Chg.trans0 ?_ (by assumption) | refine Chg.extS ?_ _ | refine Chg.alloc ?_ _ | refine Chg.drew ?_ | refine Chg.setCellE ?_ ?_ _ | refine le_addk ?_ _ | refine le_ext ?_ | refine le_alloc ?_ _ | refine le_setC ?_ _ _ | refine le_drew ?_ | assumption | (refine Nat.le_of_lt ?_; omega) | omega)))
  have P0 : BoxAt w0 w.heap.size #[.slice A d.1.length c, .slice B d.2.1.length e', .slice C d.2.2.length g] := by rw [hw0.out]; exact (by repeat (with_reducible (first | assumption | exact BoxAt.new _ _ _ | apply BoxAt.set3 | refine BoxAt.set3' ?_ (by omega) | apply BoxAt.set30 | apply BoxAt.set31 | apply BoxAt.set32 | apply BoxAt.set2 | refine BoxAt.set2' ?_ (by omega) | apply BoxAt.setP0 | apply BoxAt.setP1 | refine BoxAt.setO ?_ (by omega) | refine BoxAt.alloc ?_ _ | refine BoxAt.drew ?_ | refine BoxAt.toExt ?_ (by assumption))))
  have R0 : BoxAt w0 (w.heap.size + 1) #[.slice none 0 0, .slice none 0 0, .slice none 0 0] := by
    rw [hw0.out]
    simpa using BoxAt.new (w.alloc (.cells #[.slice A d.1.length c, .slice B d.2.1.length e', .slice C d.2.2.length g] 44)) #[.slice none 0 0, .slice none 0 0, .slice none 0 0] 49
  obtain ⟨l0, k0, k0', k0'', f0⟩ := box3 P0
  obtain ⟨m0, n0, n0', n0'', g0⟩ := box3 R0
  have hz0 := size_of_ext hx0
  clear hw0
  go_wp2_with (first
    | (go_at_call 38; refine (toRationalSS_d q1 (VD.toExt r1 (by refine Chg.isExt (F := []) ?_ (refl_ext _) (by simp); repeat (with_reducible (first | exact Chg.refl _ _ | exact Nat.le_refl _ | exact Chg.ofExt (by assumption) | refine Chg.trans0 ?_ (by assumption) | refine Chg.extS ?_ _ | refine Chg.alloc ?_ _ | refine Chg.drew ?_ | refine Chg.setCellE ?_ ?_ _ | refine le_addk ?_ _ | refine le_ext ?_ | refine le_alloc ?_ _ | refine le_setC ?_ _ _ | refine le_drew ?_ | assumption | (refine Nat.le_of_lt ?_; omega) | omega))))).mono ?_; rintro e w1 ⟨v1, F1, rfl, hx1, hS1, hN1, hF1⟩; obtain ⟨A1, c1, rfl⟩ := sRR_form hS1; have P1 : BoxAt w1 w.heap.size #[.slice A d.1.length c, .slice B d.2.1.length e', .slice C d.2.2.length g] := (by repeat (with_reducible (first | assumption | exact BoxAt.new _ _ _ | apply BoxAt.set3 | refine BoxAt.set3' ?_ (by omega) | apply BoxAt.set30 | apply BoxAt.set31 | apply BoxAt.set32 | apply BoxAt.set2 | refine BoxAt.set2' ?_ (by omega) | apply BoxAt.setP0 | apply BoxAt.setP1 | refine BoxAt.setO ?_ (by omega) | refine BoxAt.alloc ?_ _ | refine BoxAt.drew ?_ | refine BoxAt.toExt ?_ (by assumption)))); have R1 : BoxAt w1 (w.heap.size + 1) #[.slice none 0 0, .slice none 0 0, .slice none 0 0] := (by repeat (with_reducible (first | assumption | exact BoxAt.new _ _ _ | apply BoxAt.set3 | refine BoxAt.set3' ?_ (by omega) | apply BoxAt.set30 | apply BoxAt.set31 | apply BoxAt.set32 | apply BoxAt.set2 | refine BoxAt.set2' ?_ (by omega) | apply BoxAt.setP0 | apply BoxAt.setP1 | refine BoxAt.setO ?_ (by omega) | refine BoxAt.alloc ?_ _ | refine BoxAt.drew ?_ | refine BoxAt.toExt ?_ (by assumption)))); have O1 : BoxAt w1 w0.heap.size #[.slice none 0 0, .slice none 0 0, .slice none 0 0] := (by repeat (with_reducible (first | assumption | exact BoxAt.new _ _ _ | apply BoxAt.set3 | refine BoxAt.set3' ?_ (by omega) | apply BoxAt.set30 | apply BoxAt.set31 | apply BoxAt.set32 | apply BoxAt.set2 | refine BoxAt.set2' ?_ (by omega) | apply BoxAt.setP0 | apply BoxAt.setP1 | refine BoxAt.setO ?_ (by omega) | refine BoxAt.alloc ?_ _ | refine BoxAt.drew ?_ | refine BoxAt.toExt ?_ (by assumption)))); obtain ⟨l1, k1, k1', k1'', f1⟩ := box3 P1; obtain ⟨m1, n1, n1', n1'', g1⟩ := box3 O1; obtain ⟨o1, p1, p1', p1'', q1'⟩ := box3 R1)
    | (go_at_call 17; ((with_reducible refine (toRationalS_any q2 (r2.toExt ?_)).mono ?_); focus (exact (by refine Chg.isExt (F := []) ?_ (refl_ext _) (by simp); repeat (with_reducible (first | exact Chg.refl _ _ | exact Nat.le_refl _ | exact Chg.ofExt (by assumption) | refine Chg.trans0 ?_ (by assumption) | refine Chg.extS ?_ _ | refine Chg.alloc ?_ _ | refine Chg.drew ?_ | refine Chg.setCellE ?_ ?_ _ | refine le_addk ?_ _ | refine le_ext ?_ | refine le_alloc ?_ _ | refine le_setC ?_ _ _ | refine le_drew ?_ | assumption | (refine Nat.le_of_lt ?_; omega) | omega))))); rintro e w2 ⟨v2, F2, rfl, hx2, hS2, hF2⟩; obtain ⟨A2, c2, rfl, _⟩ := hS2.form; have P2 : BoxAt w2 w.heap.size #[.slice A d.1.length c, .slice B d.2.1.length e', .slice C d.2.2.length g] := (by repeat (with_reducible (first | assumption | exact BoxAt.new _ _ _ | apply BoxAt.set3 | refine BoxAt.set3' ?_ (by omega) | apply BoxAt.set30 | apply BoxAt.set31 | apply BoxAt.set32 | apply BoxAt.set2 | refine BoxAt.set2' ?_ (by omega) | apply BoxAt.setP0 | apply BoxAt.setP1 | refine BoxAt.setO ?_ (by omega) | refine BoxAt.alloc ?_ _ | refine BoxAt.drew ?_ | refine BoxAt.toExt ?_ (by assumption)))); have R2 : BoxAt w2 (w.heap.size + 1) #[.slice none 0 0, .slice none 0 0, .slice none 0 0] := (by repeat (with_reducible (first | assumption | exact BoxAt.new _ _ _ | apply BoxAt.set3 | refine BoxAt.set3' ?_ (by omega) | apply BoxAt.set30 | apply BoxAt.set31 | apply BoxAt.set32 | apply BoxAt.set2 | refine BoxAt.set2' ?_ (by omega) | apply BoxAt.setP0 | apply BoxAt.setP1 | refine BoxAt.setO ?_ (by omega) | refine BoxAt.alloc ?_ _ | refine BoxAt.drew ?_ | refine BoxAt.toExt ?_ (by assumption)))); have O2 : BoxAt w2 w0.heap.size #[.slice A1 d.1.length c1, .slice none 0 0, .slice none 0 0] := (by repeat (with_reducible (first | assumption | exact BoxAt.new _ _ _ | apply BoxAt.set3 | refine BoxAt.set3' ?_ (by omega) | apply BoxAt.set30 | apply BoxAt.set31 | apply BoxAt.set32 | apply BoxAt.set2 | refine BoxAt.set2' ?_ (by omega) | apply BoxAt.setP0 | apply BoxAt.setP1 | refine BoxAt.setO ?_ (by omega) | refine BoxAt.alloc ?_ _ | refine BoxAt.drew ?_ | refine BoxAt.toExt ?_ (by assumption)))); obtain ⟨l2, k2, k2', k2'', f2⟩ := box3 P2; obtain ⟨m2, n2, n2', n2'', g2⟩ := box3 O2; obtain ⟨o2, p2, p2', p2'', q2'⟩ := box3 R2)
    | (go_at_call 17; ((with_reducible refine (toRationalS_any q3 (r3.toExt ?_)).mono ?_); focus (exact (by refine Chg.isExt (F := []) ?_ (refl_ext _) (by simp); repeat (with_reducible (first | exact Chg.refl _ _ | exact Nat.le_refl _ | exact Chg.ofExt (by assumption) | refine Chg.trans0 ?_ (by assumption) | refine Chg.extS ?_ _ | refine Chg.alloc ?_ _ | refine Chg.drew ?_ | refine Chg.setCellE ?_ ?_ _ | refine le_addk ?_ _ | refine le_ext ?_ | refine le_alloc ?_ _ | refine le_setC ?_ _ _ | refine le_drew ?_ | assumption | (refine Nat.le_of_lt ?_; omega) | omega))))); rintro e w3 ⟨v3, F3, rfl, hx3, hS3, hF3⟩; obtain ⟨A3, c3, rfl, _⟩ := hS3.form; have P3 : BoxAt w3 w.heap.size #[.slice A d.1.length c, .slice B d.2.1.length e', .slice C d.2.2.length g] := (by repeat (with_reducible (first | assumption | exact BoxAt.new _ _ _ | apply BoxAt.set3 | refine BoxAt.set3' ?_ (by omega) | apply BoxAt.set30 | apply BoxAt.set31 | apply BoxAt.set32 | apply BoxAt.set2 | refine BoxAt.set2' ?_ (by omega) | apply BoxAt.setP0 | apply BoxAt.setP1 | refine BoxAt.setO ?_ (by omega) | refine BoxAt.alloc ?_ _ | refine BoxAt.drew ?_ | refine BoxAt.toExt ?_ (by assumption)))); have R3 : BoxAt w3 (w.heap.size + 1) #[.slice none 0 0, .slice none 0 0, .slice none 0 0] := (by repeat (with_reducible (first | assumption | exact BoxAt.new _ _ _ | apply BoxAt.set3 | refine BoxAt.set3' ?_ (by omega) | apply BoxAt.set30 | apply BoxAt.set31 | apply BoxAt.set32 | apply BoxAt.set2 | refine BoxAt.set2' ?_ (by omega) | apply BoxAt.setP0 | apply BoxAt.setP1 | refine BoxAt.setO ?_ (by omega) | refine BoxAt.alloc ?_ _ | refine BoxAt.drew ?_ | refine BoxAt.toExt ?_ (by assumption)))); have O3 : BoxAt w3 w0.heap.size #[.slice A1 d.1.length c1, .slice A2 d.2.1.length c2, .slice none 0 0] := (by repeat (with_reducible (first | assumption | exact BoxAt.new _ _ _ | apply BoxAt.set3 | refine BoxAt.set3' ?_ (by omega) | apply BoxAt.set30 | apply BoxAt.set31 | apply BoxAt.set32 | apply BoxAt.set2 | refine BoxAt.set2' ?_ (by omega) | apply BoxAt.setP0 | apply BoxAt.setP1 | refine BoxAt.setO ?_ (by omega) | refine BoxAt.alloc ?_ _ | refine BoxAt.drew ?_ | refine BoxAt.toExt ?_ (by assumption)))); obtain ⟨l3, k3, k3', k3'', f3⟩ := box3 P3; obtain ⟨m3, n3, n3', n3'', g3⟩ := box3 O3; obtain ⟨o3, p3, p3', p3'', q3'⟩ := box3 R3))
  have hz1 := size_of_ext hx1
  have hz2 := size_of_ext hx2
  have hz3 := size_of_ext hx3
  simp only [World.size_alloc, World.size_setCell] at hz1 hz2 hz3 hF1 hF2 hF3
  have a1 : ∀ b ∈ F1, b < w1.heap.size := SMono.lt hS1
  have a2 : ∀ b ∈ F2, b < w2.heap.size := hS2.lt
  refine bodyPost_ret (v := .agg #[.slice A1 d.1.length c1, .slice A2 d.2.1.length c2, .slice A3 d.2.2.length c3]) (by simp [results, Try.results33, go_sem, *]) rfl ⟨_, _, _, F1 ++ (F2 ++ F3), rfl, (by refine Chg.isExt (F := []) ?_ (refl_ext _) (by simp); repeat (with_reducible (first | exact Chg.refl _ _ | exact Nat.le_refl _ | exact Chg.ofExt (by assumption) | refine Chg.trans0 ?_ (by assumption) | refine Chg.extS ?_ _ | refine Chg.alloc ?_ _ | refine Chg.drew ?_ | refine Chg.setCellE ?_ ?_ _ | refine le_addk ?_ _ | refine le_ext ?_ | refine le_alloc ?_ _ | refine le_setC ?_ _ _ | refine le_drew ?_ | assumption | (refine Nat.le_of_lt ?_; omega) | omega))), sP_mk (OD.chg (G := [w0.heap.size, w.heap.size + 1]) hS1 (by repeat (with_reducible (first | exact Chg.refl _ _ | refine Chg.trans0 ?_ (by assumption) | refine Chg.extS ?_ _ | refine Chg.alloc ?_ _ | refine Chg.drew ?_ | refine Chg.setCell ?_ (.inl (by simp)) _))) ?_) (sP_mk ⟨_, rfl, hS2.chg (G := [w0.heap.size, w.heap.size + 1]) (by repeat (with_reducible (first | exact Chg.refl _ _ | refine Chg.trans0 ?_ (by assumption) | refine Chg.extS ?_ _ | refine Chg.alloc ?_ _ | refine Chg.drew ?_ | refine Chg.setCell ?_ (.inl (by simp)) _))) ?_⟩ ⟨_, rfl, hS3.chg (G := [w0.heap.size, w.heap.size + 1]) (by repeat (with_reducible (first | exact Chg.refl _ _ | refine Chg.trans0 ?_ (by assumption) | refine Chg.extS ?_ _ | refine Chg.alloc ?_ _ | refine Chg.drew ?_ | refine Chg.setCell ?_ (.inl (by simp)) _))) ?_⟩), ?_, ?_⟩
  · intro b hb h
    have := hF1 b hb
    simp at h
    omega
  · intro b hb h
    have := hF2 b hb
    simp at h
    omega
  · intro b hb h
    have := hF3 b hb
    simp at h
    omega
  · refine nodup_more (n := w1.heap.size) hN1 (nodup_more (n := w2.heap.size) hS2.nodup hS3.nodup a2 hF3) a1 ?_
    intro b hb
    rcases List.mem_append.1 hb with h | h
    · exact hF2 b h
    · have := hF3 b h; omega
  · intro b hb
    rcases List.mem_append.1 hb with h | h
    · have := hF1 b h; omega
    · rcases List.mem_append.1 h with h | h
      · have := hF2 b h; omega
      · have := hF3 b h; omega
set_option maxHeartbeats 1000000 in
theorem eqLinearProgram_d {A B C A' B' C' : Option Addr} {c e1 g c' e1' g' : Nat} {d d' : LPd} {w : World} (hb : BLP d) (h : vLP w [.slice A d.1.length c, .slice B d.2.1.length e1, .slice C d.2.2.length g] d) (hb' : BLP d') (h' : vLP w [.slice A' d'.1.length c', .slice B' d'.2.1.length e1', .slice C' d'.2.2.length g'] d') :
    Calls Try.prog 35 #[.agg #[.slice A d.1.length c, .slice B d.2.1.length e1, .slice C d.2.2.length g], .agg #[.slice A' d'.1.length c', .slice B' d'.2.1.length e1', .slice C' d'.2.2.length g']] w fun e w' => e = .returned (.bool (decide (d = d'))) ∧ ∃ y, w' = ext w y := by
  obtain ⟨r1, r2, r3⟩ := vLP_get h
  obtain ⟨b1, b2, b3⟩ := hb
  obtain ⟨s1, s2, s3⟩ := vLP_get h'
  obtain ⟨p1, p2, p3⟩ := hb'
  have m2 : d.2.1.length ≤ 1000000000 := by omega
  have m3 : d.2.2.length ≤ 1000000000 := by omega
  have n2 : d'.2.1.length ≤ 1000000000 := by omega
  have n3 : d'.2.2.length ≤ 1000000000 := by omega
  have HD := Lib.hid (show decide (d = d') = (decide (d.1 = d'.1) && decide (d.2.1 = d'.2.1) && decide (d.2.2 = d'.2.2)) by
    rw [Bool.eq_iff_iff]
    simp [Prod.ext_iff, and_assoc])
  obtain ⟨t1, ht1⟩ : ∃ t, decide (d.1 = d'.1) = t := ⟨_, rfl⟩
  obtain ⟨t2, ht2⟩ : ∃ t, decide (d.2.1 = d'.2.1) = t := ⟨_, rfl⟩
  obtain ⟨t3, ht3⟩ : ∃ t, decide (d.2.2 = d'.2.2) = t := ⟨_, rfl⟩
  have D1 := Lib.hid ht1
  have D2 := Lib.hid ht2
  have D3 := Lib.hid ht3
  have HE := Lib.hid (show decide (d = d') = (t1 && t2 && t3) by rw [HD.out, ht1, ht2, ht3])
  clear h h' ht1 ht2 ht3 HD
  cases t1 <;> cases t2 <;> cases t3
  all_goals
    go_enter Try.func35, Try.ntmps35
    go_upto_region 1 with fail
    refine wp_name ?_
    intro W hW
    have xW : ∃ y, W = ext w y := by rw [hW.out]; exact (by refine Chg.isExt (F := []) ?_ (refl_ext _) (by simp); repeat (with_reducible (first | exact Chg.refl _ _ | exact Nat.le_refl _ | exact Chg.ofExt (by assumption) | refine Chg.trans0 ?_ (by assumption) | refine Chg.extS ?_ _ | refine Chg.alloc ?_ _ | refine Chg.drew ?_ | refine Chg.setCellE ?_ ?_ _ | refine le_addk ?_ _ | refine le_ext ?_ | refine le_alloc ?_ _ | refine le_setC ?_ _ _ | refine le_drew ?_ | assumption | (refine Nat.le_of_lt ?_; omega) | omega)))
    have BW0 : BoxAt W (w.heap.size) #[.slice A d.1.length c, .slice B d.2.1.length e1, .slice C d.2.2.length g] := by rw [hW.out]; refine ⟨?_, fun j => ?_, fun j => ?_⟩ <;> go_simp
    obtain ⟨lW0, bW0, fW0⟩ := BW0
    have cW0_0 : W.cell? ⟨w.heap.size, 0, none⟩ = some (.slice A d.1.length c) := bW0 0
    have cW0_1 : W.cell? ⟨w.heap.size, 1, none⟩ = some (.slice B d.2.1.length e1) := bW0 1
    have cW0_2 : W.cell? ⟨w.heap.size, 2, none⟩ = some (.slice C d.2.2.length g) := bW0 2
    have BW1 : BoxAt W (w.heap.size + 1) #[.slice A' d'.1.length c', .slice B' d'.2.1.length e1', .slice C' d'.2.2.length g'] := by rw [hW.out]; refine ⟨?_, fun j => ?_, fun j => ?_⟩ <;> go_simp
    obtain ⟨lW1, bW1, fW1⟩ := BW1
    have cW1_0 : W.cell? ⟨w.heap.size + 1, 0, none⟩ = some (.slice A' d'.1.length c') := bW1 0
    have cW1_1 : W.cell? ⟨w.heap.size + 1, 1, none⟩ = some (.slice B' d'.2.1.length e1') := bW1 1
    have cW1_2 : W.cell? ⟨w.heap.size + 1, 2, none⟩ = some (.slice C' d'.2.2.length g') := bW1 2
    clear hW
    go_wp2_with (first
      | (go_at_call 40; refine (eqRationalSS_d b1 (VD.toExt r1 (by refine Chg.isExt (F := []) ?_ (refl_ext _) (by simp); repeat (with_reducible (first | exact Chg.refl _ _ | exact Nat.le_refl _ | exact Chg.ofExt (by assumption) | refine Chg.trans0 ?_ (by assumption) | refine Chg.extS ?_ _ | refine Chg.alloc ?_ _ | refine Chg.drew ?_ | refine Chg.setCellE ?_ ?_ _ | refine le_addk ?_ _ | refine le_ext ?_ | refine le_alloc ?_ _ | refine le_setC ?_ _ _ | refine le_drew ?_ | assumption | (refine Nat.le_of_lt ?_; omega) | omega)))) p1 (VD.toExt s1 (by refine Chg.isExt (F := []) ?_ (refl_ext _) (by simp); repeat (with_reducible (first | exact Chg.refl _ _ | exact Nat.le_refl _ | exact Chg.ofExt (by assumption) | refine Chg.trans0 ?_ (by assumption) | refine Chg.extS ?_ _ | refine Chg.alloc ?_ _ | refine Chg.drew ?_ | refine Chg.setCellE ?_ ?_ _ | refine le_addk ?_ _ | refine le_ext ?_ | refine le_alloc ?_ _ | refine le_setC ?_ _ _ | refine le_drew ?_ | assumption | (refine Nat.le_of_lt ?_; omega) | omega))))).mono ?_; rintro e w1 ⟨rfl, hx1⟩; rw [D1.out]; have P1 := BoxAt.toExt (cs := #[.slice A d.1.length c, .slice B d.2.1.length e1, .slice C d.2.2.length g]) ⟨lW0, bW0, fW0⟩ hx1; have Q1 := BoxAt.toExt (cs := #[.slice A' d'.1.length c', .slice B' d'.2.1.length e1', .slice C' d'.2.2.length g']) ⟨lW1, bW1, fW1⟩ hx1; obtain ⟨l1, a1, a1', a1'', f1⟩ := box3 P1; obtain ⟨o1, z1, z1', z1'', g1⟩ := box3 Q1)
      | (go_at_call 20; (with_reducible refine (eqRationalS_any m2 (r2.toExt ?_) n2 (s2.toExt ?_)).mono ?_); (focus (exact (by refine Chg.isExt (F := []) ?_ (refl_ext _) (by simp); repeat (with_reducible (first | exact Chg.refl _ _ | exact Nat.le_refl _ | exact Chg.ofExt (by assumption) | refine Chg.trans0 ?_ (by assumption) | refine Chg.extS ?_ _ | refine Chg.alloc ?_ _ | refine Chg.drew ?_ | refine Chg.setCellE ?_ ?_ _ | refine le_addk ?_ _ | refine le_ext ?_ | refine le_alloc ?_ _ | refine le_setC ?_ _ _ | refine le_drew ?_ | assumption | (refine Nat.le_of_lt ?_; omega) | omega))))); (focus (exact (by refine Chg.isExt (F := []) ?_ (refl_ext _) (by simp); repeat (with_reducible (first | exact Chg.refl _ _ | exact Nat.le_refl _ | exact Chg.ofExt (by assumption) | refine Chg.trans0 ?_ (by assumption) | refine Chg.extS ?_ _ | refine Chg.alloc ?_ _ | refine Chg.drew ?_ | refine Chg.setCellE ?_ ?_ _ | refine le_addk ?_ _ | refine le_ext ?_ | refine le_alloc ?_ _ | refine le_setC ?_ _ _ | refine le_drew ?_ | assumption | (refine Nat.le_of_lt ?_; omega) | omega))))); rintro e w2 ⟨rfl, hx2⟩; rw [D2.out]; have P2 := P1.toExt hx2; have Q2 := Q1.toExt hx2; obtain ⟨l2, a2, a2', a2'', f2⟩ := box3 P2; obtain ⟨o2, z2, z2', z2'', g2⟩ := box3 Q2)
      | (go_at_call 20; (with_reducible refine (eqRationalS_any m3 (r3.toExt ?_) n3 (s3.toExt ?_)).mono ?_); (focus (exact (by refine Chg.isExt (F := []) ?_ (refl_ext _) (by simp); repeat (with_reducible (first | exact Chg.refl _ _ | exact Nat.le_refl _ | exact Chg.ofExt (by assumption) | refine Chg.trans0 ?_ (by assumption) | refine Chg.extS ?_ _ | refine Chg.alloc ?_ _ | refine Chg.drew ?_ | refine Chg.setCellE ?_ ?_ _ | refine le_addk ?_ _ | refine le_ext ?_ | refine le_alloc ?_ _ | refine le_setC ?_ _ _ | refine le_drew ?_ | assumption | (refine Nat.le_of_lt ?_; omega) | omega))))); (focus (exact (by refine Chg.isExt (F := []) ?_ (refl_ext _) (by simp); repeat (with_reducible (first | exact Chg.refl _ _ | exact Nat.le_refl _ | exact Chg.ofExt (by assumption) | refine Chg.trans0 ?_ (by assumption) | refine Chg.extS ?_ _ | refine Chg.alloc ?_ _ | refine Chg.drew ?_ | refine Chg.setCellE ?_ ?_ _ | refine le_addk ?_ _ | refine le_ext ?_ | refine le_alloc ?_ _ | refine le_setC ?_ _ _ | refine le_drew ?_ | assumption | (refine Nat.le_of_lt ?_; omega) | omega))))); rintro e w3 ⟨rfl, hx3⟩; rw [D3.out]))
    go_ret
    exact ⟨by rw [HE.out]; rfl, (by refine Chg.isExt (F := []) ?_ (refl_ext _) (by simp); repeat (with_reducible (first | exact Chg.refl _ _ | exact Nat.le_refl _ | exact Chg.ofExt (by assumption) | refine Chg.trans0 ?_ (by assumption) | refine Chg.extS ?_ _ | refine Chg.alloc ?_ _ | refine Chg.drew ?_ | refine Chg.setCellE ?_ ?_ _ | refine le_addk ?_ _ | refine le_ext ?_ | refine le_alloc ?_ _ | refine le_setC ?_ _ _ | refine le_drew ?_ | assumption | (refine Nat.le_of_lt ?_; omega) | omega)))⟩
def lpOk (d : LPd) : Bool := inB d.2.2.length 1 5 && inB d.2.1.length 1 5 && decide (d.1.length = d.2.1.length) && allV d.2.1 && allV d.2.2 && d.1.all (rowB d.2.2.length)
set_option maxHeartbeats 2000000 in
theorem IsValidLinearProgram_any {A B C : Option Addr} {c e1 g : Nat} {d : LPd} {w : World} (hb : BLP d) (h : vLP w [.slice A d.1.length c, .slice B d.2.1.length e1, .slice C d.2.2.length g] d) :
    Calls Try.prog 34 #[.agg #[.slice A d.1.length c, .slice B d.2.1.length e1, .slice C d.2.2.length g]] w fun e w' => e = .returned (.bool (lpOk d)) ∧ ∃ y, w' = ext w y := by
  obtain ⟨r1, r2, r3⟩ := vLP_get h
  obtain ⟨b1, b2, b3⟩ := hb
  have r1 := (vRR_get r1).2
  have b4 := b1.1
  have m2 : d.2.1.length ≤ 1000000000 := by omega
  have m3 : d.2.2.length ≤ 1000000000 := by omega
  have Hb := Lib.hid b1.big
  obtain ⟨t1, ht1⟩ : ∃ t, inB d.2.2.length 1 5 = t := ⟨_, rfl⟩
  obtain ⟨t2, ht2⟩ : ∃ t, inB d.2.1.length 1 5 = t := ⟨_, rfl⟩
  obtain ⟨t3, ht3⟩ : ∃ t, decide (d.1.length = d.2.1.length) = t := ⟨_, rfl⟩
  obtain ⟨t4, ht4⟩ : ∃ t, allV d.2.1 = t := ⟨_, rfl⟩
  obtain ⟨t5, ht5⟩ : ∃ t, allV d.2.2 = t := ⟨_, rfl⟩
  have N1 := Lib.hid ht1
  have N2 := Lib.hid ht2
  have V2 := Lib.hid ht4
  have V3 := Lib.hid ht5
  have HE := Lib.hid (show lpOk d = (t1 && t2 && t3 && t4 && t5 && d.1.all (rowB d.2.2.length)) by unfold lpOk; rw [ht1, ht2, ht3, ht4, ht5])
  have hl3 : ((d.1.length : Int) != (d.2.1.length : Int)) = !t3 := by
    rw [← ht3]
    by_cases q : d.1.length = d.2.1.length
    · rw [int_bnet q, decide_eq_true q]; rfl
    · rw [int_bnef q, decide_eq_false q]; rfl
  clear h b1 ht1 ht2 ht3 ht4 ht5
  cases t1 with
  | false =>
    go_enter Try.func34, Try.ntmps34
    go_wp2_with (first
          | (go_at_call 72; refine (within_any _ _ _ _).mono ?_; rintro e w' ⟨rfl, rfl⟩; (first | rw [N1.out] | rw [N2.out]))
          | (go_at_call 73; ((with_reducible refine (allValid_any m2 (r2.toExt ?_)).mono ?_); focus (exact (by refine Chg.isExt (F := []) ?_ (refl_ext _) (by simp); repeat (with_reducible (first | exact Chg.refl _ _ | exact Nat.le_refl _ | exact Chg.ofExt (by assumption) | refine Chg.trans0 ?_ (by assumption) | refine Chg.extS ?_ _ | refine Chg.alloc ?_ _ | refine Chg.drew ?_ | refine Chg.setCellE ?_ ?_ _ | refine le_addk ?_ _ | refine le_ext ?_ | refine le_alloc ?_ _ | refine le_setC ?_ _ _ | refine le_drew ?_ | assumption | (refine Nat.le_of_lt ?_; omega) | omega))))); rintro e w1 ⟨rfl, y1, rfl⟩; rw [V2.out])
          | (go_at_call 73; ((with_reducible refine (allValid_any m3 (r3.toExt ?_)).mono ?_); focus (exact (by refine Chg.isExt (F := []) ?_ (refl_ext _) (by simp); repeat (with_reducible (first | exact Chg.refl _ _ | exact Nat.le_refl _ | exact Chg.ofExt (by assumption) | refine Chg.trans0 ?_ (by assumption) | refine Chg.extS ?_ _ | refine Chg.alloc ?_ _ | refine Chg.drew ?_ | refine Chg.setCellE ?_ ?_ _ | refine le_addk ?_ _ | refine le_ext ?_ | refine le_alloc ?_ _ | refine le_setC ?_ _ _ | refine le_drew ?_ | assumption | (refine Nat.le_of_lt ?_; omega) | omega))))); rintro e w1 ⟨rfl, y2, rfl⟩; rw [V3.out]))
    go_ret
    exact ⟨by rw [HE.out]; rfl, (by refine Chg.isExt (F := []) ?_ (refl_ext _) (by simp); repeat (with_reducible (first | exact Chg.refl _ _ | exact Nat.le_refl _ | exact Chg.ofExt (by assumption) | refine Chg.trans0 ?_ (by assumption) | refine Chg.extS ?_ _ | refine Chg.alloc ?_ _ | refine Chg.drew ?_ | refine Chg.setCellE ?_ ?_ _ | refine le_addk ?_ _ | refine le_ext ?_ | refine le_alloc ?_ _ | refine le_setC ?_ _ _ | refine le_drew ?_ | assumption | (refine Nat.le_of_lt ?_; omega) | omega)))⟩
  | true =>
    cases t2 with
    | false =>
      go_enter Try.func34, Try.ntmps34
      go_wp2_with (first
            | (go_at_call 72; refine (within_any _ _ _ _).mono ?_; rintro e w' ⟨rfl, rfl⟩; (first | rw [N1.out] | rw [N2.out]))
            | (go_at_call 73; ((with_reducible refine (allValid_any m2 (r2.toExt ?_)).mono ?_); focus (exact (by refine Chg.isExt (F := []) ?_ (refl_ext _) (by simp); repeat (with_reducible (first | exact Chg.refl _ _ | exact Nat.le_refl _ | exact Chg.ofExt (by assumption) | refine Chg.trans0 ?_ (by assumption) | refine Chg.extS ?_ _ | refine Chg.alloc ?_ _ | refine Chg.drew ?_ | refine Chg.setCellE ?_ ?_ _ | refine le_addk ?_ _ | refine le_ext ?_ | refine le_alloc ?_ _ | refine le_setC ?_ _ _ | refine le_drew ?_ | assumption | (refine Nat.le_of_lt ?_; omega) | omega))))); rintro e w1 ⟨rfl, y1, rfl⟩; rw [V2.out])
            | (go_at_call 73; ((with_reducible refine (allValid_any m3 (r3.toExt ?_)).mono ?_); focus (exact (by refine Chg.isExt (F := []) ?_ (refl_ext _) (by simp); repeat (with_reducible (first | exact Chg.refl _ _ | exact Nat.le_refl _ | exact Chg.ofExt (by assumption) | refine Chg.trans0 ?_ (by assumption) | refine Chg.extS ?_ _ | refine Chg.alloc ?_ _ | refine Chg.drew ?_ | refine Chg.setCellE ?_ ?_ _ | refine le_addk ?_ _ | refine le_ext ?_ | refine le_alloc ?_ _ | refine le_setC ?_ _ _ | refine le_drew ?_ | assumption | (refine Nat.le_of_lt ?_; omega) | omega))))); rintro e w1 ⟨rfl, y2, rfl⟩; rw [V3.out]))
      go_ret
      exact ⟨by rw [HE.out]; rfl, (by refine Chg.isExt (F := []) ?_ (refl_ext _) (by simp); repeat (with_reducible (first | exact Chg.refl _ _ | exact Nat.le_refl _ | exact Chg.ofExt (by assumption) | refine Chg.trans0 ?_ (by assumption) | refine Chg.extS ?_ _ | refine Chg.alloc ?_ _ | refine Chg.drew ?_ | refine Chg.setCellE ?_ ?_ _ | refine le_addk ?_ _ | refine le_ext ?_ | refine le_alloc ?_ _ | refine le_setC ?_ _ _ | refine le_drew ?_ | assumption | (refine Nat.le_of_lt ?_; omega) | omega)))⟩
    | true =>
      cases t3 with
      | false =>
        go_enter Try.func34, Try.ntmps34
        go_wp2_with (first
              | (go_at_call 72; refine (within_any _ _ _ _).mono ?_; rintro e w' ⟨rfl, rfl⟩; (first | rw [N1.out] | rw [N2.out]))
              | (go_at_call 73; ((with_reducible refine (allValid_any m2 (r2.toExt ?_)).mono ?_); focus (exact (by refine Chg.isExt (F := []) ?_ (refl_ext _) (by simp); repeat (with_reducible (first | exact Chg.refl _ _ | exact Nat.le_refl _ | exact Chg.ofExt (by assumption) | refine Chg.trans0 ?_ (by assumption) | refine Chg.extS ?_ _ | refine Chg.alloc ?_ _ | refine Chg.drew ?_ | refine Chg.setCellE ?_ ?_ _ | refine le_addk ?_ _ | refine le_ext ?_ | refine le_alloc ?_ _ | refine le_setC ?_ _ _ | refine le_drew ?_ | assumption | (refine Nat.le_of_lt ?_; omega) | omega))))); rintro e w1 ⟨rfl, y1, rfl⟩; rw [V2.out])
              | (go_at_call 73; ((with_reducible refine (allValid_any m3 (r3.toExt ?_)).mono ?_); focus (exact (by refine Chg.isExt (F := []) ?_ (refl_ext _) (by simp); repeat (with_reducible (first | exact Chg.refl _ _ | exact Nat.le_refl _ | exact Chg.ofExt (by assumption) | refine Chg.trans0 ?_ (by assumption) | refine Chg.extS ?_ _ | refine Chg.alloc ?_ _ | refine Chg.drew ?_ | refine Chg.setCellE ?_ ?_ _ | refine le_addk ?_ _ | refine le_ext ?_ | refine le_alloc ?_ _ | refine le_setC ?_ _ _ | refine le_drew ?_ | assumption | (refine Nat.le_of_lt ?_; omega) | omega))))); rintro e w1 ⟨rfl, y2, rfl⟩; rw [V3.out]))
        go_ret
        exact ⟨by rw [HE.out]; rfl, (by refine Chg.isExt (F := []) ?_ (refl_ext _) (by simp); repeat (with_reducible (first | exact Chg.refl _ _ | exact Nat.le_refl _ | exact Chg.ofExt (by assumption) | refine Chg.trans0 ?_ (by assumption) | refine Chg.extS ?_ _ | refine Chg.alloc ?_ _ | refine Chg.drew ?_ | refine Chg.setCellE ?_ ?_ _ | refine le_addk ?_ _ | refine le_ext ?_ | refine le_alloc ?_ _ | refine le_setC ?_ _ _ | refine le_drew ?_ | assumption | (refine Nat.le_of_lt ?_; omega) | omega)))⟩
      | true =>
        cases t4 with
        | false =>
          go_enter Try.func34, Try.ntmps34
          go_wp2_with (first
                | (go_at_call 72; refine (within_any _ _ _ _).mono ?_; rintro e w' ⟨rfl, rfl⟩; (first | rw [N1.out] | rw [N2.out]))
                | (go_at_call 73; ((with_reducible refine (allValid_any m2 (r2.toExt ?_)).mono ?_); focus (exact (by refine Chg.isExt (F := []) ?_ (refl_ext _) (by simp); repeat (with_reducible (first | exact Chg.refl _ _ | exact Nat.le_refl _ | exact Chg.ofExt (by assumption) | refine Chg.trans0 ?_ (by assumption) | refine Chg.extS ?_ _ | refine Chg.alloc ?_ _ | refine Chg.drew ?_ | refine Chg.setCellE ?_ ?_ _ | refine le_addk ?_ _ | refine le_ext ?_ | refine le_alloc ?_ _ | refine le_setC ?_ _ _ | refine le_drew ?_ | assumption | (refine Nat.le_of_lt ?_; omega) | omega))))); rintro e w1 ⟨rfl, y1, rfl⟩; rw [V2.out])
                | (go_at_call 73; ((with_reducible refine (allValid_any m3 (r3.toExt ?_)).mono ?_); focus (exact (by refine Chg.isExt (F := []) ?_ (refl_ext _) (by simp); repeat (with_reducible (first | exact Chg.refl _ _ | exact Nat.le_refl _ | exact Chg.ofExt (by assumption) | refine Chg.trans0 ?_ (by assumption) | refine Chg.extS ?_ _ | refine Chg.alloc ?_ _ | refine Chg.drew ?_ | refine Chg.setCellE ?_ ?_ _ | refine le_addk ?_ _ | refine le_ext ?_ | refine le_alloc ?_ _ | refine le_setC ?_ _ _ | refine le_drew ?_ | assumption | (refine Nat.le_of_lt ?_; omega) | omega))))); rintro e w1 ⟨rfl, y2, rfl⟩; rw [V3.out]))
          go_ret
          exact ⟨by rw [HE.out]; rfl, (by refine Chg.isExt (F := []) ?_ (refl_ext _) (by simp); repeat (with_reducible (first | exact Chg.refl _ _ | exact Nat.le_refl _ | exact Chg.ofExt (by assumption) | refine Chg.trans0 ?_ (by assumption) | refine Chg.extS ?_ _ | refine Chg.alloc ?_ _ | refine Chg.drew ?_ | refine Chg.setCellE ?_ ?_ _ | refine le_addk ?_ _ | refine le_ext ?_ | refine le_alloc ?_ _ | refine le_setC ?_ _ _ | refine le_drew ?_ | assumption | (refine Nat.le_of_lt ?_; omega) | omega)))⟩
        | true =>
          cases t5 with
          | false =>
            go_enter Try.func34, Try.ntmps34
            go_wp2_with (first
                  | (go_at_call 72; refine (within_any _ _ _ _).mono ?_; rintro e w' ⟨rfl, rfl⟩; (first | rw [N1.out] | rw [N2.out]))
                  | (go_at_call 73; ((with_reducible refine (allValid_any m2 (r2.toExt ?_)).mono ?_); focus (exact (by refine Chg.isExt (F := []) ?_ (refl_ext _) (by simp); repeat (with_reducible (first | exact Chg.refl _ _ | exact Nat.le_refl _ | exact Chg.ofExt (by assumption) | refine Chg.trans0 ?_ (by assumption) | refine Chg.extS ?_ _ | refine Chg.alloc ?_ _ | refine Chg.drew ?_ | refine Chg.setCellE ?_ ?_ _ | refine le_addk ?_ _ | refine le_ext ?_ | refine le_alloc ?_ _ | refine le_setC ?_ _ _ | refine le_drew ?_ | assumption | (refine Nat.le_of_lt ?_; omega) | omega))))); rintro e w1 ⟨rfl, y1, rfl⟩; rw [V2.out])
                  | (go_at_call 73; ((with_reducible refine (allValid_any m3 (r3.toExt ?_)).mono ?_); focus (exact (by refine Chg.isExt (F := []) ?_ (refl_ext _) (by simp); repeat (with_reducible (first | exact Chg.refl _ _ | exact Nat.le_refl _ | exact Chg.ofExt (by assumption) | refine Chg.trans0 ?_ (by assumption) | refine Chg.extS ?_ _ | refine Chg.alloc ?_ _ | refine Chg.drew ?_ | refine Chg.setCellE ?_ ?_ _ | refine le_addk ?_ _ | refine le_ext ?_ | refine le_alloc ?_ _ | refine le_setC ?_ _ _ | refine le_drew ?_ | assumption | (refine Nat.le_of_lt ?_; omega) | omega))))); rintro e w1 ⟨rfl, y2, rfl⟩; rw [V3.out]))
            go_ret
            exact ⟨by rw [HE.out]; rfl, (by refine Chg.isExt (F := []) ?_ (refl_ext _) (by simp); repeat (with_reducible (first | exact Chg.refl _ _ | exact Nat.le_refl _ | exact Chg.ofExt (by assumption) | refine Chg.trans0 ?_ (by assumption) | refine Chg.extS ?_ _ | refine Chg.alloc ?_ _ | refine Chg.drew ?_ | refine Chg.setCellE ?_ ?_ _ | refine le_addk ?_ _ | refine le_ext ?_ | refine le_alloc ?_ _ | refine le_setC ?_ _ _ | refine le_drew ?_ | assumption | (refine Nat.le_of_lt ?_; omega) | omega)))⟩
          | true =>
            have HE := Lib.hid (show lpOk d = d.1.all (rowB d.2.2.length) by rw [HE.out]; rfl)
            go_enter Try.func34, Try.ntmps34
            go_wp2_with (first
                  | (go_at_call 72; refine (within_any _ _ _ _).mono ?_; rintro e w' ⟨rfl, rfl⟩; (first | rw [N1.out] | rw [N2.out]))
                  | (go_at_call 73; ((with_reducible refine (allValid_any m2 (r2.toExt ?_)).mono ?_); focus (exact (by refine Chg.isExt (F := []) ?_ (refl_ext _) (by simp); repeat (with_reducible (first | exact Chg.refl _ _ | exact Nat.le_refl _ | exact Chg.ofExt (by assumption) | refine Chg.trans0 ?_ (by assumption) | refine Chg.extS ?_ _ | refine Chg.alloc ?_ _ | refine Chg.drew ?_ | refine Chg.setCellE ?_ ?_ _ | refine le_addk ?_ _ | refine le_ext ?_ | refine le_alloc ?_ _ | refine le_setC ?_ _ _ | refine le_drew ?_ | assumption | (refine Nat.le_of_lt ?_; omega) | omega))))); rintro e w1 ⟨rfl, y1, rfl⟩; rw [V2.out])
                  | (go_at_call 73; ((with_reducible refine (allValid_any m3 (r3.toExt ?_)).mono ?_); focus (exact (by refine Chg.isExt (F := []) ?_ (refl_ext _) (by simp); repeat (with_reducible (first | exact Chg.refl _ _ | exact Nat.le_refl _ | exact Chg.ofExt (by assumption) | refine Chg.trans0 ?_ (by assumption) | refine Chg.extS ?_ _ | refine Chg.alloc ?_ _ | refine Chg.drew ?_ | refine Chg.setCellE ?_ ?_ _ | refine le_addk ?_ _ | refine le_ext ?_ | refine le_alloc ?_ _ | refine le_setC ?_ _ _ | refine le_drew ?_ | assumption | (refine Nat.le_of_lt ?_; omega) | omega))))); rintro e w1 ⟨rfl, y2, rfl⟩; rw [V3.out]))
            have r1 : RRR _ A d.1 := r1
            go_loopw [43] (fun i wr => ∃ k : Nat, i = .int .i64 k ∧ k ≤ d.1.length ∧ (d.1.drop k).all (rowB d.2.2.length) = lpOk d ∧ ∃ y, wr = ext w y) (fun i _ => d.1.length - (intOf i).toNat)
            case atStart => exact ⟨0, rfl, by omega, by rw [HE.out]; simp, (by refine Chg.isExt (F := []) ?_ (refl_ext _) (by simp); repeat (with_reducible (first | exact Chg.refl _ _ | exact Nat.le_refl _ | exact Chg.ofExt (by assumption) | refine Chg.trans0 ?_ (by assumption) | refine Chg.extS ?_ _ | refine Chg.alloc ?_ _ | refine Chg.drew ?_ | refine Chg.setCellE ?_ ?_ _ | refine le_addk ?_ _ | refine le_ext ?_ | refine le_alloc ?_ _ | refine le_setC ?_ _ _ | refine le_drew ?_ | assumption | (refine Nat.le_of_lt ?_; omega) | omega)))⟩
            case round =>
              obtain ⟨k, rfl, hk, hj, hy⟩ := hrel
              have Hj := Lib.hid hj
              clear hj
              have r1' := r1.toExt hy
              by_cases hlt : k < d.1.length
              · obtain ⟨b, o, A1, c1, rfl, hb, hc, hv⟩ := r1'.atV hlt
                have hle := Hb.out d.1[k] (List.getElem_mem hlt)
                have e := Hj.out
                rw [all_step hlt] at e
                by_cases hlm : d.1[k].length = d.2.2.length
                · rw [rowB_eq hlm] at e
                  have hq := int_bnet hlm
                  clear hlm
                  obtain ⟨t, ht⟩ : ∃ t, allV d.1[k] = t := ⟨_, rfl⟩
                  have Hv := Lib.hid ht
                  rw [ht] at e
                  clear ht
                  cases t with
                  | true =>
                    rw [Bool.true_and] at e
                    have He := Lib.hid e
                    clear e
                    go_wp2_with (go_at_call 73; refine (allValid_any hle hv).mono ?_; rintro e w1 ⟨rfl, y9, rfl⟩; rw [Hv.out])
                    exact ⟨⟨k + 1, by go_num, by omega, He.out, (by refine Chg.isExt (F := []) ?_ (refl_ext _) (by simp); repeat (with_reducible (first | exact Chg.refl _ _ | exact Nat.le_refl _ | exact Chg.ofExt (by assumption) | refine Chg.trans0 ?_ (by assumption) | refine Chg.extS ?_ _ | refine Chg.alloc ?_ _ | refine Chg.drew ?_ | refine Chg.setCellE ?_ ?_ _ | refine le_addk ?_ _ | refine le_ext ?_ | refine le_alloc ?_ _ | refine le_setC ?_ _ _ | refine le_drew ?_ | assumption | (refine Nat.le_of_lt ?_; omega) | omega)))⟩, by simp [intOf]; omega⟩
                  | false =>
                    rw [Bool.false_and] at e
                    have He := Lib.hid e
                    clear e
                    go_wp2_with (go_at_call 73; refine (allValid_any hle hv).mono ?_; rintro e w1 ⟨rfl, y9, rfl⟩; rw [Hv.out])
                    go_ret
                    exact ⟨by rw [← He.out]; rfl, (by refine Chg.isExt (F := []) ?_ (refl_ext _) (by simp); repeat (with_reducible (first | exact Chg.refl _ _ | exact Nat.le_refl _ | exact Chg.ofExt (by assumption) | refine Chg.trans0 ?_ (by assumption) | refine Chg.extS ?_ _ | refine Chg.alloc ?_ _ | refine Chg.drew ?_ | refine Chg.setCellE ?_ ?_ _ | refine le_addk ?_ _ | refine le_ext ?_ | refine le_alloc ?_ _ | refine le_setC ?_ _ _ | refine le_drew ?_ | assumption | (refine Nat.le_of_lt ?_; omega) | omega)))⟩
                · rw [rowB_len hlm, Bool.false_and] at e
                  have hq := int_bnef hlm
                  have He := Lib.hid e
                  clear e hlm
                  go_wp2
                  go_ret
                  exact ⟨by rw [← He.out]; rfl, hy⟩
              · have e := Hj.out
                rw [all_endk hlt] at e
                have He := Lib.hid e
                clear e
                go_wp2
                go_ret
                exact ⟨by rw [← He.out]; rfl, hy⟩
theorem one_view {B : Option Addr} {c : Nat} {d : List (Int × Int)} {t : TypeId} (w : World) (h : RR (w.alloc (.cells #[.slice B d.length c] t)) B d) : RRR (w.alloc (.cells #[.slice B d.length c] t)) (some ⟨w.heap.size, 0, none⟩) [d] := fun _ =>
  ⟨w.heap.size, 0, rfl, by simp, fun j hj => by
    have hj : j = 0 := by simpa using hj
    subst hj
    exact ⟨[.slice B d.length c], rfl, fun i hi => by
      have hi : i = 0 := by simpa using hi
      subst hi
      simp, _, _, rfl, h⟩⟩
theorem sq_one (d : List (Int × Int)) : sqB [d] 1 d.length = allV d := by
  unfold sqB
  simp [rowB_eq]
theorem l13Square_1 {B : Option Addr} {c : Nat} {d : List (Int × Int)} {t : TypeId} {w : World} (hm : d.length ≤ 1000000000) (h : RR (w.alloc (.cells #[.slice B d.length c] t)) B d) :
    Calls Try.prog 71 #[.slice (some ⟨w.heap.size, 0, none⟩) 1 1, .int .i64 1, .int .i64 d.length] (w.alloc (.cells #[.slice B d.length c] t)) fun e w' => e = .returned (.bool (allV d)) ∧ ∃ y, w' = ext (w.alloc (.cells #[.slice B d.length c] t)) y := by
  have := l13Square_any (xs := [d]) (n := 1) (m := d.length) (c := 1) (by simp) (one_view w h) (by simpa using hm) (by omega) hm
  rw [sq_one] at this
  exact this
set_option maxHeartbeats 2000000 in
theorem specIsValidLinearProgram_any {A B C : Option Addr} {c e1 g : Nat} {d : LPd} {w : World} (hb : BLP d) (h : vLP w [.slice A d.1.length c, .slice B d.2.1.length e1, .slice C d.2.2.length g] d) :
    Calls Try.prog 32 #[.agg #[.slice A d.1.length c, .slice B d.2.1.length e1, .slice C d.2.2.length g]] w fun e w' => e = .returned (.bool (lpOk d)) ∧ ∃ y, w' = ext w y := by
  obtain ⟨r1, r2, r3⟩ := vLP_get h
  obtain ⟨b1, b2, b3⟩ := hb
  have r1 := (vRR_get r1).2
  have b4 : d.1.length ≤ 1000000000 := Nat.le_trans b1.1 (by omega)
  have m2 : d.2.1.length ≤ 1000000000 := by omega
  have m3 : d.2.2.length ≤ 1000000000 := by omega
  have Hb := Lib.hid b1.big
  have h2 := sq_one d.2.1
  have h3 := sq_one d.2.2
  obtain ⟨t1, ht1⟩ : ∃ t, inB d.2.2.length 1 5 = t := ⟨_, rfl⟩
  obtain ⟨t2, ht2⟩ : ∃ t, inB d.2.1.length 1 5 = t := ⟨_, rfl⟩
  obtain ⟨t3, ht3⟩ : ∃ t, sqB d.1 d.2.1.length d.2.2.length = t := ⟨_, rfl⟩
  obtain ⟨t4, ht4⟩ : ∃ t, allV d.2.1 = t := ⟨_, rfl⟩
  obtain ⟨t5, ht5⟩ : ∃ t, allV d.2.2 = t := ⟨_, rfl⟩
  have N1 := Lib.hid ht1
  have N2 := Lib.hid ht2
  have V1 := Lib.hid ht3
  have V2 := Lib.hid ht4
  have V3 := Lib.hid ht5
  have HE := Lib.hid (show lpOk d = (t1 && t2 && t3 && t5 && t4) by
    unfold lpOk
    unfold sqB at ht3
    rw [ht1, ht2, ht4, ht5, ← ht3]
    cases t1 <;> cases t2 <;> cases t4 <;> cases t5 <;> simp [Bool.and_comm])
  clear h b1 ht1 ht2 ht3 ht4 ht5 h2 h3
  cases t1 with
  | false =>
    go_enter Try.func32, Try.ntmps32
    go_upto_region 1 with fail
    refine wp_name ?_
    intro W hW
    have xW : ∃ y, W = ext w y := by rw [hW.out]; exact (by refine Chg.isExt (F := []) ?_ (refl_ext _) (by simp); repeat (with_reducible (first | exact Chg.refl _ _ | exact Nat.le_refl _ | exact Chg.ofExt (by assumption) | refine Chg.trans0 ?_ (by assumption) | refine Chg.extS ?_ _ | refine Chg.alloc ?_ _ | refine Chg.drew ?_ | refine Chg.setCellE ?_ ?_ _ | refine le_addk ?_ _ | refine le_ext ?_ | refine le_alloc ?_ _ | refine le_setC ?_ _ _ | refine le_drew ?_ | assumption | (refine Nat.le_of_lt ?_; omega) | omega)))
    have BW0 : BoxAt W (w.heap.size) #[.slice A d.1.length c, .slice B d.2.1.length e1, .slice C d.2.2.length g] := by rw [hW.out]; refine ⟨?_, fun j => ?_, fun j => ?_⟩ <;> go_simp
    obtain ⟨lW0, bW0, fW0⟩ := BW0
    have cW0_0 : W.cell? ⟨w.heap.size, 0, none⟩ = some (.slice A d.1.length c) := bW0 0
    have cW0_1 : W.cell? ⟨w.heap.size, 1, none⟩ = some (.slice B d.2.1.length e1) := bW0 1
    have cW0_2 : W.cell? ⟨w.heap.size, 2, none⟩ = some (.slice C d.2.2.length g) := bW0 2
    clear hW
    go_wp2_with (first
      | (go_at_call 70; refine (l1In_any _ _ _ _).mono ?_; rintro e w' ⟨rfl, rfl⟩; (first | rw [N1.out] | rw [N2.out]))
      | (go_at_call 71; (with_reducible refine (l13Square_any (n := d.2.1.length) (m := d.2.2.length) b4 (r1.toExt ?_) Hb.out m2 m3).mono ?_); (focus (exact (by refine Chg.isExt (F := []) ?_ (refl_ext _) (by simp); repeat (with_reducible (first | exact Chg.refl _ _ | exact Nat.le_refl _ | exact Chg.ofExt (by assumption) | refine Chg.trans0 ?_ (by assumption) | refine Chg.extS ?_ _ | refine Chg.alloc ?_ _ | refine Chg.drew ?_ | refine Chg.setCellE ?_ ?_ _ | refine le_addk ?_ _ | refine le_ext ?_ | refine le_alloc ?_ _ | refine le_setC ?_ _ _ | refine le_drew ?_ | assumption | (refine Nat.le_of_lt ?_; omega) | omega))))); rintro e w1 ⟨rfl, hx1⟩; rw [V1.out]; have P1 := BoxAt.toExt (cs := #[.slice A d.1.length c, .slice B d.2.1.length e1, .slice C d.2.2.length g]) ⟨lW0, bW0, fW0⟩ hx1; obtain ⟨l1, a1, a1', a1'', f1⟩ := box3 P1)
      | (go_at_call 71; (with_reducible refine (l13Square_1 (d := d.2.2) m3 (r3.toExt ?_)).mono ?_); (focus (exact (by refine Chg.isExt (F := []) ?_ (refl_ext _) (by simp); repeat (with_reducible (first | exact Chg.refl _ _ | exact Nat.le_refl _ | exact Chg.ofExt (by assumption) | refine Chg.trans0 ?_ (by assumption) | refine Chg.extS ?_ _ | refine Chg.alloc ?_ _ | refine Chg.drew ?_ | refine Chg.setCellE ?_ ?_ _ | refine le_addk ?_ _ | refine le_ext ?_ | refine le_alloc ?_ _ | refine le_setC ?_ _ _ | refine le_drew ?_ | assumption | (refine Nat.le_of_lt ?_; omega) | omega))))); rintro e w2 ⟨rfl, hx2⟩; rw [V3.out]; have P2 : BoxAt w2 w.heap.size #[.slice A d.1.length c, .slice B d.2.1.length e1, .slice C d.2.2.length g] := (by repeat (with_reducible (first | assumption | exact BoxAt.new _ _ _ | apply BoxAt.set3 | refine BoxAt.set3' ?_ (by omega) | apply BoxAt.set30 | apply BoxAt.set31 | apply BoxAt.set32 | apply BoxAt.set2 | refine BoxAt.set2' ?_ (by omega) | apply BoxAt.setP0 | apply BoxAt.setP1 | refine BoxAt.setO ?_ (by omega) | refine BoxAt.alloc ?_ _ | refine BoxAt.drew ?_ | refine BoxAt.toExt ?_ (by assumption)))); obtain ⟨l2, a2, a2', a2'', f2⟩ := box3 P2)
      | (go_at_call 71; (with_reducible refine (l13Square_1 (d := d.2.1) m2 (r2.toExt ?_)).mono ?_); (focus (exact (by refine Chg.isExt (F := []) ?_ (refl_ext _) (by simp); repeat (with_reducible (first | exact Chg.refl _ _ | exact Nat.le_refl _ | exact Chg.ofExt (by assumption) | refine Chg.trans0 ?_ (by assumption) | refine Chg.extS ?_ _ | refine Chg.alloc ?_ _ | refine Chg.drew ?_ | refine Chg.setCellE ?_ ?_ _ | refine le_addk ?_ _ | refine le_ext ?_ | refine le_alloc ?_ _ | refine le_setC ?_ _ _ | refine le_drew ?_ | assumption | (refine Nat.le_of_lt ?_; omega) | omega))))); rintro e w3 ⟨rfl, hx3⟩; rw [V2.out]))
    go_ret
    exact ⟨by rw [HE.out]; rfl, (by refine Chg.isExt (F := []) ?_ (refl_ext _) (by simp); repeat (with_reducible (first | exact Chg.refl _ _ | exact Nat.le_refl _ | exact Chg.ofExt (by assumption) | refine Chg.trans0 ?_ (by assumption) | refine Chg.extS ?_ _ | refine Chg.alloc ?_ _ | refine Chg.drew ?_ | refine Chg.setCellE ?_ ?_ _ | refine le_addk ?_ _ | refine le_ext ?_ | refine le_alloc ?_ _ | refine le_setC ?_ _ _ | refine le_drew ?_ | assumption | (refine Nat.le_of_lt ?_; omega) | omega)))⟩
  | true =>
    cases t2 with
    | false =>
      go_enter Try.func32, Try.ntmps32
      go_upto_region 1 with fail
      refine wp_name ?_
      intro W hW
      have xW : ∃ y, W = ext w y := by rw [hW.out]; exact (by refine Chg.isExt (F := []) ?_ (refl_ext _) (by simp); repeat (with_reducible (first | exact Chg.refl _ _ | exact Nat.le_refl _ | exact Chg.ofExt (by assumption) | refine Chg.trans0 ?_ (by assumption) | refine Chg.extS ?_ _ | refine Chg.alloc ?_ _ | refine Chg.drew ?_ | refine Chg.setCellE ?_ ?_ _ | refine le_addk ?_ _ | refine le_ext ?_ | refine le_alloc ?_ _ | refine le_setC ?_ _ _ | refine le_drew ?_ | assumption | (refine Nat.le_of_lt ?_; omega) | omega)))
      have BW0 : BoxAt W (w.heap.size) #[.slice A d.1.length c, .slice B d.2.1.length e1, .slice C d.2.2.length g] := by rw [hW.out]; refine ⟨?_, fun j => ?_, fun j => ?_⟩ <;> go_simp
      obtain ⟨lW0, bW0, fW0⟩ := BW0
      have cW0_0 : W.cell? ⟨w.heap.size, 0, none⟩ = some (.slice A d.1.length c) := bW0 0
      have cW0_1 : W.cell? ⟨w.heap.size, 1, none⟩ = some (.slice B d.2.1.length e1) := bW0 1
      have cW0_2 : W.cell? ⟨w.heap.size, 2, none⟩ = some (.slice C d.2.2.length g) := bW0 2
      clear hW
      go_wp2_with (first
        | (go_at_call 70; refine (l1In_any _ _ _ _).mono ?_; rintro e w' ⟨rfl, rfl⟩; (first | rw [N1.out] | rw [N2.out]))
        | (go_at_call 71; (with_reducible refine (l13Square_any (n := d.2.1.length) (m := d.2.2.length) b4 (r1.toExt ?_) Hb.out m2 m3).mono ?_); (focus (exact (by refine Chg.isExt (F := []) ?_ (refl_ext _) (by simp); repeat (with_reducible (first | exact Chg.refl _ _ | exact Nat.le_refl _ | exact Chg.ofExt (by assumption) | refine Chg.trans0 ?_ (by assumption) | refine Chg.extS ?_ _ | refine Chg.alloc ?_ _ | refine Chg.drew ?_ | refine Chg.setCellE ?_ ?_ _ | refine le_addk ?_ _ | refine le_ext ?_ | refine le_alloc ?_ _ | refine le_setC ?_ _ _ | refine le_drew ?_ | assumption | (refine Nat.le_of_lt ?_; omega) | omega))))); rintro e w1 ⟨rfl, hx1⟩; rw [V1.out]; have P1 := BoxAt.toExt (cs := #[.slice A d.1.length c, .slice B d.2.1.length e1, .slice C d.2.2.length g]) ⟨lW0, bW0, fW0⟩ hx1; obtain ⟨l1, a1, a1', a1'', f1⟩ := box3 P1)
        | (go_at_call 71; (with_reducible refine (l13Square_1 (d := d.2.2) m3 (r3.toExt ?_)).mono ?_); (focus (exact (by refine Chg.isExt (F := []) ?_ (refl_ext _) (by simp); repeat (with_reducible (first | exact Chg.refl _ _ | exact Nat.le_refl _ | exact Chg.ofExt (by assumption) | refine Chg.trans0 ?_ (by assumption) | refine Chg.extS ?_ _ | refine Chg.alloc ?_ _ | refine Chg.drew ?_ | refine Chg.setCellE ?_ ?_ _ | refine le_addk ?_ _ | refine le_ext ?_ | refine le_alloc ?_ _ | refine le_setC ?_ _ _ | refine le_drew ?_ | assumption | (refine Nat.le_of_lt ?_; omega) | omega))))); rintro e w2 ⟨rfl, hx2⟩; rw [V3.out]; have P2 : BoxAt w2 w.heap.size #[.slice A d.1.length c, .slice B d.2.1.length e1, .slice C d.2.2.length g] := (by repeat (with_reducible (first | assumption | exact BoxAt.new _ _ _ | apply BoxAt.set3 | refine BoxAt.set3' ?_ (by omega) | apply BoxAt.set30 | apply BoxAt.set31 | apply BoxAt.set32 | apply BoxAt.set2 | refine BoxAt.set2' ?_ (by omega) | apply BoxAt.setP0 | apply BoxAt.setP1 | refine BoxAt.setO ?_ (by omega) | refine BoxAt.alloc ?_ _ | refine BoxAt.drew ?_ | refine BoxAt.toExt ?_ (by assumption)))); obtain ⟨l2, a2, a2', a2'', f2⟩ := box3 P2)
        | (go_at_call 71; (with_reducible refine (l13Square_1 (d := d.2.1) m2 (r2.toExt ?_)).mono ?_); (focus (exact (by refine Chg.isExt (F := []) ?_ (refl_ext _) (by simp); repeat (with_reducible (first | exact Chg.refl _ _ | exact Nat.le_refl _ | exact Chg.ofExt (by assumption) | refine Chg.trans0 ?_ (by assumption) | refine Chg.extS ?_ _ | refine Chg.alloc ?_ _ | refine Chg.drew ?_ | refine Chg.setCellE ?_ ?_ _ | refine le_addk ?_ _ | refine le_ext ?_ | refine le_alloc ?_ _ | refine le_setC ?_ _ _ | refine le_drew ?_ | assumption | (refine Nat.le_of_lt ?_; omega) | omega))))); rintro e w3 ⟨rfl, hx3⟩; rw [V2.out]))
      go_ret
      exact ⟨by rw [HE.out]; rfl, (by refine Chg.isExt (F := []) ?_ (refl_ext _) (by simp); repeat (with_reducible (first | exact Chg.refl _ _ | exact Nat.le_refl _ | exact Chg.ofExt (by assumption) | refine Chg.trans0 ?_ (by assumption) | refine Chg.extS ?_ _ | refine Chg.alloc ?_ _ | refine Chg.drew ?_ | refine Chg.setCellE ?_ ?_ _ | refine le_addk ?_ _ | refine le_ext ?_ | refine le_alloc ?_ _ | refine le_setC ?_ _ _ | refine le_drew ?_ | assumption | (refine Nat.le_of_lt ?_; omega) | omega)))⟩
    | true =>
      cases t3 with
      | false =>
        go_enter Try.func32, Try.ntmps32
        go_upto_region 1 with fail
        refine wp_name ?_
        intro W hW
        have xW : ∃ y, W = ext w y := by rw [hW.out]; exact (by refine Chg.isExt (F := []) ?_ (refl_ext _) (by simp); repeat (with_reducible (first | exact Chg.refl _ _ | exact Nat.le_refl _ | exact Chg.ofExt (by assumption) | refine Chg.trans0 ?_ (by assumption) | refine Chg.extS ?_ _ | refine Chg.alloc ?_ _ | refine Chg.drew ?_ | refine Chg.setCellE ?_ ?_ _ | refine le_addk ?_ _ | refine le_ext ?_ | refine le_alloc ?_ _ | refine le_setC ?_ _ _ | refine le_drew ?_ | assumption | (refine Nat.le_of_lt ?_; omega) | omega)))
        have BW0 : BoxAt W (w.heap.size) #[.slice A d.1.length c, .slice B d.2.1.length e1, .slice C d.2.2.length g] := by rw [hW.out]; refine ⟨?_, fun j => ?_, fun j => ?_⟩ <;> go_simp
        obtain ⟨lW0, bW0, fW0⟩ := BW0
        have cW0_0 : W.cell? ⟨w.heap.size, 0, none⟩ = some (.slice A d.1.length c) := bW0 0
        have cW0_1 : W.cell? ⟨w.heap.size, 1, none⟩ = some (.slice B d.2.1.length e1) := bW0 1
        have cW0_2 : W.cell? ⟨w.heap.size, 2, none⟩ = some (.slice C d.2.2.length g) := bW0 2
        clear hW
        go_wp2_with (first
          | (go_at_call 70; refine (l1In_any _ _ _ _).mono ?_; rintro e w' ⟨rfl, rfl⟩; (first | rw [N1.out] | rw [N2.out]))
          | (go_at_call 71; (with_reducible refine (l13Square_any (n := d.2.1.length) (m := d.2.2.length) b4 (r1.toExt ?_) Hb.out m2 m3).mono ?_); (focus (exact (by refine Chg.isExt (F := []) ?_ (refl_ext _) (by simp); repeat (with_reducible (first | exact Chg.refl _ _ | exact Nat.le_refl _ | exact Chg.ofExt (by assumption) | refine Chg.trans0 ?_ (by assumption) | refine Chg.extS ?_ _ | refine Chg.alloc ?_ _ | refine Chg.drew ?_ | refine Chg.setCellE ?_ ?_ _ | refine le_addk ?_ _ | refine le_ext ?_ | refine le_alloc ?_ _ | refine le_setC ?_ _ _ | refine le_drew ?_ | assumption | (refine Nat.le_of_lt ?_; omega) | omega))))); rintro e w1 ⟨rfl, hx1⟩; rw [V1.out]; have P1 := BoxAt.toExt (cs := #[.slice A d.1.length c, .slice B d.2.1.length e1, .slice C d.2.2.length g]) ⟨lW0, bW0, fW0⟩ hx1; obtain ⟨l1, a1, a1', a1'', f1⟩ := box3 P1)
          | (go_at_call 71; (with_reducible refine (l13Square_1 (d := d.2.2) m3 (r3.toExt ?_)).mono ?_); (focus (exact (by refine Chg.isExt (F := []) ?_ (refl_ext _) (by simp); repeat (with_reducible (first | exact Chg.refl _ _ | exact Nat.le_refl _ | exact Chg.ofExt (by assumption) | refine Chg.trans0 ?_ (by assumption) | refine Chg.extS ?_ _ | refine Chg.alloc ?_ _ | refine Chg.drew ?_ | refine Chg.setCellE ?_ ?_ _ | refine le_addk ?_ _ | refine le_ext ?_ | refine le_alloc ?_ _ | refine le_setC ?_ _ _ | refine le_drew ?_ | assumption | (refine Nat.le_of_lt ?_; omega) | omega))))); rintro e w2 ⟨rfl, hx2⟩; rw [V3.out]; have P2 : BoxAt w2 w.heap.size #[.slice A d.1.length c, .slice B d.2.1.length e1, .slice C d.2.2.length g] := (by repeat (with_reducible (first | assumption | exact BoxAt.new _ _ _ | apply BoxAt.set3 | refine BoxAt.set3' ?_ (by omega) | apply BoxAt.set30 | apply BoxAt.set31 | apply BoxAt.set32 | apply BoxAt.set2 | refine BoxAt.set2' ?_ (by omega) | apply BoxAt.setP0 | apply BoxAt.setP1 | refine BoxAt.setO ?_ (by omega) | refine BoxAt.alloc ?_ _ | refine BoxAt.drew ?_ | refine BoxAt.toExt ?_ (by assumption)))); obtain ⟨l2, a2, a2', a2'', f2⟩ := box3 P2)
          | (go_at_call 71; (with_reducible refine (l13Square_1 (d := d.2.1) m2 (r2.toExt ?_)).mono ?_); (focus (exact (by refine Chg.isExt (F := []) ?_ (refl_ext _) (by simp); repeat (with_reducible (first | exact Chg.refl _ _ | exact Nat.le_refl _ | exact Chg.ofExt (by assumption) | refine Chg.trans0 ?_ (by assumption) | refine Chg.extS ?_ _ | refine Chg.alloc ?_ _ | refine Chg.drew ?_ | refine Chg.setCellE ?_ ?_ _ | refine le_addk ?_ _ | refine le_ext ?_ | refine le_alloc ?_ _ | refine le_setC ?_ _ _ | refine le_drew ?_ | assumption | (refine Nat.le_of_lt ?_; omega) | omega))))); rintro e w3 ⟨rfl, hx3⟩; rw [V2.out]))
        go_ret
        exact ⟨by rw [HE.out]; rfl, (by refine Chg.isExt (F := []) ?_ (refl_ext _) (by simp); repeat (with_reducible (first | exact Chg.refl _ _ | exact Nat.le_refl _ | exact Chg.ofExt (by assumption) | refine Chg.trans0 ?_ (by assumption) | refine Chg.extS ?_ _ | refine Chg.alloc ?_ _ | refine Chg.drew ?_ | refine Chg.setCellE ?_ ?_ _ | refine le_addk ?_ _ | refine le_ext ?_ | refine le_alloc ?_ _ | refine le_setC ?_ _ _ | refine le_drew ?_ | assumption | (refine Nat.le_of_lt ?_; omega) | omega)))⟩
      | true =>
        cases t5 with
        | false =>
          go_enter Try.func32, Try.ntmps32
          go_upto_region 1 with fail
          refine wp_name ?_
          intro W hW
          have xW : ∃ y, W = ext w y := by rw [hW.out]; exact (by refine Chg.isExt (F := []) ?_ (refl_ext _) (by simp); repeat (with_reducible (first | exact Chg.refl _ _ | exact Nat.le_refl _ | exact Chg.ofExt (by assumption) | refine Chg.trans0 ?_ (by assumption) | refine Chg.extS ?_ _ | refine Chg.alloc ?_ _ | refine Chg.drew ?_ | refine Chg.setCellE ?_ ?_ _ | refine le_addk ?_ _ | refine le_ext ?_ | refine le_alloc ?_ _ | refine le_setC ?_ _ _ | refine le_drew ?_ | assumption | (refine Nat.le_of_lt ?_; omega) | omega)))
          have BW0 : BoxAt W (w.heap.size) #[.slice A d.1.length c, .slice B d.2.1.length e1, .slice C d.2.2.length g] := by rw [hW.out]; refine ⟨?_, fun j => ?_, fun j => ?_⟩ <;> go_simp
          obtain ⟨lW0, bW0, fW0⟩ := BW0
          have cW0_0 : W.cell? ⟨w.heap.size, 0, none⟩ = some (.slice A d.1.length c) := bW0 0
          have cW0_1 : W.cell? ⟨w.heap.size, 1, none⟩ = some (.slice B d.2.1.length e1) := bW0 1
          have cW0_2 : W.cell? ⟨w.heap.size, 2, none⟩ = some (.slice C d.2.2.length g) := bW0 2
          clear hW
          go_wp2_with (first
            | (go_at_call 70; refine (l1In_any _ _ _ _).mono ?_; rintro e w' ⟨rfl, rfl⟩; (first | rw [N1.out] | rw [N2.out]))
            | (go_at_call 71; (with_reducible refine (l13Square_any (n := d.2.1.length) (m := d.2.2.length) b4 (r1.toExt ?_) Hb.out m2 m3).mono ?_); (focus (exact (by refine Chg.isExt (F := []) ?_ (refl_ext _) (by simp); repeat (with_reducible (first | exact Chg.refl _ _ | exact Nat.le_refl _ | exact Chg.ofExt (by assumption) | refine Chg.trans0 ?_ (by assumption) | refine Chg.extS ?_ _ | refine Chg.alloc ?_ _ | refine Chg.drew ?_ | refine Chg.setCellE ?_ ?_ _ | refine le_addk ?_ _ | refine le_ext ?_ | refine le_alloc ?_ _ | refine le_setC ?_ _ _ | refine le_drew ?_ | assumption | (refine Nat.le_of_lt ?_; omega) | omega))))); rintro e w1 ⟨rfl, hx1⟩; rw [V1.out]; have P1 := BoxAt.toExt (cs := #[.slice A d.1.length c, .slice B d.2.1.length e1, .slice C d.2.2.length g]) ⟨lW0, bW0, fW0⟩ hx1; obtain ⟨l1, a1, a1', a1'', f1⟩ := box3 P1)
            | (go_at_call 71; (with_reducible refine (l13Square_1 (d := d.2.2) m3 (r3.toExt ?_)).mono ?_); (focus (exact (by refine Chg.isExt (F := []) ?_ (refl_ext _) (by simp); repeat (with_reducible (first | exact Chg.refl _ _ | exact Nat.le_refl _ | exact Chg.ofExt (by assumption) | refine Chg.trans0 ?_ (by assumption) | refine Chg.extS ?_ _ | refine Chg.alloc ?_ _ | refine Chg.drew ?_ | refine Chg.setCellE ?_ ?_ _ | refine le_addk ?_ _ | refine le_ext ?_ | refine le_alloc ?_ _ | refine le_setC ?_ _ _ | refine le_drew ?_ | assumption | (refine Nat.le_of_lt ?_; omega) | omega))))); rintro e w2 ⟨rfl, hx2⟩; rw [V3.out]; have P2 : BoxAt w2 w.heap.size #[.slice A d.1.length c, .slice B d.2.1.length e1, .slice C d.2.2.length g] := (by repeat (with_reducible (first | assumption | exact BoxAt.new _ _ _ | apply BoxAt.set3 | refine BoxAt.set3' ?_ (by omega) | apply BoxAt.set30 | apply BoxAt.set31 | apply BoxAt.set32 | apply BoxAt.set2 | refine BoxAt.set2' ?_ (by omega) | apply BoxAt.setP0 | apply BoxAt.setP1 | refine BoxAt.setO ?_ (by omega) | refine BoxAt.alloc ?_ _ | refine BoxAt.drew ?_ | refine BoxAt.toExt ?_ (by assumption)))); obtain ⟨l2, a2, a2', a2'', f2⟩ := box3 P2)
            | (go_at_call 71; (with_reducible refine (l13Square_1 (d := d.2.1) m2 (r2.toExt ?_)).mono ?_); (focus (exact (by refine Chg.isExt (F := []) ?_ (refl_ext _) (by simp); repeat (with_reducible (first | exact Chg.refl _ _ | exact Nat.le_refl _ | exact Chg.ofExt (by assumption) | refine Chg.trans0 ?_ (by assumption) | refine Chg.extS ?_ _ | refine Chg.alloc ?_ _ | refine Chg.drew ?_ | refine Chg.setCellE ?_ ?_ _ | refine le_addk ?_ _ | refine le_ext ?_ | refine le_alloc ?_ _ | refine le_setC ?_ _ _ | refine le_drew ?_ | assumption | (refine Nat.le_of_lt ?_; omega) | omega))))); rintro e w3 ⟨rfl, hx3⟩; rw [V2.out]))
          go_ret
          exact ⟨by rw [HE.out]; rfl, (by refine Chg.isExt (F := []) ?_ (refl_ext _) (by simp); repeat (with_reducible (first | exact Chg.refl _ _ | exact Nat.le_refl _ | exact Chg.ofExt (by assumption) | refine Chg.trans0 ?_ (by assumption) | refine Chg.extS ?_ _ | refine Chg.alloc ?_ _ | refine Chg.drew ?_ | refine Chg.setCellE ?_ ?_ _ | refine le_addk ?_ _ | refine le_ext ?_ | refine le_alloc ?_ _ | refine le_setC ?_ _ _ | refine le_drew ?_ | assumption | (refine Nat.le_of_lt ?_; omega) | omega)))⟩
        | true =>
          cases t4 with
          | false =>
            go_enter Try.func32, Try.ntmps32
            go_upto_region 1 with fail
            refine wp_name ?_
            intro W hW
            have xW : ∃ y, W = ext w y := by rw [hW.out]; exact (by refine Chg.isExt (F := []) ?_ (refl_ext _) (by simp); repeat (with_reducible (first | exact Chg.refl _ _ | exact Nat.le_refl _ | exact Chg.ofExt (by assumption) | refine Chg.trans0 ?_ (by assumption) | refine Chg.extS ?_ _ | refine Chg.alloc ?_ _ | refine Chg.drew ?_ | refine Chg.setCellE ?_ ?_ _ | refine le_addk ?_ _ | refine le_ext ?_ | refine le_alloc ?_ _ | refine le_setC ?_ _ _ | refine le_drew ?_ | assumption | (refine Nat.le_of_lt ?_; omega) | omega)))
            have BW0 : BoxAt W (w.heap.size) #[.slice A d.1.length c, .slice B d.2.1.length e1, .slice C d.2.2.length g] := by rw [hW.out]; refine ⟨?_, fun j => ?_, fun j => ?_⟩ <;> go_simp
            obtain ⟨lW0, bW0, fW0⟩ := BW0
            have cW0_0 : W.cell? ⟨w.heap.size, 0, none⟩ = some (.slice A d.1.length c) := bW0 0
            have cW0_1 : W.cell? ⟨w.heap.size, 1, none⟩ = some (.slice B d.2.1.length e1) := bW0 1
            have cW0_2 : W.cell? ⟨w.heap.size, 2, none⟩ = some (.slice C d.2.2.length g) := bW0 2
            clear hW
            go_wp2_with (first
              | (go_at_call 70; refine (l1In_any _ _ _ _).mono ?_; rintro e w' ⟨rfl, rfl⟩; (first | rw [N1.out] | rw [N2.out]))
              | (go_at_call 71; (with_reducible refine (l13Square_any (n := d.2.1.length) (m := d.2.2.length) b4 (r1.toExt ?_) Hb.out m2 m3).mono ?_); (focus (exact (by refine Chg.isExt (F := []) ?_ (refl_ext _) (by simp); repeat (with_reducible (first | exact Chg.refl _ _ | exact Nat.le_refl _ | exact Chg.ofExt (by assumption) | refine Chg.trans0 ?_ (by assumption) | refine Chg.extS ?_ _ | refine Chg.alloc ?_ _ | refine Chg.drew ?_ | refine Chg.setCellE ?_ ?_ _ | refine le_addk ?_ _ | refine le_ext ?_ | refine le_alloc ?_ _ | refine le_setC ?_ _ _ | refine le_drew ?_ | assumption | (refine Nat.le_of_lt ?_; omega) | omega))))); rintro e w1 ⟨rfl, hx1⟩; rw [V1.out]; have P1 := BoxAt.toExt (cs := #[.slice A d.1.length c, .slice B d.2.1.length e1, .slice C d.2.2.length g]) ⟨lW0, bW0, fW0⟩ hx1; obtain ⟨l1, a1, a1', a1'', f1⟩ := box3 P1)
              | (go_at_call 71; (with_reducible refine (l13Square_1 (d := d.2.2) m3 (r3.toExt ?_)).mono ?_); (focus (exact (by refine Chg.isExt (F := []) ?_ (refl_ext _) (by simp); repeat (with_reducible (first | exact Chg.refl _ _ | exact Nat.le_refl _ | exact Chg.ofExt (by assumption) | refine Chg.trans0 ?_ (by assumption) | refine Chg.extS ?_ _ | refine Chg.alloc ?_ _ | refine Chg.drew ?_ | refine Chg.setCellE ?_ ?_ _ | refine le_addk ?_ _ | refine le_ext ?_ | refine le_alloc ?_ _ | refine le_setC ?_ _ _ | refine le_drew ?_ | assumption | (refine Nat.le_of_lt ?_; omega) | omega))))); rintro e w2 ⟨rfl, hx2⟩; rw [V3.out]; have P2 : BoxAt w2 w.heap.size #[.slice A d.1.length c, .slice B d.2.1.length e1, .slice C d.2.2.length g] := (by repeat (with_reducible (first | assumption | exact BoxAt.new _ _ _ | apply BoxAt.set3 | refine BoxAt.set3' ?_ (by omega) | apply BoxAt.set30 | apply BoxAt.set31 | apply BoxAt.set32 | apply BoxAt.set2 | refine BoxAt.set2' ?_ (by omega) | apply BoxAt.setP0 | apply BoxAt.setP1 | refine BoxAt.setO ?_ (by omega) | refine BoxAt.alloc ?_ _ | refine BoxAt.drew ?_ | refine BoxAt.toExt ?_ (by assumption)))); obtain ⟨l2, a2, a2', a2'', f2⟩ := box3 P2)
              | (go_at_call 71; (with_reducible refine (l13Square_1 (d := d.2.1) m2 (r2.toExt ?_)).mono ?_); (focus (exact (by refine Chg.isExt (F := []) ?_ (refl_ext _) (by simp); repeat (with_reducible (first | exact Chg.refl _ _ | exact Nat.le_refl _ | exact Chg.ofExt (by assumption) | refine Chg.trans0 ?_ (by assumption) | refine Chg.extS ?_ _ | refine Chg.alloc ?_ _ | refine Chg.drew ?_ | refine Chg.setCellE ?_ ?_ _ | refine le_addk ?_ _ | refine le_ext ?_ | refine le_alloc ?_ _ | refine le_setC ?_ _ _ | refine le_drew ?_ | assumption | (refine Nat.le_of_lt ?_; omega) | omega))))); rintro e w3 ⟨rfl, hx3⟩; rw [V2.out]))
            go_ret
            exact ⟨by rw [HE.out]; rfl, (by refine Chg.isExt (F := []) ?_ (refl_ext _) (by simp); repeat (with_reducible (first | exact Chg.refl _ _ | exact Nat.le_refl _ | exact Chg.ofExt (by assumption) | refine Chg.trans0 ?_ (by assumption) | refine Chg.extS ?_ _ | refine Chg.alloc ?_ _ | refine Chg.drew ?_ | refine Chg.setCellE ?_ ?_ _ | refine le_addk ?_ _ | refine le_ext ?_ | refine le_alloc ?_ _ | refine le_setC ?_ _ _ | refine le_drew ?_ | assumption | (refine Nat.le_of_lt ?_; omega) | omega)))⟩
          | true =>
            go_enter Try.func32, Try.ntmps32
            go_upto_region 1 with fail
            refine wp_name ?_
            intro W hW
            have xW : ∃ y, W = ext w y := by rw [hW.out]; exact (by refine Chg.isExt (F := []) ?_ (refl_ext _) (by simp); repeat (with_reducible (first | exact Chg.refl _ _ | exact Nat.le_refl _ | exact Chg.ofExt (by assumption) | refine Chg.trans0 ?_ (by assumption) | refine Chg.extS ?_ _ | refine Chg.alloc ?_ _ | refine Chg.drew ?_ | refine Chg.setCellE ?_ ?_ _ | refine le_addk ?_ _ | refine le_ext ?_ | refine le_alloc ?_ _ | refine le_setC ?_ _ _ | refine le_drew ?_ | assumption | (refine Nat.le_of_lt ?_; omega) | omega)))
            have BW0 : BoxAt W (w.heap.size) #[.slice A d.1.length c, .slice B d.2.1.length e1, .slice C d.2.2.length g] := by rw [hW.out]; refine ⟨?_, fun j => ?_, fun j => ?_⟩ <;> go_simp
            obtain ⟨lW0, bW0, fW0⟩ := BW0
            have cW0_0 : W.cell? ⟨w.heap.size, 0, none⟩ = some (.slice A d.1.length c) := bW0 0
            have cW0_1 : W.cell? ⟨w.heap.size, 1, none⟩ = some (.slice B d.2.1.length e1) := bW0 1
            have cW0_2 : W.cell? ⟨w.heap.size, 2, none⟩ = some (.slice C d.2.2.length g) := bW0 2
            clear hW
            go_wp2_with (first
              | (go_at_call 70; refine (l1In_any _ _ _ _).mono ?_; rintro e w' ⟨rfl, rfl⟩; (first | rw [N1.out] | rw [N2.out]))
              | (go_at_call 71; (with_reducible refine (l13Square_any (n := d.2.1.length) (m := d.2.2.length) b4 (r1.toExt ?_) Hb.out m2 m3).mono ?_); (focus (exact (by refine Chg.isExt (F := []) ?_ (refl_ext _) (by simp); repeat (with_reducible (first | exact Chg.refl _ _ | exact Nat.le_refl _ | exact Chg.ofExt (by assumption) | refine Chg.trans0 ?_ (by assumption) | refine Chg.extS ?_ _ | refine Chg.alloc ?_ _ | refine Chg.drew ?_ | refine Chg.setCellE ?_ ?_ _ | refine le_addk ?_ _ | refine le_ext ?_ | refine le_alloc ?_ _ | refine le_setC ?_ _ _ | refine le_drew ?_ | assumption | (refine Nat.le_of_lt ?_; omega) | omega))))); rintro e w1 ⟨rfl, hx1⟩; rw [V1.out]; have P1 := BoxAt.toExt (cs := #[.slice A d.1.length c, .slice B d.2.1.length e1, .slice C d.2.2.length g]) ⟨lW0, bW0, fW0⟩ hx1; obtain ⟨l1, a1, a1', a1'', f1⟩ := box3 P1)
              | (go_at_call 71; (with_reducible refine (l13Square_1 (d := d.2.2) m3 (r3.toExt ?_)).mono ?_); (focus (exact (by refine Chg.isExt (F := []) ?_ (refl_ext _) (by simp); repeat (with_reducible (first | exact Chg.refl _ _ | exact Nat.le_refl _ | exact Chg.ofExt (by assumption) | refine Chg.trans0 ?_ (by assumption) | refine Chg.extS ?_ _ | refine Chg.alloc ?_ _ | refine Chg.drew ?_ | refine Chg.setCellE ?_ ?_ _ | refine le_addk ?_ _ | refine le_ext ?_ | refine le_alloc ?_ _ | refine le_setC ?_ _ _ | refine le_drew ?_ | assumption | (refine Nat.le_of_lt ?_; omega) | omega))))); rintro e w2 ⟨rfl, hx2⟩; rw [V3.out]; have P2 : BoxAt w2 w.heap.size #[.slice A d.1.length c, .slice B d.2.1.length e1, .slice C d.2.2.length g] := (by repeat (with_reducible (first | assumption | exact BoxAt.new _ _ _ | apply BoxAt.set3 | refine BoxAt.set3' ?_ (by omega) | apply BoxAt.set30 | apply BoxAt.set31 | apply BoxAt.set32 | apply BoxAt.set2 | refine BoxAt.set2' ?_ (by omega) | apply BoxAt.setP0 | apply BoxAt.setP1 | refine BoxAt.setO ?_ (by omega) | refine BoxAt.alloc ?_ _ | refine BoxAt.drew ?_ | refine BoxAt.toExt ?_ (by assumption)))); obtain ⟨l2, a2, a2', a2'', f2⟩ := box3 P2)
              | (go_at_call 71; (with_reducible refine (l13Square_1 (d := d.2.1) m2 (r2.toExt ?_)).mono ?_); (focus (exact (by refine Chg.isExt (F := []) ?_ (refl_ext _) (by simp); repeat (with_reducible (first | exact Chg.refl _ _ | exact Nat.le_refl _ | exact Chg.ofExt (by assumption) | refine Chg.trans0 ?_ (by assumption) | refine Chg.extS ?_ _ | refine Chg.alloc ?_ _ | refine Chg.drew ?_ | refine Chg.setCellE ?_ ?_ _ | refine le_addk ?_ _ | refine le_ext ?_ | refine le_alloc ?_ _ | refine le_setC ?_ _ _ | refine le_drew ?_ | assumption | (refine Nat.le_of_lt ?_; omega) | omega))))); rintro e w3 ⟨rfl, hx3⟩; rw [V2.out]))
            go_ret
            exact ⟨by rw [HE.out]; rfl, (by refine Chg.isExt (F := []) ?_ (refl_ext _) (by simp); repeat (with_reducible (first | exact Chg.refl _ _ | exact Nat.le_refl _ | exact Chg.ofExt (by assumption) | refine Chg.trans0 ?_ (by assumption) | refine Chg.extS ?_ _ | refine Chg.alloc ?_ _ | refine Chg.drew ?_ | refine Chg.setCellE ?_ ?_ _ | refine le_addk ?_ _ | refine le_ext ?_ | refine le_alloc ?_ _ | refine le_setC ?_ _ _ | refine le_drew ?_ | assumption | (refine Nat.le_of_lt ?_; omega) | omega)))⟩
end Go.Proofs.Ytnchebfemacebaa
