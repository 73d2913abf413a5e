/- Relations and labeled relations: what they read as; the laws' helpers on them: the size, a copy, equality. -/
import Derived.Test.YtficeifgaoljmaaRowsD
import Derived.Test.YtficeifgaoljmaaBox3
import Derived.Test.YtficeifgaoljmaaTypes
namespace Go.Proofs.Ytficeifgaoljmaa
open Go.RowKit

abbrev Rd := Int × List (List Int)
abbrev VRd := List Int × Rd
theorem bx2 {w : World} {B : Nat} {u v : Value} (h : BoxAt w B #[u, v]) : B < w.heap.size ∧ w.cell? ⟨B, 0, none⟩ = some u ∧ w.cell? ⟨B, 1, none⟩ = some v ∧ ∀ j, w.frozen? ⟨B, j, none⟩ = false := ⟨h.1, h.2.1 0, h.2.1 1, h.2.2⟩
theorem szG_neg {α : Type} {f : Int → α → Int} : ∀ (xs : List α) (l : Int), 0 ≤ l → szG f l xs < 0 → szG f l xs = -1
  | [], l, h, k => by rw [szG] at k; omega
  | x :: xs, l, h, k => by
    rw [szG] at k ⊢
    split
    · rfl
    · rename_i h1
      rw [if_neg h1] at k
      exact szG_neg xs _ (by omega) k
abbrev vRel : VE Rd := vP 1 vI vII
abbrev sRel : SE Rd := sP 1 sI sII
theorem sRel_v {w : World} (c : List Value) (d : Rd) (F : List Nat) (h : sRel w c d F) : vRel w c d := sP_v sI_v sII_v c d F h
def QRel (d : Rd) : Prop := I64 d.1 ∧ QSS d.2
def BRel (d : Rd) : Prop := I64 d.1 ∧ BSS d.2
theorem szI_neg {l : Int} {d : List (List Int)} (h : szN szI l d < 0) : szN szI l d = -1 := by
  unfold szN at h ⊢
  split
  · rfl
  · rename_i h1
    rw [if_neg h1] at h
    exact szG_neg _ _ (by omega) h
theorem vRel_shape {w : World} {c : List Value} {d : Rd} (h : vRel w c d) : ∃ A a, c = [.int .i64 d.1, .slice A d.2.length a] := by
  obtain ⟨c0, c1, e0, h0, h1, A2, d2, rfl, k2⟩ := h
  simp only [vI] at h1
  subst h1
  exact ⟨_, _, e0⟩
theorem vRel_get {w : World} {A : Option Addr} {n c : Nat} {z : Int} {d : Rd} (h : vRel w [.int .i64 z, .slice A n c] d) : z = d.1 ∧ vII w [.slice A n c] d.2 := by
  obtain ⟨c0, c1, e0, h0, h1, A2, d2, rfl, k2⟩ := h
  simp only [vI] at h1
  subst h1
  simp only [List.cons_append, List.nil_append, List.cons.injEq, Value.slice.injEq, and_true, Value.int.injEq, true_and] at e0
  obtain ⟨q0, q1, q2, q3⟩ := e0
  subst q0 q1 q2 q3
  exact ⟨rfl, _, _, rfl, k2⟩
theorem szRelation_d {A : Option Addr} {c : Nat} {d : Rd} {left : Int} {w : World} (hq : QRel d) (h : vRel w [.int .i64 d.1, .slice A d.2.length c] d) (h1 : 0 ≤ left) (h2 : left ≤ 1000000000) :
    Calls Try.prog 13 #[.agg #[.int .i64 d.1, .slice A d.2.length c], .int .i64 left] w fun e w' => e = .returned (.int .i64 (szN szI left d.2)) ∧ ∃ y, w' = ext w y := by
  have r1 := (vRel_get h).2
  have q1 := hq.2
  obtain ⟨l1, hl1⟩ : ∃ l, szN szI left d.2 = l := ⟨_, rfl⟩
  have H1 := Lib.hid hl1
  have n1 : l1 < 0 → l1 = -1 := fun h => by rw [← hl1] at h ⊢; exact szI_neg h
  clear h hq hl1
  by_cases c1 : l1 < 0
  · have HN := Lib.hid (n1 c1)
    clear n1
    go_enter Try.func13, Try.ntmps13
    go_wp2_with (go_at_call 26; refine (szIntSS_d q1 (VD.toExt r1 (by refine Chg.isExt (F := []) ?_ (refl_ext _) (by simp); repeat (with_reducible (first | exact Chg.refl _ _ | exact Nat.le_refl _ | exact Chg.ofExt (by assumption) | refine Chg.trans0 ?_ (by assumption) | refine Chg.extS ?_ _ | refine Chg.alloc ?_ _ | refine Chg.drew ?_ | refine Chg.setCellE ?_ ?_ _ | refine le_addk ?_ _ | refine le_ext ?_ | refine le_alloc ?_ _ | refine le_setC ?_ _ _ | refine le_drew ?_ | assumption | (refine Nat.le_of_lt ?_; omega) | omega)))) h1 h2).mono ?_; rintro e w1 ⟨rfl, y1, rfl⟩; rw [H1.out])
    go_ret
    exact ⟨by rw [H1.out, HN.out]; rfl, (by refine Chg.isExt (F := []) ?_ (refl_ext _) (by simp); repeat (with_reducible (first | exact Chg.refl _ _ | exact Nat.le_refl _ | exact Chg.ofExt (by assumption) | refine Chg.trans0 ?_ (by assumption) | refine Chg.extS ?_ _ | refine Chg.alloc ?_ _ | refine Chg.drew ?_ | refine Chg.setCellE ?_ ?_ _ | refine le_addk ?_ _ | refine le_ext ?_ | refine le_alloc ?_ _ | refine le_setC ?_ _ _ | refine le_drew ?_ | assumption | (refine Nat.le_of_lt ?_; omega) | omega)))⟩
  · clear n1
    go_enter Try.func13, Try.ntmps13
    go_wp2_with (go_at_call 26; refine (szIntSS_d q1 (VD.toExt r1 (by refine Chg.isExt (F := []) ?_ (refl_ext _) (by simp); repeat (with_reducible (first | exact Chg.refl _ _ | exact Nat.le_refl _ | exact Chg.ofExt (by assumption) | refine Chg.trans0 ?_ (by assumption) | refine Chg.extS ?_ _ | refine Chg.alloc ?_ _ | refine Chg.drew ?_ | refine Chg.setCellE ?_ ?_ _ | refine le_addk ?_ _ | refine le_ext ?_ | refine le_alloc ?_ _ | refine le_setC ?_ _ _ | refine le_drew ?_ | assumption | (refine Nat.le_of_lt ?_; omega) | omega)))) h1 h2).mono ?_; rintro e w1 ⟨rfl, y1, rfl⟩; rw [H1.out])
    go_ret
    exact ⟨by rw [H1.out]; rfl, (by refine Chg.isExt (F := []) ?_ (refl_ext _) (by simp); repeat (with_reducible (first | exact Chg.refl _ _ | exact Nat.le_refl _ | exact Chg.ofExt (by assumption) | refine Chg.trans0 ?_ (by assumption) | refine Chg.extS ?_ _ | refine Chg.alloc ?_ _ | refine Chg.drew ?_ | refine Chg.setCellE ?_ ?_ _ | refine le_addk ?_ _ | refine le_ext ?_ | refine le_alloc ?_ _ | refine le_setC ?_ _ _ | refine le_drew ?_ | assumption | (refine Nat.le_of_lt ?_; omega) | omega)))⟩
theorem sRel_form {w : World} {v0 v1 : Value} {d : Rd} {F : List Nat} (h : sRel w [v0, v1] d F) : ∃ A c, v0 = .int .i64 d.1 ∧ v1 = .slice A d.2.length c ∧ sII w [v1] d.2 F := by
  obtain ⟨c0, c1, F0, F1, e0, h0, ⟨h1, f0⟩, h3, e4⟩ := h
  subst h1 f0 e4
  simp only [List.cons_append, List.nil_append, List.cons.injEq] at e0
  obtain ⟨rfl, rfl⟩ := e0
  obtain ⟨A, c, rfl⟩ := sII_form h3
  exact ⟨A, c, rfl, rfl, by simpa using h3⟩
theorem sRel_mk {w : World} {v1 : Value} {z : Int} {rows : List (List Int)} {F : List Nat} (h : sII w [v1] rows F) : sRel w [.int .i64 z, v1] (z, rows) F := by
  have := sP_mk (E0 := sI) (E1 := sII) (w := w) (u := .int .i64 z) (d := (z, rows)) ⟨rfl, rfl⟩ h
  simpa using this
set_option maxHeartbeats 1000000 in
theorem toRelation_d {A : Option Addr} {c : Nat} {d : Rd} {w : World} (hb : BRel d) (h : vRel w [.int .i64 d.1, .slice A d.2.length c] d) :
    Calls Try.prog 17 #[.agg #[.int .i64 d.1, .slice A d.2.length c]] w fun e w' => ∃ v0 v1 F, e = .returned (.agg #[v0, v1]) ∧ (∃ y, w' = ext w y) ∧ sRel w' [v0, v1] d F ∧ F.Nodup ∧ ∀ b ∈ F, w.heap.size ≤ b := by
  have r1 := (vRel_get h).2
  obtain ⟨_, q1⟩ := hb
  clear h
  go_enter Try.func17, Try.ntmps17
  go_upto_region 1 with fail
  refine wp_name ?_
  intro w0 hw0
  have hx0 : ∃ y, w0 = ext w y := by rw [hw0.out]; exact (by refine Chg.isExt (F := []) ?_ (refl_ext _) (by simp); repeat (with_reducible (first | exact Chg.refl _ _ | exact Nat.le_refl _ | exact Chg.ofExt (by assumption) | refine Chg.trans0 ?_ (by assumption) | refine Chg.extS ?_ _ | refine Chg.alloc ?_ _ | refine Chg.drew ?_ | refine Chg.setCellE ?_ ?_ _ | refine le_addk ?_ _ | refine le_ext ?_ | refine le_alloc ?_ _ | refine le_setC ?_ _ _ | refine le_drew ?_ | assumption | (refine Nat.le_of_lt ?_; omega) | omega)))
  have P0 : BoxAt w0 w.heap.size #[.int .i64 d.1, .slice A d.2.length c] := by rw [hw0.out]; exact (by repeat (with_reducible (first | assumption | exact BoxAt.new _ _ _ | apply BoxAt.set2 | refine BoxAt.set2' ?_ (by omega) | apply BoxAt.setP0 | apply BoxAt.setP1 | refine BoxAt.setO ?_ (by omega) | refine BoxAt.alloc ?_ _ | refine BoxAt.drew ?_ | refine BoxAt.toExt ?_ (by assumption))))
  have R0 : BoxAt w0 (w.heap.size + 1) #[.int .i64 0, .slice none 0 0] := by
    rw [hw0.out]
    simpa using BoxAt.new (w.alloc (.cells #[.int .i64 d.1, .slice A d.2.length c] 25)) #[.int .i64 0, .slice none 0 0] 30
  obtain ⟨l0, k0, k0', f0⟩ := bx2 P0
  obtain ⟨m0, n0, n0', g0⟩ := bx2 R0
  have hz0 := size_of_ext hx0
  clear hw0
  go_wp2_with (go_at_call 27; refine (toIntSS_d q1 (VD.toExt r1 (by refine Chg.isExt (F := []) ?_ (refl_ext _) (by simp); repeat (with_reducible (first | exact Chg.refl _ _ | exact Nat.le_refl _ | exact Chg.ofExt (by assumption) | refine Chg.trans0 ?_ (by assumption) | refine Chg.extS ?_ _ | refine Chg.alloc ?_ _ | refine Chg.drew ?_ | refine Chg.setCellE ?_ ?_ _ | refine le_addk ?_ _ | refine le_ext ?_ | refine le_alloc ?_ _ | refine le_setC ?_ _ _ | refine le_drew ?_ | assumption | (refine Nat.le_of_lt ?_; omega) | omega))))).mono ?_; rintro e w1 ⟨v1, F1, rfl, hx1, hS1, hN1, hF1⟩; obtain ⟨A1, c1, rfl⟩ := sII_form hS1; have R1 : BoxAt w1 (w.heap.size + 1) #[.int .i64 0, .slice none 0 0] := (by repeat (with_reducible (first | assumption | exact BoxAt.new _ _ _ | apply BoxAt.set2 | refine BoxAt.set2' ?_ (by omega) | apply BoxAt.setP0 | apply BoxAt.setP1 | refine BoxAt.setO ?_ (by omega) | refine BoxAt.alloc ?_ _ | refine BoxAt.drew ?_ | refine BoxAt.toExt ?_ (by assumption)))); have O1 : BoxAt w1 w0.heap.size #[.int .i64 d.1, .slice none 0 0] := (by repeat (with_reducible (first | assumption | exact BoxAt.new _ _ _ | apply BoxAt.set2 | refine BoxAt.set2' ?_ (by omega) | apply BoxAt.setP0 | apply BoxAt.setP1 | refine BoxAt.setO ?_ (by omega) | refine BoxAt.alloc ?_ _ | refine BoxAt.drew ?_ | refine BoxAt.toExt ?_ (by assumption)))); obtain ⟨m1, n1, n1', g1⟩ := bx2 O1; obtain ⟨o1, p1, p1', q1'⟩ := bx2 R1)
  have hz1 := size_of_ext hx1
  simp only [World.size_alloc] at hz1 hF1
  refine bodyPost_ret (v := .agg #[.int .i64 d.1, .slice A1 d.2.length c1]) (by simp [results, Try.results17, go_sem, *]) rfl ⟨_, _, F1, rfl, (by refine Chg.isExt (F := []) ?_ (refl_ext _) (by simp); repeat (with_reducible (first | exact Chg.refl _ _ | exact Nat.le_refl _ | exact Chg.ofExt (by assumption) | refine Chg.trans0 ?_ (by assumption) | refine Chg.extS ?_ _ | refine Chg.alloc ?_ _ | refine Chg.drew ?_ | refine Chg.setCellE ?_ ?_ _ | refine le_addk ?_ _ | refine le_ext ?_ | refine le_alloc ?_ _ | refine le_setC ?_ _ _ | refine le_drew ?_ | assumption | (refine Nat.le_of_lt ?_; omega) | omega))), sRel_mk (OD.chg (G := [w0.heap.size, w.heap.size + 1]) hS1 (by repeat (with_reducible (first | exact Chg.refl _ _ | refine Chg.trans0 ?_ (by assumption) | refine Chg.extS ?_ _ | refine Chg.alloc ?_ _ | refine Chg.drew ?_ | refine Chg.setCell ?_ (.inl (by simp)) _))) ?_), hN1, ?_⟩
  · intro b hb h
    have := hF1 b hb
    simp at h
    omega
  · intro b hb
    have := hF1 b hb
    omega
set_option maxHeartbeats 1000000 in
theorem eqRelation_d {A A' : Option Addr} {c c' : Nat} {d d' : Rd} {w : World} (hb : BRel d) (h : vRel w [.int .i64 d.1, .slice A d.2.length c] d) (hb' : BRel d') (h' : vRel w [.int .i64 d'.1, .slice A' d'.2.length c'] d') :
    Calls Try.prog 21 #[.agg #[.int .i64 d.1, .slice A d.2.length c], .agg #[.int .i64 d'.1, .slice A' d'.2.length c']] w fun e w' => e = .returned (.bool (decide (d = d'))) ∧ ∃ y, w' = ext w y := by
  have r1 := (vRel_get h).2
  have s1 := (vRel_get h').2
  have b1 := hb.2
  have p1 := hb'.2
  have HD := Lib.hid (show decide (d = d') = (decide (d.1 = d'.1) && decide (d.2 = d'.2)) by
    rw [Bool.eq_iff_iff]
    simp [Prod.ext_iff])
  obtain ⟨t1, ht1⟩ : ∃ t, decide (d.1 = d'.1) = t := ⟨_, rfl⟩
  obtain ⟨t2, ht2⟩ : ∃ t, decide (d.2 = d'.2) = t := ⟨_, rfl⟩
  have D2 := Lib.hid ht2
  have hq : (d.1 != d'.1) = !t1 := by rw [← ht1]; by_cases q : d.1 = d'.1 <;> simp [q]
  have HE := Lib.hid (show decide (d = d') = (t1 && t2) by rw [HD.out, ht1, ht2])
  clear h h' hb hb' ht1 ht2 HD
  cases t1 <;> cases t2
  all_goals
    go_enter Try.func21, Try.ntmps21
    go_upto_region 1 with fail
    refine wp_name ?_
    intro W hW
    have xW : ∃ y, W = ext w y := by rw [hW.out]; exact (by refine Chg.isExt (F := []) ?_ (refl_ext _) (by simp); repeat (with_reducible (first | exact Chg.refl _ _ | exact Nat.le_refl _ | exact Chg.ofExt (by assumption) | refine Chg.trans0 ?_ (by assumption) | refine Chg.extS ?_ _ | refine Chg.alloc ?_ _ | refine Chg.drew ?_ | refine Chg.setCellE ?_ ?_ _ | refine le_addk ?_ _ | refine le_ext ?_ | refine le_alloc ?_ _ | refine le_setC ?_ _ _ | refine le_drew ?_ | assumption | (refine Nat.le_of_lt ?_; omega) | omega)))
    have BW0 : BoxAt W (w.heap.size) #[.int .i64 d.1, .slice A d.2.length c] := by rw [hW.out]; refine ⟨?_, fun j => ?_, fun j => ?_⟩ <;> go_simp
    obtain ⟨lW0, bW0, fW0⟩ := BW0
    have cW0_0 : W.cell? ⟨w.heap.size, 0, none⟩ = some (.int .i64 d.1) := bW0 0
    have cW0_1 : W.cell? ⟨w.heap.size, 1, none⟩ = some (.slice A d.2.length c) := bW0 1
    have BW1 : BoxAt W (w.heap.size + 1) #[.int .i64 d'.1, .slice A' d'.2.length c'] := by rw [hW.out]; refine ⟨?_, fun j => ?_, fun j => ?_⟩ <;> go_simp
    obtain ⟨lW1, bW1, fW1⟩ := BW1
    have cW1_0 : W.cell? ⟨w.heap.size + 1, 0, none⟩ = some (.int .i64 d'.1) := bW1 0
    have cW1_1 : W.cell? ⟨w.heap.size + 1, 1, none⟩ = some (.slice A' d'.2.length c') := bW1 1
    clear hW
    go_wp2_with (go_at_call 29; refine (eqIntSS_d b1 (VD.toExt r1 (by refine Chg.isExt (F := []) ?_ (refl_ext _) (by simp); repeat (with_reducible (first | exact Chg.refl _ _ | exact Nat.le_refl _ | exact Chg.ofExt (by assumption) | refine Chg.trans0 ?_ (by assumption) | refine Chg.extS ?_ _ | refine Chg.alloc ?_ _ | refine Chg.drew ?_ | refine Chg.setCellE ?_ ?_ _ | refine le_addk ?_ _ | refine le_ext ?_ | refine le_alloc ?_ _ | refine le_setC ?_ _ _ | refine le_drew ?_ | assumption | (refine Nat.le_of_lt ?_; omega) | omega)))) p1 (VD.toExt s1 (by refine Chg.isExt (F := []) ?_ (refl_ext _) (by simp); repeat (with_reducible (first | exact Chg.refl _ _ | exact Nat.le_refl _ | exact Chg.ofExt (by assumption) | refine Chg.trans0 ?_ (by assumption) | refine Chg.extS ?_ _ | refine Chg.alloc ?_ _ | refine Chg.drew ?_ | refine Chg.setCellE ?_ ?_ _ | refine le_addk ?_ _ | refine le_ext ?_ | refine le_alloc ?_ _ | refine le_setC ?_ _ _ | refine le_drew ?_ | assumption | (refine Nat.le_of_lt ?_; omega) | omega))))).mono ?_; rintro e w1 ⟨rfl, hx1⟩; rw [D2.out])
    go_ret
    exact ⟨by rw [HE.out]; rfl, (by refine Chg.isExt (F := []) ?_ (refl_ext _) (by simp); repeat (with_reducible (first | exact Chg.refl _ _ | exact Nat.le_refl _ | exact Chg.ofExt (by assumption) | refine Chg.trans0 ?_ (by assumption) | refine Chg.extS ?_ _ | refine Chg.alloc ?_ _ | refine Chg.drew ?_ | refine Chg.setCellE ?_ ?_ _ | refine le_addk ?_ _ | refine le_ext ?_ | refine le_alloc ?_ _ | refine le_setC ?_ _ _ | refine le_drew ?_ | assumption | (refine Nat.le_of_lt ?_; omega) | omega)))⟩
abbrev vVR : VE VRd := vP 1 (vSl 1 vI) vRel
abbrev sVR : SE VRd := sP 1 (sSl 3 1 sI) sRel
theorem sVR_v {w : World} (c : List Value) (d : VRd) (F : List Nat) (h : sVR w c d F) : vVR w c d := sP_v (sSl_v sI_v) sRel_v c d F h
def QVR (d : VRd) : Prop := d.1.length ≤ maxLen ∧ QRel d.2
def BVR (d : VRd) : Prop := d.1.length ≤ 1048576 ∧ BRel d.2
def szVR (left : Int) (d : VRd) : Int := if szL left d.1.length < 0 then -1 else szN szI (szL left d.1.length) d.2.2
theorem szVR_parts {left : Int} {d : VRd} (h : 0 ≤ szVR left d) : 0 ≤ szL left d.1.length ∧ 0 ≤ szN szI (szL left d.1.length) d.2.2 ∧ szVR left d = szN szI (szL left d.1.length) d.2.2 := by
  unfold szVR at h ⊢
  split at h
  · omega
  · rename_i h1
    rw [if_neg h1]
    exact ⟨by omega, h, rfl⟩
theorem szVR_le {left : Int} {d : VRd} (h : 0 ≤ szVR left d) : szVR left d ≤ left := by
  obtain ⟨h1, h2, e⟩ := szVR_parts h
  rw [e]
  have := szII_le h2
  have := szL_le h1
  omega
theorem szVR_small {left : Int} {d : VRd} (hq : I64 d.2.1) (h : 0 ≤ szVR left d) (hl : left ≤ 1048576) : BVR d := by
  obtain ⟨h1, h2, _⟩ := szVR_parts h
  have := szL_le h1
  have a1 := szL_small h1
  exact ⟨by omega, hq, szII_small h2 (by omega)⟩
theorem vVR_shape {w : World} {c : List Value} {d : VRd} (h : vVR w c d) : ∃ A a B b, c = [.slice A d.1.length a, .int .i64 d.2.1, .slice B d.2.2.length b] := by
  obtain ⟨c0, c1, e0, h0, ⟨A, a, rfl, k⟩, h1⟩ := h
  obtain ⟨B, b, rfl⟩ := vRel_shape h1
  exact ⟨A, _, B, b, e0⟩
theorem vVR_get {w : World} {A B : Option Addr} {n a m b : Nat} {z : Int} {d : VRd} (h : vVR w [.slice A n a, .int .i64 z, .slice B m b] d) : RI w A d.1 ∧ vRel w [.int .i64 z, .slice B m b] d.2 ∧ d.1.length ≤ a := by
  obtain ⟨c0, c1, e0, h0, ⟨A', a', rfl, k⟩, h1⟩ := h
  obtain ⟨B', b', rfl⟩ := vRel_shape h1
  simp only [List.cons_append, List.nil_append, List.cons.injEq, Value.slice.injEq, and_true, Value.int.injEq, true_and] at e0
  obtain ⟨⟨q1, q2, q3⟩, q4, q5, q6, q7⟩ := e0
  subst q1 q3 q4 q5 q6 q7
  exact ⟨k, h1, by omega⟩
set_option maxHeartbeats 1000000 in
theorem szVarRelation_d {A B : Option Addr} {a b : Nat} {d : VRd} {left : Int} {w : World} (hq : QVR d) (h : vVR w [.slice A d.1.length a, .int .i64 d.2.1, .slice B d.2.2.length b] d) (h1 : 0 ≤ left) (h2 : left ≤ 1000000000) :
    Calls Try.prog 5 #[.agg #[.slice A d.1.length a, .int .i64 d.2.1, .slice B d.2.2.length b], .int .i64 left] w fun e w' => e = .returned (.int .i64 (szVR left d)) ∧ ∃ y, w' = ext w y := by
  obtain ⟨r1, r2, _⟩ := vVR_get h
  have m1 := le_maxLen hq.1
  have q2 := hq.2
  obtain ⟨l1, hl1⟩ : ∃ l, szL left d.1.length = l := ⟨_, rfl⟩
  obtain ⟨l2, hl2⟩ : ∃ l, szN szI l1 d.2.2 = l := ⟨_, rfl⟩
  have H1 := Lib.hid hl1
  have H2 := Lib.hid hl2
  have e0 : szVR left d = if l1 < 0 then -1 else l2 := by unfold szVR; rw [hl1, hl2]
  have b1 : 0 ≤ l1 → l1 ≤ left := fun h => by rw [← hl1] at h ⊢; exact szL_le h
  have n1 : l1 < 0 → l1 = -1 := fun h => by rw [← hl1] at h ⊢; unfold szL at h ⊢; split <;> simp_all
  have n2 : l2 < 0 → l2 = -1 := fun h => by rw [← hl2] at h ⊢; exact szI_neg h
  clear h hq hl1 hl2
  by_cases c1 : l1 < 0
  · have HE := Lib.hid (show szVR left d = -1 by rw [e0, if_pos c1])
    clear e0 b1 n1 n2
    go_enter Try.func5, Try.ntmps5
    go_wp2_with (go_at_call 12; refine (szIntS_any m1 h1 h2).mono ?_; rintro e w1 ⟨rfl, rfl⟩; rw [H1.out])
    go_ret
    exact ⟨by rw [HE.out]; rfl, (by refine Chg.isExt (F := []) ?_ (refl_ext _) (by simp); repeat (with_reducible (first | exact Chg.refl _ _ | exact Nat.le_refl _ | exact Chg.ofExt (by assumption) | refine Chg.trans0 ?_ (by assumption) | refine Chg.extS ?_ _ | refine Chg.alloc ?_ _ | refine Chg.drew ?_ | refine Chg.setCellE ?_ ?_ _ | refine le_addk ?_ _ | refine le_ext ?_ | refine le_alloc ?_ _ | refine le_setC ?_ _ _ | refine le_drew ?_ | assumption | (refine Nat.le_of_lt ?_; omega) | omega)))⟩
  · have hb1 := b1 (by omega)
    have HE := Lib.hid (show szVR left d = l2 by rw [e0, if_neg c1])
    by_cases c2 : l2 < 0
    · have HN := Lib.hid (n2 c2)
      clear e0 b1 n1 n2
      go_enter Try.func5, Try.ntmps5
      go_wp2_with (first
        | (go_at_call 12; refine (szIntS_any m1 h1 h2).mono ?_; rintro e w1 ⟨rfl, rfl⟩; rw [H1.out])
        | (go_at_call 13; refine (szRelation_d q2 (VD.toExt r2 (by refine Chg.isExt (F := []) ?_ (refl_ext _) (by simp); repeat (with_reducible (first | exact Chg.refl _ _ | exact Nat.le_refl _ | exact Chg.ofExt (by assumption) | refine Chg.trans0 ?_ (by assumption) | refine Chg.extS ?_ _ | refine Chg.alloc ?_ _ | refine Chg.drew ?_ | refine Chg.setCellE ?_ ?_ _ | refine le_addk ?_ _ | refine le_ext ?_ | refine le_alloc ?_ _ | refine le_setC ?_ _ _ | refine le_drew ?_ | assumption | (refine Nat.le_of_lt ?_; omega) | omega)))) (by omega) (by omega)).mono ?_; rintro e w1 ⟨rfl, y1, rfl⟩; rw [H2.out]))
      go_ret
      exact ⟨by rw [HE.out, HN.out]; rfl, (by refine Chg.isExt (F := []) ?_ (refl_ext _) (by simp); repeat (with_reducible (first | exact Chg.refl _ _ | exact Nat.le_refl _ | exact Chg.ofExt (by assumption) | refine Chg.trans0 ?_ (by assumption) | refine Chg.extS ?_ _ | refine Chg.alloc ?_ _ | refine Chg.drew ?_ | refine Chg.setCellE ?_ ?_ _ | refine le_addk ?_ _ | refine le_ext ?_ | refine le_alloc ?_ _ | refine le_setC ?_ _ _ | refine le_drew ?_ | assumption | (refine Nat.le_of_lt ?_; omega) | omega)))⟩
    · clear e0 b1 n1 n2
      go_enter Try.func5, Try.ntmps5
      go_wp2_with (first
        | (go_at_call 12; refine (szIntS_any m1 h1 h2).mono ?_; rintro e w1 ⟨rfl, rfl⟩; rw [H1.out])
        | (go_at_call 13; refine (szRelation_d q2 (VD.toExt r2 (by refine Chg.isExt (F := []) ?_ (refl_ext _) (by simp); repeat (with_reducible (first | exact Chg.refl _ _ | exact Nat.le_refl _ | exact Chg.ofExt (by assumption) | refine Chg.trans0 ?_ (by assumption) | refine Chg.extS ?_ _ | refine Chg.alloc ?_ _ | refine Chg.drew ?_ | refine Chg.setCellE ?_ ?_ _ | refine le_addk ?_ _ | refine le_ext ?_ | refine le_alloc ?_ _ | refine le_setC ?_ _ _ | refine le_drew ?_ | assumption | (refine Nat.le_of_lt ?_; omega) | omega)))) (by omega) (by omega)).mono ?_; rintro e w1 ⟨rfl, y1, rfl⟩; rw [H2.out]))
      go_ret
      exact ⟨by rw [HE.out]; rfl, (by refine Chg.isExt (F := []) ?_ (refl_ext _) (by simp); repeat (with_reducible (first | exact Chg.refl _ _ | exact Nat.le_refl _ | exact Chg.ofExt (by assumption) | refine Chg.trans0 ?_ (by assumption) | refine Chg.extS ?_ _ | refine Chg.alloc ?_ _ | refine Chg.drew ?_ | refine Chg.setCellE ?_ ?_ _ | refine le_addk ?_ _ | refine le_ext ?_ | refine le_alloc ?_ _ | refine le_setC ?_ _ _ | refine le_drew ?_ | assumption | (refine Nat.le_of_lt ?_; omega) | omega)))⟩
theorem sVR_form {w : World} {v0 v1 v2 : Value} {d : VRd} {F : List Nat} (h : sVR w [v0, v1, v2] d F) : ∃ A a B b, v0 = .slice A d.1.length a ∧ v1 = .int .i64 d.2.1 ∧ v2 = .slice B d.2.2.length b := by
  obtain ⟨c0, c1, F0, F1, e0, h0, ⟨u, rfl, h1⟩, h2, e4⟩ := h
  obtain ⟨A, a, rfl, _⟩ := h1.form
  obtain ⟨B, b, hb⟩ := vRel_shape (sRel_v _ _ _ h2)
  subst hb
  simp only [List.cons_append, List.nil_append, List.cons.injEq, and_true] at e0
  obtain ⟨rfl, rfl, rfl⟩ := e0
  exact ⟨A, a, B, b, rfl, rfl, rfl⟩
set_option maxHeartbeats 1000000 in
theorem toVarRelation_d {A B : Option Addr} {a b : Nat} {d : VRd} {w : World} (hb : BVR d) (h : vVR w [.slice A d.1.length a, .int .i64 d.2.1, .slice B d.2.2.length b] d) :
    Calls Try.prog 7 #[.agg #[.slice A d.1.length a, .int .i64 d.2.1, .slice B d.2.2.length b]] w fun e w' => ∃ v0 v1 v2 F, e = .returned (.agg #[v0, v1, v2]) ∧ (∃ y, w' = ext w y) ∧ sVR w' [v0, v1, v2] d F ∧ F.Nodup ∧ ∀ b ∈ F, w.heap.size ≤ b := by
  obtain ⟨r1, r2, _⟩ := vVR_get h
  obtain ⟨q1, q2⟩ := hb
  clear h
  go_enter Try.func7, Try.ntmps7
  go_upto_region 1 with fail
  refine wp_name ?_
  intro w0 hw0
  have hx0 : ∃ y, w0 = ext w y := by rw [hw0.out]; exact (by refine Chg.isExt (F := []) ?_ (refl_ext _) (by simp); repeat (with_reducible (first | exact Chg.refl _ _ | exact Nat.le_refl _ | exact Chg.ofExt (by assumption) | refine Chg.trans0 ?_ (by assumption) | refine Chg.extS ?_ _ | refine Chg.alloc ?_ _ | refine Chg.drew ?_ | refine Chg.setCellE ?_ ?_ _ | refine le_addk ?_ _ | refine le_ext ?_ | refine le_alloc ?_ _ | refine le_setC ?_ _ _ | refine le_drew ?_ | assumption | (refine Nat.le_of_lt ?_; omega) | omega)))
  have P0 : BoxAt w0 w.heap.size #[.slice A d.1.length a, .int .i64 d.2.1, .slice B d.2.2.length b] := by rw [hw0.out]; exact (by repeat (with_reducible (first | assumption | exact BoxAt.new _ _ _ | apply BoxAt.set3 | refine BoxAt.set3' ?_ (by omega) | apply BoxAt.set30 | apply BoxAt.set31 | apply BoxAt.set32 | apply BoxAt.set2 | refine BoxAt.set2' ?_ (by omega) | apply BoxAt.setP0 | apply BoxAt.setP1 | refine BoxAt.setO ?_ (by omega) | refine BoxAt.alloc ?_ _ | refine BoxAt.drew ?_ | refine BoxAt.toExt ?_ (by assumption))))
  have R0 : BoxAt w0 (w.heap.size + 1) #[.slice none 0 0, .int .i64 0, .slice none 0 0] := by
    rw [hw0.out]
    simpa using BoxAt.new (w.alloc (.cells #[.slice A d.1.length a, .int .i64 d.2.1, .slice B d.2.2.length b] 27)) #[.slice none 0 0, .int .i64 0, .slice none 0 0] 32
  obtain ⟨l0, k0, k0', k0'', f0⟩ := box3 P0
  obtain ⟨m0, n0, n0', n0'', g0⟩ := box3 R0
  have hz0 := size_of_ext hx0
  clear hw0
  go_wp2_with (first
    | (go_at_call 16; ((with_reducible refine (toIntS_any q1 (r1.toExt ?_)).mono ?_); (focus (exact (by refine Chg.isExt (F := []) ?_ (refl_ext _) (by simp); repeat (with_reducible (first | exact Chg.refl _ _ | exact Nat.le_refl _ | exact Chg.ofExt (by assumption) | refine Chg.trans0 ?_ (by assumption) | refine Chg.extS ?_ _ | refine Chg.alloc ?_ _ | refine Chg.drew ?_ | refine Chg.setCellE ?_ ?_ _ | refine le_addk ?_ _ | refine le_ext ?_ | refine le_alloc ?_ _ | refine le_setC ?_ _ _ | refine le_drew ?_ | assumption | (refine Nat.le_of_lt ?_; omega) | omega)))))); rintro e w1 ⟨v1, F1, rfl, hx1, hS1, hF1⟩; obtain ⟨A1, c1, rfl, _⟩ := hS1.form; have P1 : BoxAt w1 w.heap.size #[.slice A d.1.length a, .int .i64 d.2.1, .slice B d.2.2.length b] := (by repeat (with_reducible (first | assumption | exact BoxAt.new _ _ _ | apply BoxAt.set3 | refine BoxAt.set3' ?_ (by omega) | apply BoxAt.set30 | apply BoxAt.set31 | apply BoxAt.set32 | apply BoxAt.set2 | refine BoxAt.set2' ?_ (by omega) | apply BoxAt.setP0 | apply BoxAt.setP1 | refine BoxAt.setO ?_ (by omega) | refine BoxAt.alloc ?_ _ | refine BoxAt.drew ?_ | refine BoxAt.toExt ?_ (by assumption)))); have R1 : BoxAt w1 (w.heap.size + 1) #[.slice none 0 0, .int .i64 0, .slice none 0 0] := (by repeat (with_reducible (first | assumption | exact BoxAt.new _ _ _ | apply BoxAt.set3 | refine BoxAt.set3' ?_ (by omega) | apply BoxAt.set30 | apply BoxAt.set31 | apply BoxAt.set32 | apply BoxAt.set2 | refine BoxAt.set2' ?_ (by omega) | apply BoxAt.setP0 | apply BoxAt.setP1 | refine BoxAt.setO ?_ (by omega) | refine BoxAt.alloc ?_ _ | refine BoxAt.drew ?_ | refine BoxAt.toExt ?_ (by assumption)))); have O1 : BoxAt w1 w0.heap.size #[.slice none 0 0, .int .i64 0, .slice none 0 0] := (by repeat (with_reducible (first | assumption | exact BoxAt.new _ _ _ | apply BoxAt.set3 | refine BoxAt.set3' ?_ (by omega) | apply BoxAt.set30 | apply BoxAt.set31 | apply BoxAt.set32 | apply BoxAt.set2 | refine BoxAt.set2' ?_ (by omega) | apply BoxAt.setP0 | apply BoxAt.setP1 | refine BoxAt.setO ?_ (by omega) | refine BoxAt.alloc ?_ _ | refine BoxAt.drew ?_ | refine BoxAt.toExt ?_ (by assumption)))); obtain ⟨l1, k1, k1', k1'', f1⟩ := box3 P1; obtain ⟨m1, n1, n1', n1'', g1⟩ := box3 O1; obtain ⟨o1, p1, p1', p1'', q1'⟩ := box3 R1)
    | (go_at_call 17; refine (toRelation_d q2 (VD.toExt r2 (by refine Chg.isExt (F := []) ?_ (refl_ext _) (by simp); repeat (with_reducible (first | exact Chg.refl _ _ | exact Nat.le_refl _ | exact Chg.ofExt (by assumption) | refine Chg.trans0 ?_ (by assumption) | refine Chg.extS ?_ _ | refine Chg.alloc ?_ _ | refine Chg.drew ?_ | refine Chg.setCellE ?_ ?_ _ | refine le_addk ?_ _ | refine le_ext ?_ | refine le_alloc ?_ _ | refine le_setC ?_ _ _ | refine le_drew ?_ | assumption | (refine Nat.le_of_lt ?_; omega) | omega))))).mono ?_; rintro e w2 ⟨v2, u2, F2, rfl, hx2, hS2, hN2, hF2⟩; obtain ⟨A2, c2, rfl, rfl, _⟩ := sRel_form hS2; have P2 : BoxAt w2 w.heap.size #[.slice A d.1.length a, .int .i64 d.2.1, .slice B d.2.2.length b] := (by repeat (with_reducible (first | assumption | exact BoxAt.new _ _ _ | apply BoxAt.set3 | refine BoxAt.set3' ?_ (by omega) | apply BoxAt.set30 | apply BoxAt.set31 | apply BoxAt.set32 | apply BoxAt.set2 | refine BoxAt.set2' ?_ (by omega) | apply BoxAt.setP0 | apply BoxAt.setP1 | refine BoxAt.setO ?_ (by omega) | refine BoxAt.alloc ?_ _ | refine BoxAt.drew ?_ | refine BoxAt.toExt ?_ (by assumption)))); have R2 : BoxAt w2 (w.heap.size + 1) #[.slice none 0 0, .int .i64 0, .slice none 0 0] := (by repeat (with_reducible (first | assumption | exact BoxAt.new _ _ _ | apply BoxAt.set3 | refine BoxAt.set3' ?_ (by omega) | apply BoxAt.set30 | apply BoxAt.set31 | apply BoxAt.set32 | apply BoxAt.set2 | refine BoxAt.set2' ?_ (by omega) | apply BoxAt.setP0 | apply BoxAt.setP1 | refine BoxAt.setO ?_ (by omega) | refine BoxAt.alloc ?_ _ | refine BoxAt.drew ?_ | refine BoxAt.toExt ?_ (by assumption)))); have O2 : BoxAt w2 w0.heap.size #[.slice A1 d.1.length c1, .int .i64 0, .slice none 0 0] := (by repeat (with_reducible (first | assumption | exact BoxAt.new _ _ _ | apply BoxAt.set3 | refine BoxAt.set3' ?_ (by omega) | apply BoxAt.set30 | apply BoxAt.set31 | apply BoxAt.set32 | apply BoxAt.set2 | refine BoxAt.set2' ?_ (by omega) | apply BoxAt.setP0 | apply BoxAt.setP1 | refine BoxAt.setO ?_ (by omega) | refine BoxAt.alloc ?_ _ | refine BoxAt.drew ?_ | refine BoxAt.toExt ?_ (by assumption)))); obtain ⟨l2, k2, k2', k2'', f2⟩ := box3 P2; obtain ⟨m2, n2, n2', n2'', g2⟩ := box3 O2; obtain ⟨o2, p2, p2', p2'', q2'⟩ := box3 R2))
  have hz1 := size_of_ext hx1
  have hz2 := size_of_ext hx2
  simp only [World.size_alloc, World.size_setCell] at hz1 hz2 hF1 hF2
  have a1 : ∀ b ∈ F1, b < w1.heap.size := hS1.lt
  have hS1' : SV 3 1 sI w2 (.slice A1 d.1.length c1) d.1 F1 := hS1.chg (G := [w0.heap.size]) (by repeat (with_reducible (first | exact Chg.refl _ _ | refine Chg.trans0 ?_ (by assumption) | refine Chg.extS ?_ _ | refine Chg.alloc ?_ _ | refine Chg.drew ?_ | refine Chg.setCell ?_ (.inl (by simp)) _))) (fun b hb h => by have := hF1 b hb; simp at h; omega)
  refine bodyPost_ret (v := .agg #[.slice A1 d.1.length c1, .int .i64 d.2.1, .slice A2 d.2.2.length c2]) (by simp [results, Try.results7, go_sem, *]) rfl ⟨_, _, _, F1 ++ F2, rfl, (by refine Chg.isExt (F := []) ?_ (refl_ext _) (by simp); repeat (with_reducible (first | exact Chg.refl _ _ | exact Nat.le_refl _ | exact Chg.ofExt (by assumption) | refine Chg.trans0 ?_ (by assumption) | refine Chg.extS ?_ _ | refine Chg.alloc ?_ _ | refine Chg.drew ?_ | refine Chg.setCellE ?_ ?_ _ | refine le_addk ?_ _ | refine le_ext ?_ | refine le_alloc ?_ _ | refine le_setC ?_ _ _ | refine le_drew ?_ | assumption | (refine Nat.le_of_lt ?_; omega) | omega))), sP_mk ⟨_, rfl, hS1'.chg (G := [w0.heap.size, w.heap.size + 1]) (by repeat (with_reducible (first | exact Chg.refl _ _ | refine Chg.trans0 ?_ (by assumption) | refine Chg.extS ?_ _ | refine Chg.alloc ?_ _ | refine Chg.drew ?_ | refine Chg.setCell ?_ (.inl (by simp)) _))) ?_⟩ (OD.chg (G := [w0.heap.size, w.heap.size + 1]) hS2 (by repeat (with_reducible (first | exact Chg.refl _ _ | refine Chg.trans0 ?_ (by assumption) | refine Chg.extS ?_ _ | refine Chg.alloc ?_ _ | refine Chg.drew ?_ | refine Chg.setCell ?_ (.inl (by simp)) _))) ?_), ?_, ?_⟩
  · intro b hb h
    have := hF1 b hb
    simp at h
    omega
  · intro b hb h
    have := hF2 b hb
    simp at h
    omega
  · exact nodup_more (n := w1.heap.size) hS1.nodup hN2 a1 hF2
  · intro b hb
    rcases List.mem_append.1 hb with h | h
    · have := hF1 b h; omega
    · have := hF2 b h; omega
set_option maxHeartbeats 1000000 in
theorem eqVarRelation_d {A B A' B' : Option Addr} {a b a' b' : Nat} {d d' : VRd} {w : World} (hb : BVR d) (h : vVR w [.slice A d.1.length a, .int .i64 d.2.1, .slice B d.2.2.length b] d) (hb' : BVR d') (h' : vVR w [.slice A' d'.1.length a', .int .i64 d'.2.1, .slice B' d'.2.2.length b'] d') :
    Calls Try.prog 9 #[.agg #[.slice A d.1.length a, .int .i64 d.2.1, .slice B d.2.2.length b], .agg #[.slice A' d'.1.length a', .int .i64 d'.2.1, .slice B' d'.2.2.length b']] w fun e w' => e = .returned (.bool (decide (d = d'))) ∧ ∃ y, w' = ext w y := by
  obtain ⟨r1, r2, _⟩ := vVR_get h
  obtain ⟨s1, s2, _⟩ := vVR_get h'
  obtain ⟨b1, b2⟩ := hb
  obtain ⟨p1, p2⟩ := hb'
  have m1 : d.1.length ≤ 1000000000 := by omega
  have m2 : d'.1.length ≤ 1000000000 := by omega
  have HD := Lib.hid (show decide (d = d') = (decide (d.1 = d'.1) && decide (d.2 = d'.2)) by
    rw [Bool.eq_iff_iff]
    simp [Prod.ext_iff])
  obtain ⟨t1, ht1⟩ : ∃ t, decide (d.1 = d'.1) = t := ⟨_, rfl⟩
  obtain ⟨t2, ht2⟩ : ∃ t, decide (d.2 = d'.2) = t := ⟨_, rfl⟩
  have D1 := Lib.hid ht1
  have D2 := Lib.hid ht2
  have HE := Lib.hid (show decide (d = d') = (t1 && t2) by rw [HD.out, ht1, ht2])
  clear h h' ht1 ht2 HD
  cases t1 <;> cases t2
  all_goals
    go_enter Try.func9, Try.ntmps9
    go_upto_region 1 with fail
    refine wp_name ?_
    intro W hW
    have xW : ∃ y, W = ext w y := by rw [hW.out]; exact (by refine Chg.isExt (F := []) ?_ (refl_ext _) (by simp); repeat (with_reducible (first | exact Chg.refl _ _ | exact Nat.le_refl _ | exact Chg.ofExt (by assumption) | refine Chg.trans0 ?_ (by assumption) | refine Chg.extS ?_ _ | refine Chg.alloc ?_ _ | refine Chg.drew ?_ | refine Chg.setCellE ?_ ?_ _ | refine le_addk ?_ _ | refine le_ext ?_ | refine le_alloc ?_ _ | refine le_setC ?_ _ _ | refine le_drew ?_ | assumption | (refine Nat.le_of_lt ?_; omega) | omega)))
    have BW0 : BoxAt W (w.heap.size) #[.slice A d.1.length a, .int .i64 d.2.1, .slice B d.2.2.length b] := by rw [hW.out]; refine ⟨?_, fun j => ?_, fun j => ?_⟩ <;> go_simp
    obtain ⟨lW0, bW0, fW0⟩ := BW0
    have cW0_0 : W.cell? ⟨w.heap.size, 0, none⟩ = some (.slice A d.1.length a) := bW0 0
    have cW0_1 : W.cell? ⟨w.heap.size, 1, none⟩ = some (.int .i64 d.2.1) := bW0 1
    have cW0_2 : W.cell? ⟨w.heap.size, 2, none⟩ = some (.slice B d.2.2.length b) := bW0 2
    have BW1 : BoxAt W (w.heap.size + 1) #[.slice A' d'.1.length a', .int .i64 d'.2.1, .slice B' d'.2.2.length b'] := by rw [hW.out]; refine ⟨?_, fun j => ?_, fun j => ?_⟩ <;> go_simp
    obtain ⟨lW1, bW1, fW1⟩ := BW1
    have cW1_0 : W.cell? ⟨w.heap.size + 1, 0, none⟩ = some (.slice A' d'.1.length a') := bW1 0
    have cW1_1 : W.cell? ⟨w.heap.size + 1, 1, none⟩ = some (.int .i64 d'.2.1) := bW1 1
    have cW1_2 : W.cell? ⟨w.heap.size + 1, 2, none⟩ = some (.slice B' d'.2.2.length b') := bW1 2
    clear hW
    go_wp2_with (first
      | (go_at_call 20; (with_reducible refine (eqIntS_any m1 (r1.toExt ?_) m2 (s1.toExt ?_)).mono ?_); (focus (exact (by refine Chg.isExt (F := []) ?_ (refl_ext _) (by simp); repeat (with_reducible (first | exact Chg.refl _ _ | exact Nat.le_refl _ | exact Chg.ofExt (by assumption) | refine Chg.trans0 ?_ (by assumption) | refine Chg.extS ?_ _ | refine Chg.alloc ?_ _ | refine Chg.drew ?_ | refine Chg.setCellE ?_ ?_ _ | refine le_addk ?_ _ | refine le_ext ?_ | refine le_alloc ?_ _ | refine le_setC ?_ _ _ | refine le_drew ?_ | assumption | (refine Nat.le_of_lt ?_; omega) | omega))))); (focus (exact (by refine Chg.isExt (F := []) ?_ (refl_ext _) (by simp); repeat (with_reducible (first | exact Chg.refl _ _ | exact Nat.le_refl _ | exact Chg.ofExt (by assumption) | refine Chg.trans0 ?_ (by assumption) | refine Chg.extS ?_ _ | refine Chg.alloc ?_ _ | refine Chg.drew ?_ | refine Chg.setCellE ?_ ?_ _ | refine le_addk ?_ _ | refine le_ext ?_ | refine le_alloc ?_ _ | refine le_setC ?_ _ _ | refine le_drew ?_ | assumption | (refine Nat.le_of_lt ?_; omega) | omega))))); rintro e w1 ⟨rfl, hx1⟩; rw [D1.out]; have P1 := BoxAt.toExt (cs := #[.slice A d.1.length a, .int .i64 d.2.1, .slice B d.2.2.length b]) ⟨lW0, bW0, fW0⟩ hx1; have Q1 := BoxAt.toExt (cs := #[.slice A' d'.1.length a', .int .i64 d'.2.1, .slice B' d'.2.2.length b']) ⟨lW1, bW1, fW1⟩ hx1; obtain ⟨l1, a1, a1', a1'', f1⟩ := box3 P1; obtain ⟨o1, z1, z1', z1'', g1⟩ := box3 Q1)
      | (go_at_call 21; refine (eqRelation_d b2 (VD.toExt r2 (by refine Chg.isExt (F := []) ?_ (refl_ext _) (by simp); repeat (with_reducible (first | exact Chg.refl _ _ | exact Nat.le_refl _ | exact Chg.ofExt (by assumption) | refine Chg.trans0 ?_ (by assumption) | refine Chg.extS ?_ _ | refine Chg.alloc ?_ _ | refine Chg.drew ?_ | refine Chg.setCellE ?_ ?_ _ | refine le_addk ?_ _ | refine le_ext ?_ | refine le_alloc ?_ _ | refine le_setC ?_ _ _ | refine le_drew ?_ | assumption | (refine Nat.le_of_lt ?_; omega) | omega)))) p2 (VD.toExt s2 (by refine Chg.isExt (F := []) ?_ (refl_ext _) (by simp); repeat (with_reducible (first | exact Chg.refl _ _ | exact Nat.le_refl _ | exact Chg.ofExt (by assumption) | refine Chg.trans0 ?_ (by assumption) | refine Chg.extS ?_ _ | refine Chg.alloc ?_ _ | refine Chg.drew ?_ | refine Chg.setCellE ?_ ?_ _ | refine le_addk ?_ _ | refine le_ext ?_ | refine le_alloc ?_ _ | refine le_setC ?_ _ _ | refine le_drew ?_ | assumption | (refine Nat.le_of_lt ?_; omega) | omega))))).mono ?_; rintro e w2 ⟨rfl, hx2⟩; rw [D2.out]))
    go_ret
    exact ⟨by rw [HE.out]; rfl, (by refine Chg.isExt (F := []) ?_ (refl_ext _) (by simp); repeat (with_reducible (first | exact Chg.refl _ _ | exact Nat.le_refl _ | exact Chg.ofExt (by assumption) | refine Chg.trans0 ?_ (by assumption) | refine Chg.extS ?_ _ | refine Chg.alloc ?_ _ | refine Chg.drew ?_ | refine Chg.setCellE ?_ ?_ _ | refine le_addk ?_ _ | refine le_ext ?_ | refine le_alloc ?_ _ | refine le_setC ?_ _ _ | refine le_drew ?_ | assumption | (refine Nat.le_of_lt ?_; omega) | omega)))⟩
end Go.Proofs.Ytficeifgaoljmaa
