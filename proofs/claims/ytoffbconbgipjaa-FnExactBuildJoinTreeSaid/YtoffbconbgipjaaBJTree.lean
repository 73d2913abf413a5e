/- Whether one atom remains, and the join tree; the program's way and the reference's. -/
import Derived.Test.YtoffbconbgipjaaAcyc
namespace Go.Proofs.Ytoffbconbgipjaa
open Go.RowKit

def JtP (d : Qd) (w : World) (e : Ending) (w' : World) : Prop := ∃ v F, e = .returned (.tuple #[.agg #[v], .bool (acyB d)]) ∧ (∃ y, w' = ext w y) ∧ SV 3 1 sI w' v (jtQ d) F ∧ ∀ b ∈ F, w.heap.size ≤ b
set_option maxHeartbeats 4000000 in
theorem BuildJoinTree_any {A B : Option Addr} {c e1 : Nat} {d : Qd} {w : World} (hb : BQ d) (h : vQ w [.int .i64 d.1, .slice A d.2.1.length c, .slice B d.2.2.length e1] d) :
    Calls Try.prog 39 #[.agg #[.int .i64 d.1, .slice A d.2.1.length c, .slice B d.2.2.length e1]] w (JtP d w) := by
  have HB := Lib.hid hb
  have HV := Lib.hid h
  obtain ⟨r1, r2, _⟩ := vQ_get h
  have ra := (vAts_get r1).2
  clear r1 r2
  obtain ⟨z, ats, out⟩ := d
  dsimp only at ra ⊢
  clear h hb
  obtain ⟨t1, ht1⟩ : ∃ t, acyB (z, ats, out) = t := ⟨_, rfl⟩
  have N1 := Lib.hid ht1
  cases t1 with
  | false =>
    have HE := Lib.hid (show jtQ (z, ats, out) = [] by unfold jtQ; rw [ht1]; rfl)
    clear ht1
    go_enter Try.func39, Try.ntmps39
    go_upto_region 1 with fail
    refine wp_name ?_
    intro W hW
    have xW : ∃ y, W = ext w y := by rw [hW.out]; exact (by refine Chg.isExt (F := []) ?_ (refl_ext _) (by simp); repeat (with_reducible (first | exact Chg.refl _ _ | exact Nat.le_refl _ | exact Chg.ofExt (by assumption) | refine Chg.trans0 ?_ (by assumption) | refine Chg.extS ?_ _ | refine Chg.alloc ?_ _ | refine Chg.drew ?_ | refine Chg.setCellE ?_ ?_ _ | refine le_addk ?_ _ | refine le_ext ?_ | refine le_alloc ?_ _ | refine le_setC ?_ _ _ | refine le_drew ?_ | assumption | (refine Nat.le_of_lt ?_; omega) | omega)))
    have BW0 : BoxAt W (w.heap.size) #[.int .i64 z, .slice A ats.length c, .slice B out.length e1] := by rw [hW.out]; refine ⟨?_, fun j => ?_, fun j => ?_⟩ <;> go_simp
    obtain ⟨lW0, bW0, fW0⟩ := BW0
    have cW0_0 : W.cell? ⟨w.heap.size, 0, none⟩ = some (.int .i64 z) := bW0 0
    have cW0_1 : W.cell? ⟨w.heap.size, 1, none⟩ = some (.slice A ats.length c) := bW0 1
    have cW0_2 : W.cell? ⟨w.heap.size, 2, none⟩ = some (.slice B out.length e1) := bW0 2
    have BW1 : BoxAt W (w.heap.size + 1) #[.slice none 0 0] := by rw [hW.out]; refine ⟨?_, fun j => ?_, fun j => ?_⟩ <;> go_simp
    obtain ⟨lW1, bW1, fW1⟩ := BW1
    have cW1_0 : W.cell? ⟨w.heap.size + 1, 0, none⟩ = some (.slice none 0 0) := bW1 0
    clear hW
    go_wp2_with (go_at_call 35; refine (IsAcyclic_any (d := (z, ats, out)) HB.out (VD.toExt HV.out (by refine Chg.isExt (F := []) ?_ (refl_ext _) (by simp); repeat (with_reducible (first | exact Chg.refl _ _ | exact Nat.le_refl _ | exact Chg.ofExt (by assumption) | refine Chg.trans0 ?_ (by assumption) | refine Chg.extS ?_ _ | refine Chg.alloc ?_ _ | refine Chg.drew ?_ | refine Chg.setCellE ?_ ?_ _ | refine le_addk ?_ _ | refine le_ext ?_ | refine le_alloc ?_ _ | refine le_setC ?_ _ _ | refine le_drew ?_ | assumption | (refine Nat.le_of_lt ?_; omega) | omega))))).mono ?_; rintro e w1 ⟨rfl, hx1⟩; rw [N1.out]; have R1 := BoxAt.toExt (cs := #[.slice none 0 0]) ⟨lW1, bW1, fW1⟩ hx1; obtain ⟨l1, a1, f1⟩ := box1 R1)
    exact bodyPost_ret (v := .tuple #[.agg #[.slice none 0 0], .bool false]) (by simp [results, Try.results39, go_sem, *]) rfl ⟨_, [], by rw [N1.out], (by refine Chg.isExt (F := []) ?_ (refl_ext _) (by simp); repeat (with_reducible (first | exact Chg.refl _ _ | exact Nat.le_refl _ | exact Chg.ofExt (by assumption) | refine Chg.trans0 ?_ (by assumption) | refine Chg.extS ?_ _ | refine Chg.alloc ?_ _ | refine Chg.drew ?_ | refine Chg.setCellE ?_ ?_ _ | refine le_addk ?_ _ | refine le_ext ?_ | refine le_alloc ?_ _ | refine le_setC ?_ _ _ | refine le_drew ?_ | assumption | (refine Nat.le_of_lt ?_; omega) | omega))), by rw [HE.out]; exact SV.nil, by simp⟩
  | true =>
    have HE := Lib.hid (show jtQ (z, ats, out) = (gyoQ ats).2 by unfold jtQ; rw [ht1]; rfl)
    have hv1 : vqB (z, ats, out) = true := by unfold acyB at ht1; rw [Bool.and_eq_true] at ht1; exact ht1.1
    have HAC := Lib.hid ht1
    clear ht1
    have ht1 := hv1
    have ht2 := hv1
    clear hv1
    obtain ⟨g1, _, g3⟩ := vqB_facts ht1
    dsimp only at g1 g3
    have Hx : Hid (∀ x ∈ ats, x.2.length ≤ 100000000) := Lib.hid fun x hx => by have := (g3 x hx).2; omega
    have HLn := Lib.hid (gyoQ_len ats)
    have g4 : ats.length ≤ 1000 := by omega
    clear ht1 g3
    clear ht2
    go_enter Try.func39, Try.ntmps39
    go_upto_region 1 with fail
    refine wp_name ?_
    intro W hW
    have xW : ∃ y, W = ext w y := by rw [hW.out]; exact (by refine Chg.isExt (F := []) ?_ (refl_ext _) (by simp); repeat (with_reducible (first | exact Chg.refl _ _ | exact Nat.le_refl _ | exact Chg.ofExt (by assumption) | refine Chg.trans0 ?_ (by assumption) | refine Chg.extS ?_ _ | refine Chg.alloc ?_ _ | refine Chg.drew ?_ | refine Chg.setCellE ?_ ?_ _ | refine le_addk ?_ _ | refine le_ext ?_ | refine le_alloc ?_ _ | refine le_setC ?_ _ _ | refine le_drew ?_ | assumption | (refine Nat.le_of_lt ?_; omega) | omega)))
    have BW0 : BoxAt W (w.heap.size) #[.int .i64 z, .slice A ats.length c, .slice B out.length e1] := by rw [hW.out]; refine ⟨?_, fun j => ?_, fun j => ?_⟩ <;> go_simp
    obtain ⟨lW0, bW0, fW0⟩ := BW0
    have cW0_0 : W.cell? ⟨w.heap.size, 0, none⟩ = some (.int .i64 z) := bW0 0
    have cW0_1 : W.cell? ⟨w.heap.size, 1, none⟩ = some (.slice A ats.length c) := bW0 1
    have cW0_2 : W.cell? ⟨w.heap.size, 2, none⟩ = some (.slice B out.length e1) := bW0 2
    have BW1 : BoxAt W (w.heap.size + 1) #[.slice none 0 0] := by rw [hW.out]; refine ⟨?_, fun j => ?_, fun j => ?_⟩ <;> go_simp
    obtain ⟨lW1, bW1, fW1⟩ := BW1
    have cW1_0 : W.cell? ⟨w.heap.size + 1, 0, none⟩ = some (.slice none 0 0) := bW1 0
    clear hW
    have Z1 : w.heap.size < w.heap.size + 1 := by omega
    go_wp2_with (first
      | (go_at_call 35; refine (IsAcyclic_any (d := (z, ats, out)) HB.out (VD.toExt HV.out (by refine Chg.isExt (F := []) ?_ (refl_ext _) (by simp); repeat (with_reducible (first | exact Chg.refl _ _ | exact Nat.le_refl _ | exact Chg.ofExt (by assumption) | refine Chg.trans0 ?_ (by assumption) | refine Chg.extS ?_ _ | refine Chg.alloc ?_ _ | refine Chg.drew ?_ | refine Chg.setCellE ?_ ?_ _ | refine le_addk ?_ _ | refine le_ext ?_ | refine le_alloc ?_ _ | refine le_setC ?_ _ _ | refine le_drew ?_ | assumption | (refine Nat.le_of_lt ?_; omega) | omega))))).mono ?_; rintro e w1 ⟨rfl, hx1⟩; rw [N1.out]; have R1 := BoxAt.toExt (cs := #[.slice none 0 0]) ⟨lW1, bW1, fW1⟩ hx1; have P1 := BoxAt.toExt (cs := #[.int .i64 z, .slice A ats.length c, .slice B out.length e1]) ⟨lW0, bW0, fW0⟩ hx1; obtain ⟨l0, a0, a0', a0'', f0⟩ := box3 P1)
      | (go_at_call 76; refine (reduce_any g4 Hx.out (ra.toExt (by refine Chg.isExt (F := []) ?_ (refl_ext _) (by simp); repeat (with_reducible (first | exact Chg.refl _ _ | exact Nat.le_refl _ | exact Chg.ofExt (by assumption) | refine Chg.trans0 ?_ (by assumption) | refine Chg.extS ?_ _ | refine Chg.alloc ?_ _ | refine Chg.drew ?_ | refine Chg.setCellE ?_ ?_ _ | refine le_addk ?_ _ | refine le_ext ?_ | refine le_alloc ?_ _ | refine le_setC ?_ _ _ | refine le_drew ?_ | assumption | (refine Nat.le_of_lt ?_; omega) | omega))))).mono ?_; rintro e w2 ⟨v1, v2, F1, F2, rfl, hx2, hS1, hS2, hF1, hF2⟩; obtain ⟨A2, c2, rfl, _⟩ := hS2.form; have R2 := R1.toExt hx2; obtain ⟨l2, a2, f2⟩ := box1 R2))
    have hz2 := size_of_ext xW
    have hz1 := size_of_ext hx1
    have hF3 : ∀ b ∈ F2, b ∉ [w.heap.size + 1] := fun b hb h => by have := hF2 b hb; simp at h; omega
    have hS3 := hS2.chg ((Chg.refl [w.heap.size + 1] w2).setCell (p := ⟨w.heap.size + 1, 0, none⟩) (.inl (by simp)) (.slice A2 (gyoQ ats).2.length c2)) hF3
    exact bodyPost_ret (v := .tuple #[.agg #[.slice A2 (gyoQ ats).2.length c2], .bool true]) (by simp [results, Try.results39, go_sem, *]) rfl ⟨_, F2, by rw [N1.out], (by refine Chg.isExt (F := []) ?_ (refl_ext _) (by simp); repeat (with_reducible (first | exact Chg.refl _ _ | exact Nat.le_refl _ | exact Chg.ofExt (by assumption) | refine Chg.trans0 ?_ (by assumption) | refine Chg.extS ?_ _ | refine Chg.alloc ?_ _ | refine Chg.drew ?_ | refine Chg.setCellE ?_ ?_ _ | refine le_addk ?_ _ | refine le_ext ?_ | refine le_alloc ?_ _ | refine le_setC ?_ _ _ | refine le_drew ?_ | assumption | (refine Nat.le_of_lt ?_; omega) | omega))), by rw [HE.out]; exact hS3, fun b hb => Nat.le_trans (size_of_ext (by refine Chg.isExt (F := []) ?_ (refl_ext _) (by simp); repeat (with_reducible (first | exact Chg.refl _ _ | exact Nat.le_refl _ | exact Chg.ofExt (by assumption) | refine Chg.trans0 ?_ (by assumption) | refine Chg.extS ?_ _ | refine Chg.alloc ?_ _ | refine Chg.drew ?_ | refine Chg.setCellE ?_ ?_ _ | refine le_addk ?_ _ | refine le_ext ?_ | refine le_alloc ?_ _ | refine le_setC ?_ _ _ | refine le_drew ?_ | assumption | (refine Nat.le_of_lt ?_; omega) | omega)))) (hF2 b hb)⟩
set_option maxHeartbeats 4000000 in
theorem specBuildJoinTree_any {A B : Option Addr} {c e1 : Nat} {d : Qd} {w : World} (hb : BQ d) (h : vQ w [.int .i64 d.1, .slice A d.2.1.length c, .slice B d.2.2.length e1] d) :
    Calls Try.prog 38 #[.agg #[.int .i64 d.1, .slice A d.2.1.length c, .slice B d.2.2.length e1]] w (JtP d w) := by
  have HB := Lib.hid hb
  have HV := Lib.hid h
  obtain ⟨r1, r2, _⟩ := vQ_get h
  have ra := (vAts_get r1).2
  clear r1 r2
  obtain ⟨z, ats, out⟩ := d
  dsimp only at ra ⊢
  clear h hb
  obtain ⟨t1, ht1⟩ : ∃ t, acyB (z, ats, out) = t := ⟨_, rfl⟩
  have N1 := Lib.hid ht1
  cases t1 with
  | false =>
    have HE := Lib.hid (show jtQ (z, ats, out) = [] by unfold jtQ; rw [ht1]; rfl)
    clear ht1
    go_enter Try.func38, Try.ntmps38
    go_upto_region 1 with fail
    refine wp_name ?_
    intro W hW
    have xW : ∃ y, W = ext w y := by rw [hW.out]; exact (by refine Chg.isExt (F := []) ?_ (refl_ext _) (by simp); repeat (with_reducible (first | exact Chg.refl _ _ | exact Nat.le_refl _ | exact Chg.ofExt (by assumption) | refine Chg.trans0 ?_ (by assumption) | refine Chg.extS ?_ _ | refine Chg.alloc ?_ _ | refine Chg.drew ?_ | refine Chg.setCellE ?_ ?_ _ | refine le_addk ?_ _ | refine le_ext ?_ | refine le_alloc ?_ _ | refine le_setC ?_ _ _ | refine le_drew ?_ | assumption | (refine Nat.le_of_lt ?_; omega) | omega)))
    have BW0 : BoxAt W (w.heap.size) #[.int .i64 z, .slice A ats.length c, .slice B out.length e1] := by rw [hW.out]; refine ⟨?_, fun j => ?_, fun j => ?_⟩ <;> go_simp
    obtain ⟨lW0, bW0, fW0⟩ := BW0
    have cW0_0 : W.cell? ⟨w.heap.size, 0, none⟩ = some (.int .i64 z) := bW0 0
    have cW0_1 : W.cell? ⟨w.heap.size, 1, none⟩ = some (.slice A ats.length c) := bW0 1
    have cW0_2 : W.cell? ⟨w.heap.size, 2, none⟩ = some (.slice B out.length e1) := bW0 2
    have BW1 : BoxAt W (w.heap.size + 1) #[.slice none 0 0] := by rw [hW.out]; refine ⟨?_, fun j => ?_, fun j => ?_⟩ <;> go_simp
    obtain ⟨lW1, bW1, fW1⟩ := BW1
    have cW1_0 : W.cell? ⟨w.heap.size + 1, 0, none⟩ = some (.slice none 0 0) := bW1 0
    clear hW
    go_wp2_with (go_at_call 34; refine (specIsAcyclic_any (d := (z, ats, out)) HB.out (VD.toExt HV.out (by refine Chg.isExt (F := []) ?_ (refl_ext _) (by simp); repeat (with_reducible (first | exact Chg.refl _ _ | exact Nat.le_refl _ | exact Chg.ofExt (by assumption) | refine Chg.trans0 ?_ (by assumption) | refine Chg.extS ?_ _ | refine Chg.alloc ?_ _ | refine Chg.drew ?_ | refine Chg.setCellE ?_ ?_ _ | refine le_addk ?_ _ | refine le_ext ?_ | refine le_alloc ?_ _ | refine le_setC ?_ _ _ | refine le_drew ?_ | assumption | (refine Nat.le_of_lt ?_; omega) | omega))))).mono ?_; rintro e w1 ⟨rfl, hx1⟩; rw [N1.out]; have R1 := BoxAt.toExt (cs := #[.slice none 0 0]) ⟨lW1, bW1, fW1⟩ hx1; obtain ⟨l1, a1, f1⟩ := box1 R1)
    exact bodyPost_ret (v := .tuple #[.agg #[.slice none 0 0], .bool false]) (by simp [results, Try.results38, go_sem, *]) rfl ⟨_, [], by rw [N1.out], (by refine Chg.isExt (F := []) ?_ (refl_ext _) (by simp); repeat (with_reducible (first | exact Chg.refl _ _ | exact Nat.le_refl _ | exact Chg.ofExt (by assumption) | refine Chg.trans0 ?_ (by assumption) | refine Chg.extS ?_ _ | refine Chg.alloc ?_ _ | refine Chg.drew ?_ | refine Chg.setCellE ?_ ?_ _ | refine le_addk ?_ _ | refine le_ext ?_ | refine le_alloc ?_ _ | refine le_setC ?_ _ _ | refine le_drew ?_ | assumption | (refine Nat.le_of_lt ?_; omega) | omega))), by rw [HE.out]; exact SV.nil, by simp⟩
  | true =>
    have HE := Lib.hid (show jtQ (z, ats, out) = (gyoQ ats).2 by unfold jtQ; rw [ht1]; rfl)
    have hv1 : vqB (z, ats, out) = true := by unfold acyB at ht1; rw [Bool.and_eq_true] at ht1; exact ht1.1
    have HAC := Lib.hid ht1
    clear ht1
    have ht1 := hv1
    have ht2 := hv1
    clear hv1
    obtain ⟨g1, _, g3⟩ := vqB_facts ht1
    dsimp only at g1 g3
    have Hx : Hid (∀ x ∈ ats, x.2.length ≤ 100000000) := Lib.hid fun x hx => by have := (g3 x hx).2; omega
    have HLn := Lib.hid (gyoQ_len ats)
    have g4 : ats.length ≤ 1000 := by omega
    clear ht1 g3
    have ht1 := ht2
    obtain ⟨g5, g6, g7⟩ := vqB_vars ht1
    dsimp only at g5 g6 g7
    obtain ⟨m, rfl⟩ : ∃ m : Nat, z = m := ⟨z.toNat, by omega⟩
    have Hv : Hid (∀ x ∈ ats, ∀ v ∈ x.2, 0 ≤ v ∧ v < (m : Int)) := Lib.hid g7
    have g8 : m ≤ 1000 := by omega
    clear g5 g6 g7
    clear ht1 ht2
    go_enter Try.func38, Try.ntmps38
    go_upto_region 1 with fail
    refine wp_name ?_
    intro W hW
    have xW : ∃ y, W = ext w y := by rw [hW.out]; exact (by refine Chg.isExt (F := []) ?_ (refl_ext _) (by simp); repeat (with_reducible (first | exact Chg.refl _ _ | exact Nat.le_refl _ | exact Chg.ofExt (by assumption) | refine Chg.trans0 ?_ (by assumption) | refine Chg.extS ?_ _ | refine Chg.alloc ?_ _ | refine Chg.drew ?_ | refine Chg.setCellE ?_ ?_ _ | refine le_addk ?_ _ | refine le_ext ?_ | refine le_alloc ?_ _ | refine le_setC ?_ _ _ | refine le_drew ?_ | assumption | (refine Nat.le_of_lt ?_; omega) | omega)))
    have BW0 : BoxAt W (w.heap.size) #[.int .i64 m, .slice A ats.length c, .slice B out.length e1] := by rw [hW.out]; refine ⟨?_, fun j => ?_, fun j => ?_⟩ <;> go_simp
    obtain ⟨lW0, bW0, fW0⟩ := BW0
    have cW0_0 : W.cell? ⟨w.heap.size, 0, none⟩ = some (.int .i64 m) := bW0 0
    have cW0_1 : W.cell? ⟨w.heap.size, 1, none⟩ = some (.slice A ats.length c) := bW0 1
    have cW0_2 : W.cell? ⟨w.heap.size, 2, none⟩ = some (.slice B out.length e1) := bW0 2
    have BW1 : BoxAt W (w.heap.size + 1) #[.slice none 0 0] := by rw [hW.out]; refine ⟨?_, fun j => ?_, fun j => ?_⟩ <;> go_simp
    obtain ⟨lW1, bW1, fW1⟩ := BW1
    have cW1_0 : W.cell? ⟨w.heap.size + 1, 0, none⟩ = some (.slice none 0 0) := bW1 0
    clear hW
    have Z1 : w.heap.size < w.heap.size + 1 := by omega
    go_wp2_with (first
      | (go_at_call 34; refine (specIsAcyclic_any (d := ((m : Int), ats, out)) HB.out (VD.toExt HV.out (by refine Chg.isExt (F := []) ?_ (refl_ext _) (by simp); repeat (with_reducible (first | exact Chg.refl _ _ | exact Nat.le_refl _ | exact Chg.ofExt (by assumption) | refine Chg.trans0 ?_ (by assumption) | refine Chg.extS ?_ _ | refine Chg.alloc ?_ _ | refine Chg.drew ?_ | refine Chg.setCellE ?_ ?_ _ | refine le_addk ?_ _ | refine le_ext ?_ | refine le_alloc ?_ _ | refine le_setC ?_ _ _ | refine le_drew ?_ | assumption | (refine Nat.le_of_lt ?_; omega) | omega))))).mono ?_; rintro e w1 ⟨rfl, hx1⟩; rw [N1.out]; have R1 := BoxAt.toExt (cs := #[.slice none 0 0]) ⟨lW1, bW1, fW1⟩ hx1; have P1 := BoxAt.toExt (cs := #[.int .i64 m, .slice A ats.length c, .slice B out.length e1]) ⟨lW0, bW0, fW0⟩ hx1; obtain ⟨l0, a0, a0', a0'', f0⟩ := box3 P1)
      | (go_at_call 75; refine (l10Run_any g4 Hx.out g8 Hv.out (ra.toExt (by refine Chg.isExt (F := []) ?_ (refl_ext _) (by simp); repeat (with_reducible (first | exact Chg.refl _ _ | exact Nat.le_refl _ | exact Chg.ofExt (by assumption) | refine Chg.trans0 ?_ (by assumption) | refine Chg.extS ?_ _ | refine Chg.alloc ?_ _ | refine Chg.drew ?_ | refine Chg.setCellE ?_ ?_ _ | refine le_addk ?_ _ | refine le_ext ?_ | refine le_alloc ?_ _ | refine le_setC ?_ _ _ | refine le_drew ?_ | assumption | (refine Nat.le_of_lt ?_; omega) | omega))))).mono ?_; rintro e w2 ⟨v1, v2, F1, F2, rfl, hx2, hS1, hS2, hF1, hF2⟩; obtain ⟨A2, c2, rfl, _⟩ := hS2.form; have R2 := R1.toExt hx2; obtain ⟨l2, a2, f2⟩ := box1 R2))
    have hz2 := size_of_ext xW
    have hz1 := size_of_ext hx1
    have hF3 : ∀ b ∈ F2, b ∉ [w.heap.size + 1] := fun b hb h => by have := hF2 b hb; simp at h; omega
    have hS3 := hS2.chg ((Chg.refl [w.heap.size + 1] w2).setCell (p := ⟨w.heap.size + 1, 0, none⟩) (.inl (by simp)) (.slice A2 (gyoQ ats).2.length c2)) hF3
    exact bodyPost_ret (v := .tuple #[.agg #[.slice A2 (gyoQ ats).2.length c2], .bool true]) (by simp [results, Try.results38, go_sem, *]) rfl ⟨_, F2, by rw [N1.out], (by refine Chg.isExt (F := []) ?_ (refl_ext _) (by simp); repeat (with_reducible (first | exact Chg.refl _ _ | exact Nat.le_refl _ | exact Chg.ofExt (by assumption) | refine Chg.trans0 ?_ (by assumption) | refine Chg.extS ?_ _ | refine Chg.alloc ?_ _ | refine Chg.drew ?_ | refine Chg.setCellE ?_ ?_ _ | refine le_addk ?_ _ | refine le_ext ?_ | refine le_alloc ?_ _ | refine le_setC ?_ _ _ | refine le_drew ?_ | assumption | (refine Nat.le_of_lt ?_; omega) | omega))), by rw [HE.out]; exact hS3, fun b hb => Nat.le_trans (size_of_ext (by refine Chg.isExt (F := []) ?_ (refl_ext _) (by simp); repeat (with_reducible (first | exact Chg.refl _ _ | exact Nat.le_refl _ | exact Chg.ofExt (by assumption) | refine Chg.trans0 ?_ (by assumption) | refine Chg.extS ?_ _ | refine Chg.alloc ?_ _ | refine Chg.drew ?_ | refine Chg.setCellE ?_ ?_ _ | refine le_addk ?_ _ | refine le_ext ?_ | refine le_alloc ?_ _ | refine le_setC ?_ _ _ | refine le_drew ?_ | assumption | (refine Nat.le_of_lt ?_; omega) | omega)))) (hF2 b hb)⟩
end Go.Proofs.Ytoffbconbgipjaa
