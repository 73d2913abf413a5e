/- The neighbours of a variable; the program's way and the reference's. -/
import Derived.Test.YtoffbconbgipjaaNear
import Derived.Test.YtoffbconbgipjaaUnite
namespace Go.Proofs.Ytoffbconbgipjaa
open Go.RowKit

set_option maxHeartbeats 4000000 in
theorem Neighbors_any {A B : Option Addr} {c e1 : Nat} {d : Qd} {n : Int} {w : World} (hb : BQ d) (h : vQ w [.int .i64 d.1, .slice A d.2.1.length c, .slice B d.2.2.length e1] d) :
    Calls Try.prog 32 #[.agg #[.int .i64 d.1, .slice A d.2.1.length c, .slice B d.2.2.length e1], .int .i64 n] w fun e w' => ∃ v F, e = .returned v ∧ (∃ y, w' = ext w y) ∧ SV 3 1 sI w' v (nbrs d n) F ∧ ∀ b ∈ F, w.heap.size ≤ b := by
  have HB := Lib.hid hb
  have HV := Lib.hid h
  obtain ⟨r1, r2, _⟩ := vQ_get h
  have ra := (vAts_get r1).2
  clear r1
  have b1 := hb.2.1
  obtain ⟨z, ats, out⟩ := d
  dsimp only at ra r2 b1 ⊢
  have Hx := Lib.hid b1.each
  have hl := b1.1
  clear h hb b1
  obtain ⟨t1, ht1⟩ : ∃ t, vqB (z, ats, out) = t := ⟨_, rfl⟩
  have N1 := Lib.hid ht1
  cases t1 with
  | false =>
    have HE := Lib.hid (show nbrs (z, ats, out) n = [] by unfold nbrs; rw [ht1]; rfl)
    clear ht1
    go_enter Try.func32, Try.ntmps32
    go_wp2_with (go_at_call 28; refine (IsValidQuery_any (d := (z, ats, out)) HB.out (VD.toExt HV.out (by refine Chg.isExt (F := []) ?_ (refl_ext _) (by simp); repeat (with_reducible (first | exact Chg.refl _ _ | exact Nat.le_refl _ | exact Chg.ofExt (by assumption) | refine Chg.trans0 ?_ (by assumption) | refine Chg.extS ?_ _ | refine Chg.alloc ?_ _ | refine Chg.drew ?_ | refine Chg.setCellE ?_ ?_ _ | refine le_addk ?_ _ | refine le_ext ?_ | refine le_alloc ?_ _ | refine le_setC ?_ _ _ | refine le_drew ?_ | assumption | (refine Nat.le_of_lt ?_; omega) | omega))))).mono ?_; rintro e w1 ⟨rfl, hx1⟩; rw [N1.out])
    go_ret
    exact ⟨_, [], rfl, (by refine Chg.isExt (F := []) ?_ (refl_ext _) (by simp); repeat (with_reducible (first | exact Chg.refl _ _ | exact Nat.le_refl _ | exact Chg.ofExt (by assumption) | refine Chg.trans0 ?_ (by assumption) | refine Chg.extS ?_ _ | refine Chg.alloc ?_ _ | refine Chg.drew ?_ | refine Chg.setCellE ?_ ?_ _ | refine le_addk ?_ _ | refine le_ext ?_ | refine le_alloc ?_ _ | refine le_setC ?_ _ _ | refine le_drew ?_ | assumption | (refine Nat.le_of_lt ?_; omega) | omega))), by rw [HE.out]; exact SV.nil, by simp⟩
  | true =>
    have HE := Lib.hid (nb_eq (v := n) ht1)
    have hl4 := (vqB_facts ht1).1
    dsimp only at hl4
    clear ht1
    go_enter Try.func32, Try.ntmps32
    go_wp2_with (go_at_call 28; refine (IsValidQuery_any (d := (z, ats, out)) HB.out (VD.toExt HV.out (by refine Chg.isExt (F := []) ?_ (refl_ext _) (by simp); repeat (with_reducible (first | exact Chg.refl _ _ | exact Nat.le_refl _ | exact Chg.ofExt (by assumption) | refine Chg.trans0 ?_ (by assumption) | refine Chg.extS ?_ _ | refine Chg.alloc ?_ _ | refine Chg.drew ?_ | refine Chg.setCellE ?_ ?_ _ | refine le_addk ?_ _ | refine le_ext ?_ | refine le_alloc ?_ _ | refine le_setC ?_ _ _ | refine le_drew ?_ | assumption | (refine Nat.le_of_lt ?_; omega) | omega))))).mono ?_; rintro e w1 ⟨rfl, hx1⟩; rw [N1.out]; have P1 := (BoxAt.new w #[.int .i64 z, .slice A ats.length c, .slice B out.length e1] 41).toExt hx1; obtain ⟨l1, a1, a1', a1'', f1⟩ := box3 P1)
    have hxw : ∃ y, w1 = ext w y := (by refine Chg.isExt (F := []) ?_ (refl_ext _) (by simp); repeat (with_reducible (first | exact Chg.refl _ _ | exact Nat.le_refl _ | exact Chg.ofExt (by assumption) | refine Chg.trans0 ?_ (by assumption) | refine Chg.extS ?_ _ | refine Chg.alloc ?_ _ | refine Chg.drew ?_ | refine Chg.setCellE ?_ ?_ _ | refine le_addk ?_ _ | refine le_ext ?_ | refine le_alloc ?_ _ | refine le_setC ?_ _ _ | refine le_drew ?_ | assumption | (refine Nat.le_of_lt ?_; omega) | omega)))
    go_loopw [5, 14] (fun v i wr => ∃ (k : Nat) (ds : List Int) (F : List Nat), i = .int .i64 k ∧ k ≤ ats.length ∧ SV 3 1 sI wr v ds F ∧ (∀ b ∈ F, w1.heap.size ≤ b) ∧ (∃ y, wr = ext w1 y) ∧ ds.length ≤ 5 * k ∧ nbG n ds (ats.drop k) = nbG n [] ats) (fun _ i _ => ats.length - (intOf i).toNat)
    case atStart => exact ⟨0, [], [], rfl, by omega, SV.nil, by simp, refl_ext _, by simp, by simp⟩
    case round =>
      obtain ⟨k, ds, F, rfl, hk, hS, hF, hy, hdl, hj⟩ := hrel
      have HF := Lib.hid hF
      have Hj := Lib.hid hj
      clear hF hj
      obtain ⟨A1, c1, rfl, hc1, _, hV⟩ := hS.view sI_v
      have Hcap := Lib.hid (fun h : A1 = none => hS.cap0 h)
      by_cases hlt : k < ats.length
      · obtain ⟨b, o, A', c', rfl, hb, hc, hd, hv⟩ := (ra.toExt (trans_ext hxw hy)).atA hlt
        have x2 := (Hx.out ats[k] (List.getElem_mem hlt)).2
        have e := Hj.out
        rw [nbG_step hlt] at e
        obtain ⟨s, hs⟩ : ∃ s, ats[k].1 = s := ⟨_, rfl⟩
        obtain ⟨xs, hxs⟩ : ∃ xs, ats[k].2 = xs := ⟨_, rfl⟩
        rw [hxs] at e
        rw [hs] at hc
        rw [hxs] at hd hv x2
        obtain ⟨t2, ht2⟩ : ∃ t, decide (n ∈ xs) = t := ⟨_, rfl⟩
        rw [ht2] at e
        have N2 := Lib.hid ht2
        clear hs hxs ht2
        cases t2 with
        | false =>
          have He := Lib.hid e
          clear e
          go_wp2_with (go_at_call 71; refine (Contains_any (by omega) (hv.toExt (by refine Chg.isExt (F := []) ?_ (refl_ext _) (by simp); repeat (with_reducible (first | exact Chg.refl _ _ | exact Nat.le_refl _ | exact Chg.ofExt (by assumption) | refine Chg.trans0 ?_ (by assumption) | refine Chg.extS ?_ _ | refine Chg.alloc ?_ _ | refine Chg.drew ?_ | refine Chg.setCellE ?_ ?_ _ | refine le_addk ?_ _ | refine le_ext ?_ | refine le_alloc ?_ _ | refine le_setC ?_ _ _ | refine le_drew ?_ | assumption | (refine Nat.le_of_lt ?_; omega) | omega))))).mono ?_; rintro e w2 ⟨rfl, hx2⟩; rw [N2.out])
          exact ⟨⟨k + 1, ds, F, by go_num, by omega, hS.toExt (by refine Chg.isExt (F := []) ?_ (refl_ext _) (by simp); repeat (with_reducible (first | exact Chg.refl _ _ | exact Nat.le_refl _ | exact Chg.ofExt (by assumption) | refine Chg.trans0 ?_ (by assumption) | refine Chg.extS ?_ _ | refine Chg.alloc ?_ _ | refine Chg.drew ?_ | refine Chg.setCellE ?_ ?_ _ | refine le_addk ?_ _ | refine le_ext ?_ | refine le_alloc ?_ _ | refine le_setC ?_ _ _ | refine le_drew ?_ | assumption | (refine Nat.le_of_lt ?_; omega) | omega))), HF.out, (by refine Chg.isExt (F := []) ?_ (refl_ext _) (by simp); repeat (with_reducible (first | exact Chg.refl _ _ | exact Nat.le_refl _ | exact Chg.ofExt (by assumption) | refine Chg.trans0 ?_ (by assumption) | refine Chg.extS ?_ _ | refine Chg.alloc ?_ _ | refine Chg.drew ?_ | refine Chg.setCellE ?_ ?_ _ | refine le_addk ?_ _ | refine le_ext ?_ | refine le_alloc ?_ _ | refine le_setC ?_ _ _ | refine le_drew ?_ | assumption | (refine Nat.le_of_lt ?_; omega) | omega))), by omega, by simpa using He.out⟩, by simp [intOf]; omega⟩
        | true =>
          have ha := avars_length 5 0 xs
          have hu := uniL_length (avars 5 0 xs) ds
          have He := Lib.hid (show nbG n (uniL ds (avars 5 0 xs)) (ats.drop (k + 1)) = nbG n [] ats by simpa using e)
          clear e
          go_wp2_with (first
            | (go_at_call 71; refine (Contains_any (by omega) (hv.toExt (by refine Chg.isExt (F := []) ?_ (refl_ext _) (by simp); repeat (with_reducible (first | exact Chg.refl _ _ | exact Nat.le_refl _ | exact Chg.ofExt (by assumption) | refine Chg.trans0 ?_ (by assumption) | refine Chg.extS ?_ _ | refine Chg.alloc ?_ _ | refine Chg.drew ?_ | refine Chg.setCellE ?_ ?_ _ | refine le_addk ?_ _ | refine le_ext ?_ | refine le_alloc ?_ _ | refine le_setC ?_ _ _ | refine le_drew ?_ | assumption | (refine Nat.le_of_lt ?_; omega) | omega))))).mono ?_; rintro e w2 ⟨rfl, hx2⟩; rw [N2.out]; have k0 : w2.cell? ⟨wr.heap.size, 0, none⟩ = some (.string s) := (by obtain ⟨y, e⟩ := hx2; rw [e, cell_ext (by simp)]; simp); have k1 : w2.cell? ⟨wr.heap.size, 1, none⟩ = some (.slice A' xs.length c') := (by obtain ⟨y, e⟩ := hx2; rw [e, cell_ext (by simp)]; simp))
            | (go_at_call 56; refine (AtomVariables_any (by omega) (hv.toExt (by refine Chg.isExt (F := []) ?_ (refl_ext _) (by simp); repeat (with_reducible (first | exact Chg.refl _ _ | exact Nat.le_refl _ | exact Chg.ofExt (by assumption) | refine Chg.trans0 ?_ (by assumption) | refine Chg.extS ?_ _ | refine Chg.alloc ?_ _ | refine Chg.drew ?_ | refine Chg.setCellE ?_ ?_ _ | refine le_addk ?_ _ | refine le_ext ?_ | refine le_alloc ?_ _ | refine le_setC ?_ _ _ | refine le_drew ?_ | assumption | (refine Nat.le_of_lt ?_; omega) | omega))))).mono ?_; rintro e w3 ⟨v3, F3, rfl, hx3, hS3, hF3⟩; obtain ⟨A3, c3, rfl, _, _, hV3⟩ := hS3.view sI_v)
            | (go_at_call 72; refine (unite_any (by omega) Hcap.out (hV.toExt (by refine Chg.isExt (F := []) ?_ (refl_ext _) (by simp); repeat (with_reducible (first | exact Chg.refl _ _ | exact Nat.le_refl _ | exact Chg.ofExt (by assumption) | refine Chg.trans0 ?_ (by assumption) | refine Chg.extS ?_ _ | refine Chg.alloc ?_ _ | refine Chg.drew ?_ | refine Chg.setCellE ?_ ?_ _ | refine le_addk ?_ _ | refine le_ext ?_ | refine le_alloc ?_ _ | refine le_setC ?_ _ _ | refine le_drew ?_ | assumption | (refine Nat.le_of_lt ?_; omega) | omega)))) (by omega) hV3).mono ?_; rintro e w4 ⟨v4, F4, rfl, hx4, hS4, hF4⟩))
          exact ⟨⟨k + 1, _, F4, by go_num, by omega, hS4, fun b hb => Nat.le_trans (size_of_ext (by refine Chg.isExt (F := []) ?_ (refl_ext _) (by simp); repeat (with_reducible (first | exact Chg.refl _ _ | exact Nat.le_refl _ | exact Chg.ofExt (by assumption) | refine Chg.trans0 ?_ (by assumption) | refine Chg.extS ?_ _ | refine Chg.alloc ?_ _ | refine Chg.drew ?_ | refine Chg.setCellE ?_ ?_ _ | refine le_addk ?_ _ | refine le_ext ?_ | refine le_alloc ?_ _ | refine le_setC ?_ _ _ | refine le_drew ?_ | assumption | (refine Nat.le_of_lt ?_; omega) | omega)))) (hF4 b hb), (by refine Chg.isExt (F := []) ?_ (refl_ext _) (by simp); repeat (with_reducible (first | exact Chg.refl _ _ | exact Nat.le_refl _ | exact Chg.ofExt (by assumption) | refine Chg.trans0 ?_ (by assumption) | refine Chg.extS ?_ _ | refine Chg.alloc ?_ _ | refine Chg.drew ?_ | refine Chg.setCellE ?_ ?_ _ | refine le_addk ?_ _ | refine le_ext ?_ | refine le_alloc ?_ _ | refine le_setC ?_ _ _ | refine le_drew ?_ | assumption | (refine Nat.le_of_lt ?_; omega) | omega))), by omega, He.out⟩, by simp [intOf]; omega⟩
      · have e := Hj.out
        rw [nbG_end hlt] at e
        have He := Lib.hid (show strike n ds = nbrs (z, ats, out) n by rw [e]; exact HE.out)
        clear e
        go_wp2_with (go_at_call 73; refine (without_any (by omega) hV).mono ?_; rintro e w2 ⟨v2, F2, rfl, hx2, hS2, hF2⟩; rw [He.out] at hS2)
        go_ret
        exact ⟨_, F2, rfl, (by refine Chg.isExt (F := []) ?_ (refl_ext _) (by simp); repeat (with_reducible (first | exact Chg.refl _ _ | exact Nat.le_refl _ | exact Chg.ofExt (by assumption) | refine Chg.trans0 ?_ (by assumption) | refine Chg.extS ?_ _ | refine Chg.alloc ?_ _ | refine Chg.drew ?_ | refine Chg.setCellE ?_ ?_ _ | refine le_addk ?_ _ | refine le_ext ?_ | refine le_alloc ?_ _ | refine le_setC ?_ _ _ | refine le_drew ?_ | assumption | (refine Nat.le_of_lt ?_; omega) | omega))), hS2, fun b hb => Nat.le_trans (size_of_ext (by refine Chg.isExt (F := []) ?_ (refl_ext _) (by simp); repeat (with_reducible (first | exact Chg.refl _ _ | exact Nat.le_refl _ | exact Chg.ofExt (by assumption) | refine Chg.trans0 ?_ (by assumption) | refine Chg.extS ?_ _ | refine Chg.alloc ?_ _ | refine Chg.drew ?_ | refine Chg.setCellE ?_ ?_ _ | refine le_addk ?_ _ | refine le_ext ?_ | refine le_alloc ?_ _ | refine le_setC ?_ _ _ | refine le_drew ?_ | assumption | (refine Nat.le_of_lt ?_; omega) | omega)))) (hF2 b hb)⟩
theorem anyA_take {α : Type} {p : α → Bool} {xs : List α} {k : Nat} (h : k < xs.length) : (xs.take (k + 1)).any p = ((xs.take k).any p || p xs[k]) := by
  rw [List.take_succ_eq_append_getElem h, List.any_append]
  simp
set_option maxHeartbeats 8000000 in
theorem specNeighbors_any {A B : Option Addr} {c e1 : Nat} {d : Qd} {n : Int} {w : World} (hb : BQ d) (h : vQ w [.int .i64 d.1, .slice A d.2.1.length c, .slice B d.2.2.length e1] d) :
    Calls Try.prog 31 #[.agg #[.int .i64 d.1, .slice A d.2.1.length c, .slice B d.2.2.length e1], .int .i64 n] w fun e w' => ∃ v F, e = .returned v ∧ (∃ y, w' = ext w y) ∧ SV 3 1 sI w' v (nbrs d n) F ∧ ∀ b ∈ F, w.heap.size ≤ b := by
  have HB := Lib.hid hb
  have HV := Lib.hid h
  obtain ⟨r1, r2, _⟩ := vQ_get h
  have ra := (vAts_get r1).2
  clear r1
  have b1 := hb.2.1
  have hz := hb.1
  obtain ⟨z, ats, out⟩ := d
  dsimp only at ra r2 b1 hz ⊢
  have Hx := Lib.hid b1.each
  have hl := b1.1
  clear h hb b1
  obtain ⟨t1, ht1⟩ : ∃ t, vqB (z, ats, out) = t := ⟨_, rfl⟩
  have N1 := Lib.hid ht1
  cases t1 with
  | false =>
    have HE := Lib.hid (show nbrs (z, ats, out) n = [] by unfold nbrs; rw [ht1]; rfl)
    clear ht1
    obtain ⟨hz1, hz2⟩ := hz
    by_cases h0 : 0 < z
    all_goals
      go_enter Try.func31, Try.ntmps31
      go_upto_region 1 with fail
      refine wp_name ?_
      intro W hW
      have xW : ∃ y, W = ext w y := by rw [hW.out]; exact (by refine Chg.isExt (F := []) ?_ (refl_ext _) (by simp); repeat (with_reducible (first | exact Chg.refl _ _ | exact Nat.le_refl _ | exact Chg.ofExt (by assumption) | refine Chg.trans0 ?_ (by assumption) | refine Chg.extS ?_ _ | refine Chg.alloc ?_ _ | refine Chg.drew ?_ | refine Chg.setCellE ?_ ?_ _ | refine le_addk ?_ _ | refine le_ext ?_ | refine le_alloc ?_ _ | refine le_setC ?_ _ _ | refine le_drew ?_ | assumption | (refine Nat.le_of_lt ?_; omega) | omega)))
      have BW0 : BoxAt W (w.heap.size) #[.int .i64 z, .slice A ats.length c, .slice B out.length e1] := by rw [hW.out]; refine ⟨?_, fun j => ?_, fun j => ?_⟩ <;> go_simp
      obtain ⟨lW0, bW0, fW0⟩ := BW0
      have cW0_0 : W.cell? ⟨w.heap.size, 0, none⟩ = some (.int .i64 z) := bW0 0
      have cW0_1 : W.cell? ⟨w.heap.size, 1, none⟩ = some (.slice A ats.length c) := bW0 1
      have cW0_2 : W.cell? ⟨w.heap.size, 2, none⟩ = some (.slice B out.length e1) := bW0 2
      clear hW
      go_wp2
      refine wp_loop_rounds 1 ?_
      rw [rounds_succ]
      go_wp2_with (go_at_call 27; refine (specIsValidQuery_any (d := (z, ats, out)) HB.out (VD.toExt HV.out (by refine Chg.isExt (F := []) ?_ (refl_ext _) (by simp); repeat (with_reducible (first | exact Chg.refl _ _ | exact Nat.le_refl _ | exact Chg.ofExt (by assumption) | refine Chg.trans0 ?_ (by assumption) | refine Chg.extS ?_ _ | refine Chg.alloc ?_ _ | refine Chg.drew ?_ | refine Chg.setCellE ?_ ?_ _ | refine le_addk ?_ _ | refine le_ext ?_ | refine le_alloc ?_ _ | refine le_setC ?_ _ _ | refine le_drew ?_ | assumption | (refine Nat.le_of_lt ?_; omega) | omega))))).mono ?_; rintro e w1 ⟨rfl, hx1⟩; rw [N1.out])
      go_ret
      first
        | exact ⟨_, [W.heap.size], rfl, (by refine Chg.isExt (F := []) ?_ (refl_ext _) (by simp); repeat (with_reducible (first | exact Chg.refl _ _ | exact Nat.le_refl _ | exact Chg.ofExt (by assumption) | refine Chg.trans0 ?_ (by assumption) | refine Chg.extS ?_ _ | refine Chg.alloc ?_ _ | refine Chg.drew ?_ | refine Chg.setCellE ?_ ?_ _ | refine le_addk ?_ _ | refine le_ext ?_ | refine le_alloc ?_ _ | refine le_setC ?_ _ _ | refine le_drew ?_ | assumption | (refine Nat.le_of_lt ?_; omega) | omega))), by rw [HE.out]; exact (SV.empty W).toExt (by refine Chg.isExt (F := []) ?_ (refl_ext _) (by simp); repeat (with_reducible (first | exact Chg.refl _ _ | exact Nat.le_refl _ | exact Chg.ofExt (by assumption) | refine Chg.trans0 ?_ (by assumption) | refine Chg.extS ?_ _ | refine Chg.alloc ?_ _ | refine Chg.drew ?_ | refine Chg.setCellE ?_ ?_ _ | refine le_addk ?_ _ | refine le_ext ?_ | refine le_alloc ?_ _ | refine le_setC ?_ _ _ | refine le_drew ?_ | assumption | (refine Nat.le_of_lt ?_; omega) | omega))), fun b hb => by have := size_of_ext xW; simp at hb; omega⟩
        | exact ⟨_, rfl, (by refine Chg.isExt (F := []) ?_ (refl_ext _) (by simp); repeat (with_reducible (first | exact Chg.refl _ _ | exact Nat.le_refl _ | exact Chg.ofExt (by assumption) | refine Chg.trans0 ?_ (by assumption) | refine Chg.extS ?_ _ | refine Chg.alloc ?_ _ | refine Chg.drew ?_ | refine Chg.setCellE ?_ ?_ _ | refine le_addk ?_ _ | refine le_ext ?_ | refine le_alloc ?_ _ | refine le_setC ?_ _ _ | refine le_drew ?_ | assumption | (refine Nat.le_of_lt ?_; omega) | omega))), [W.heap.size], by rw [HE.out]; exact (SV.empty W).toExt (by refine Chg.isExt (F := []) ?_ (refl_ext _) (by simp); repeat (with_reducible (first | exact Chg.refl _ _ | exact Nat.le_refl _ | exact Chg.ofExt (by assumption) | refine Chg.trans0 ?_ (by assumption) | refine Chg.extS ?_ _ | refine Chg.alloc ?_ _ | refine Chg.drew ?_ | refine Chg.setCellE ?_ ?_ _ | refine le_addk ?_ _ | refine le_ext ?_ | refine le_alloc ?_ _ | refine le_setC ?_ _ _ | refine le_drew ?_ | assumption | (refine Nat.le_of_lt ?_; omega) | omega))), fun b hb => by have := size_of_ext xW; simp at hb; omega⟩
  | true =>
    obtain ⟨g1, g2, _⟩ := vqB_vars ht1
    dsimp only at g1 g2
    obtain ⟨m, rfl⟩ : ∃ m : Nat, z = m := ⟨z.toNat, by omega⟩
    have HE := Lib.hid (show nbrs ((m : Int), ats, out) n = selF (nearS ats n) m 0 by unfold nbrs; rw [if_pos ht1]; simp)
    have hl4 := (vqB_facts ht1).1
    dsimp only at hl4
    have hm5 : m ≤ 5 := by omega
    clear ht1 hz g1 g2
    go_enter Try.func31, Try.ntmps31
    go_upto_region 1 with fail
    refine wp_name ?_
    intro W hW
    have xW : ∃ y, W = ext w y := by rw [hW.out]; exact (by refine Chg.isExt (F := []) ?_ (refl_ext _) (by simp); repeat (with_reducible (first | exact Chg.refl _ _ | exact Nat.le_refl _ | exact Chg.ofExt (by assumption) | refine Chg.trans0 ?_ (by assumption) | refine Chg.extS ?_ _ | refine Chg.alloc ?_ _ | refine Chg.drew ?_ | refine Chg.setCellE ?_ ?_ _ | refine le_addk ?_ _ | refine le_ext ?_ | refine le_alloc ?_ _ | refine le_setC ?_ _ _ | refine le_drew ?_ | assumption | (refine Nat.le_of_lt ?_; omega) | omega)))
    have BW0 : BoxAt W (w.heap.size) #[.int .i64 m, .slice A ats.length c, .slice B out.length e1] := by rw [hW.out]; refine ⟨?_, fun j => ?_, fun j => ?_⟩ <;> go_simp
    obtain ⟨lW0, bW0, fW0⟩ := BW0
    have cW0_0 : W.cell? ⟨w.heap.size, 0, none⟩ = some (.int .i64 m) := bW0 0
    have cW0_1 : W.cell? ⟨w.heap.size, 1, none⟩ = some (.slice A ats.length c) := bW0 1
    have cW0_2 : W.cell? ⟨w.heap.size, 2, none⟩ = some (.slice B out.length e1) := bW0 2
    clear hW
    have PW : BoxAt W w.heap.size #[.int .i64 m, .slice A ats.length c, .slice B out.length e1] := ⟨lW0, bW0, fW0⟩
    go_wp2
    clear lW0 bW0 fW0 cW0_0 cW0_1 cW0_2
    go_loopw [5, 6] (fun v i wr => ∃ (k : Nat) (ds : List Int) (F : List Nat), i = .int .i64 k ∧ k ≤ m ∧ SV 3 1 sI wr v ds F ∧ (∀ b ∈ F, W.heap.size ≤ b) ∧ (∃ y, wr = ext W y) ∧ ds.length ≤ k ∧ ds ++ selF (nearS ats n) (m - k) k = selF (nearS ats n) m 0) (fun _ i _ => m - (intOf i).toNat)
    case atStart => exact ⟨0, [], [W.heap.size], rfl, by omega, SV.empty W, by simp, alloc_ext _ _, by simp, by simp⟩
    case round =>
      obtain ⟨k, ds, F, rfl, hk, hS, hF, hy, hdl, hj⟩ := hrel
      have HF := Lib.hid hF
      have Hj := Lib.hid hj
      clear hF hj
      have PR := PW.toExt hy
      obtain ⟨lR, aR, aR', aR'', fR⟩ := box3 PR
      by_cases hlt : k < m
      · go_wp2_with (go_at_call 27; refine (specIsValidQuery_any (d := ((m : Int), ats, out)) HB.out (VD.toExt HV.out (trans_ext xW hy))).mono ?_; rintro e wq ⟨rfl, hxq⟩; rw [N1.out]; have hyq := trans_ext hy hxq; have PQ := PW.toExt hyq; obtain ⟨lQ, aQ, aQ', aQ'', fQ⟩ := box3 PQ)
        have hSq := hS.toExt hxq
        go_loopw [7, 8] (fun t i vs => ∃ (j : Nat) (t0 : Bool), t = .bool t0 ∧ i = .int .i64 j ∧ j ≤ ats.length ∧ (∃ y, vs = ext wq y) ∧ Hid (t0 = (ats.take j).any (nearP n k))) (fun _ i _ => ats.length - (intOf i).toNat)
        case atStart => exact ⟨0, false, rfl, rfl, by omega, refl_ext _, by simp [Hid]⟩
        case round =>
          obtain ⟨j, t0, rfl, rfl, hj1, hyv, Ht⟩ := hrel
          have PV := PW.toExt (trans_ext hyq hyv)
          obtain ⟨lV, aV, aV', aV'', fV⟩ := box3 PV
          by_cases hlt2 : j < ats.length
          · obtain ⟨b, o, A', c', rfl, hb, hc, hd, hv⟩ := (ra.toExt (trans_ext xW (trans_ext hyq hyv))).atA hlt2
            have x2 := (Hx.out ats[j] (List.getElem_mem hlt2)).2
            have e := anyA_take (p := nearP n k) hlt2
            rw [← Ht.out, show nearP n k ats[j] = (decide ((k : Int) ≠ n) && decide (n ∈ ats[j].2) && decide ((k : Int) ∈ ats[j].2)) from rfl] at e
            obtain ⟨s, hs⟩ : ∃ s, ats[j].1 = s := ⟨_, rfl⟩
            obtain ⟨xs, hxs⟩ : ∃ xs, ats[j].2 = xs := ⟨_, rfl⟩
            rw [hxs] at e
            rw [hs] at hc
            rw [hxs] at hd hv x2
            obtain ⟨t1, ht1⟩ : ∃ t, decide ((k : Int) ≠ n) = t := ⟨_, rfl⟩
            obtain ⟨t2, ht2⟩ : ∃ t, decide (n ∈ xs) = t := ⟨_, rfl⟩
            obtain ⟨t3, ht3⟩ : ∃ t, decide ((k : Int) ∈ xs) = t := ⟨_, rfl⟩
            have q1 : ((k : Int) != n) = t1 := by rw [← ht1]; by_cases q : (k : Int) = n <;> simp [q]
            rw [ht1, ht2, ht3] at e
            have He := Lib.hid e
            have N2 := Lib.hid ht2
            have N3 := Lib.hid ht3
            clear e hs hxs ht1 ht2 ht3 Ht
            cases t0 <;> cases t1 <;> cases t2 <;> cases t3
            all_goals
              go_wp2_with (go_at_call 53; refine (specContains_any (by omega) (hv.toExt (by refine Chg.isExt (F := []) ?_ (refl_ext _) (by simp); repeat (with_reducible (first | exact Chg.refl _ _ | exact Nat.le_refl _ | exact Chg.ofExt (by assumption) | refine Chg.trans0 ?_ (by assumption) | refine Chg.extS ?_ _ | refine Chg.alloc ?_ _ | refine Chg.drew ?_ | refine Chg.setCellE ?_ ?_ _ | refine le_addk ?_ _ | refine le_ext ?_ | refine le_alloc ?_ _ | refine le_setC ?_ _ _ | refine le_drew ?_ | assumption | (refine Nat.le_of_lt ?_; omega) | omega))))).mono ?_; rintro e w3 ⟨rfl, y3, rfl⟩; (first | rw [N2.out] | rw [N3.out]))
              exact ⟨⟨j + 1, _, rfl, by go_num, by omega, (by refine Chg.isExt (F := []) ?_ (refl_ext _) (by simp); repeat (with_reducible (first | exact Chg.refl _ _ | exact Nat.le_refl _ | exact Chg.ofExt (by assumption) | refine Chg.trans0 ?_ (by assumption) | refine Chg.extS ?_ _ | refine Chg.alloc ?_ _ | refine Chg.drew ?_ | refine Chg.setCellE ?_ ?_ _ | refine le_addk ?_ _ | refine le_ext ?_ | refine le_alloc ?_ _ | refine le_setC ?_ _ _ | refine le_drew ?_ | assumption | (refine Nat.le_of_lt ?_; omega) | omega))), Lib.hid (by rw [He.out]; rfl)⟩, by simp [intOf]; omega⟩
          · have e := Ht.out
            rw [List.take_of_length_le (by omega)] at e
            have e2 := Hj.out
            rw [selF_step hlt, show nearS ats n k = t0 from e.symm] at e2
            have He := Lib.hid e2
            clear e e2 Ht
            have hSv := hSq.toExt hyv
            have hyV := trans_ext hyq hyv
            cases t0 with
            | true =>
              go_wp2_with (at_builtin; refine wpList_app1 (E := sI) (d := (k : Int)) rfl _ _ _ rfl tI rfl rfl rfl (by simp) (fun _ => ⟨rfl, rfl⟩) rfl (by simp [Value.oneCell']) hSv (by omega) (by omega) ?_; intro v' w' F' hS' hC' hF')
              exact ⟨⟨k + 1, ds ++ [(k : Int)], F', by go_num, by omega, hS', newer HF.out (size_of_ext hyV) hF', hC'.isExt hyV HF.out, by simp; omega, by simpa using He.out⟩, by simp [intOf]; omega⟩
            | false =>
              go_wp2
              exact ⟨⟨k + 1, ds, F, by go_num, by omega, hSv, HF.out, hyV, by omega, by simpa using He.out⟩, by simp [intOf]; omega⟩
      · have e := Hj.out
        rw [show m - k = 0 by omega, selF, List.append_nil] at e
        have He := Lib.hid (e.trans HE.out.symm)
        clear e
        go_wp2
        go_ret
        exact ⟨_, F, rfl, trans_ext xW hy, by rw [← He.out]; exact hS, fun b hb => Nat.le_trans (size_of_ext xW) (HF.out b hb)⟩
end Go.Proofs.Ytoffbconbgipjaa
