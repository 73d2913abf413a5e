/- Whether parents are a join tree of a query; the program's way and the reference's. -/
import Derived.Test.YtoffbconbgipjaaVJT
import Derived.Test.YtoffbconbgipjaaRowsT
namespace Go.Proofs.Ytoffbconbgipjaa
open Go.RowKit

def ivjB (d : Qd) (ps : List Int) : Bool := vqB d && jtB d.1.toNat d.2.1 ps
theorem vof_len {ats : List At} (h : ∀ x ∈ ats, x.2.length ≤ 100000000) (j : Nat) : (vof ats j).length ≤ 100000000 := by
  by_cases hj : j < ats.length
  · rw [← vof_get hj]; exact h _ (List.getElem_mem hj)
  · unfold vof
    rw [List.getD_eq_getElem?_getD, List.getElem?_eq_none (by omega)]
    simp
theorem treeB_rng {ps : List Int} (h : treeB ps = true) {j : Nat} (hj : j < ps.length) : -1 ≤ ps.getD j 0 ∧ ps.getD j 0 ≤ (ps.length : Int) - 1 := by
  unfold treeB at h
  rw [Bool.and_eq_true, allF_iff] at h
  have := h.1 j (by omega) (by omega)
  unfold upB at this
  rw [Bool.and_eq_true] at this
  exact inB_t this.1
def sW (W : World) : SE (List Int) := fun _ c ds F => vS0 W c ds ∧ F = []
instance (W : World) : SMono (sW W) := ⟨fun h b hb => by rw [h.2] at hb; simp at hb, fun h _ => h⟩
instance (W : World) : SPlain (sW W) := ⟨fun h => h.2⟩
set_option maxRecDepth 100000 in
set_option maxHeartbeats 8000000 in
theorem IsValidJoinTree_any {A B C : Option Addr} {c e1 f1 : Nat} {d : Qd} {ps : List Int} {w : World} (hb : BQ d) (h : vQ w [.int .i64 d.1, .slice A d.2.1.length c, .slice B d.2.2.length e1] d) (hx : ps.length ≤ 100000000) (h1 : RI w C ps) :
    Calls Try.prog 46 #[.agg #[.int .i64 d.1, .slice A d.2.1.length c, .slice B d.2.2.length e1], .agg #[.slice C ps.length f1]] w fun e w' => e = .returned (.bool (ivjB d ps)) ∧ ∃ y, w' = ext w y := by
  have HB := Lib.hid hb
  have HV := Lib.hid h
  obtain ⟨r1, r2, _⟩ := vQ_get h
  have ra := (vAts_get r1).2
  clear r1 r2
  obtain ⟨z, ats, out⟩ := d
  dsimp only at ra ⊢
  clear h hb
  obtain ⟨t1, ht1⟩ : ∃ t, vqB (z, ats, out) = t := ⟨_, rfl⟩
  have N1 := Lib.hid ht1
  cases t1 with
  | false =>
    have HE := Lib.hid (show ivjB (z, ats, out) ps = false by unfold ivjB; rw [ht1]; rfl)
    clear ht1
    go_enter Try.func46, Try.ntmps46
    go_wp2_with (go_at_call 28; refine (IsValidQuery_any (d := (z, ats, out)) HB.out (VD.toExt HV.out (by refine Chg.isExt (F := []) ?_ (refl_ext _) (by simp); repeat (with_reducible (first | exact Chg.refl _ _ | exact Nat.le_refl _ | exact Chg.ofExt (by assumption) | refine Chg.trans0 ?_ (by assumption) | refine Chg.extS ?_ _ | refine Chg.alloc ?_ _ | refine Chg.drew ?_ | refine Chg.setCellE ?_ ?_ _ | refine le_addk ?_ _ | refine le_ext ?_ | refine le_alloc ?_ _ | refine le_setC ?_ _ _ | refine le_drew ?_ | assumption | (refine Nat.le_of_lt ?_; omega) | omega))))).mono ?_; rintro e w1 ⟨rfl, hx1⟩; rw [N1.out])
    go_ret
    exact ⟨by rw [HE.out]; rfl, (by refine Chg.isExt (F := []) ?_ (refl_ext _) (by simp); repeat (with_reducible (first | exact Chg.refl _ _ | exact Nat.le_refl _ | exact Chg.ofExt (by assumption) | refine Chg.trans0 ?_ (by assumption) | refine Chg.extS ?_ _ | refine Chg.alloc ?_ _ | refine Chg.drew ?_ | refine Chg.setCellE ?_ ?_ _ | refine le_addk ?_ _ | refine le_ext ?_ | refine le_alloc ?_ _ | refine le_setC ?_ _ _ | refine le_drew ?_ | assumption | (refine Nat.le_of_lt ?_; omega) | omega)))⟩
  | true =>
    obtain ⟨g1, _, g3⟩ := vqB_facts ht1
    dsimp only at g1 g3
    have Hxx : Hid (∀ x ∈ ats, x.2.length ≤ 100000000) := Lib.hid fun x hx => by have := (g3 x hx).2; omega
    have Hx := Lib.hid (vof_len Hxx.out)
    have g4 : ats.length ≤ 1000 := by omega
    obtain ⟨g5, g6, g7⟩ := vqB_vars ht1
    dsimp only at g5 g6 g7
    obtain ⟨m, rfl⟩ : ∃ m : Nat, z = m := ⟨z.toNat, by omega⟩
    have g8 : m ≤ 1000 := by omega
    have g9 : 1 ≤ ats.length := by
      have h9 := N1.out
      unfold vqB at h9
      simp only [Bool.and_eq_true] at h9
      have := inB_t h9.1.1.1.2
      omega
    clear ht1 g3 g5 g6 g7
    obtain ⟨tl, htl⟩ : ∃ t, decide (ps.length = ats.length) = t := ⟨_, rfl⟩
    have NL := Lib.hid htl
    have ql : ((ps.length : Int) != (ats.length : Int)) = !tl := by rw [← htl]; by_cases q : ps.length = ats.length <;> simp [q]; omega
    obtain ⟨tt, htt⟩ : ∃ t, treeB ps = t := ⟨_, rfl⟩
    have NT := Lib.hid htt
    have HE := Lib.hid (show ivjB ((m : Int), ats, out) ps = (tl && tt && allF (fun v => decide (tops ats ps v = 1)) m 0) by unfold ivjB jtB; rw [N1.out, htl, htt]; simp)
    clear htl htt
    go_enter Try.func46, Try.ntmps46
    go_upto_region 1 with fail
    refine wp_name ?_
    intro W hW
    have xW : ∃ y, W = ext w y := by rw [hW.out]; exact (by refine Chg.isExt (F := []) ?_ (refl_ext _) (by simp); repeat (with_reducible (first | exact Chg.refl _ _ | exact Nat.le_refl _ | exact Chg.ofExt (by assumption) | refine Chg.trans0 ?_ (by assumption) | refine Chg.extS ?_ _ | refine Chg.alloc ?_ _ | refine Chg.drew ?_ | refine Chg.setCellE ?_ ?_ _ | refine le_addk ?_ _ | refine le_ext ?_ | refine le_alloc ?_ _ | refine le_setC ?_ _ _ | refine le_drew ?_ | assumption | (refine Nat.le_of_lt ?_; omega) | omega)))
    have BW0 : BoxAt W (w.heap.size) #[.int .i64 m, .slice A ats.length c, .slice B out.length e1] := by rw [hW.out]; refine ⟨?_, fun j => ?_, fun j => ?_⟩ <;> go_simp
    obtain ⟨lW0, bW0, fW0⟩ := BW0
    have cW0_0 : W.cell? ⟨w.heap.size, 0, none⟩ = some (.int .i64 m) := bW0 0
    have cW0_1 : W.cell? ⟨w.heap.size, 1, none⟩ = some (.slice A ats.length c) := bW0 1
    have cW0_2 : W.cell? ⟨w.heap.size, 2, none⟩ = some (.slice B out.length e1) := bW0 2
    have BW1 : BoxAt W (w.heap.size + 1) #[.slice C ps.length f1] := by rw [hW.out]; refine ⟨?_, fun j => ?_, fun j => ?_⟩ <;> go_simp
    obtain ⟨lW1, bW1, fW1⟩ := BW1
    have cW1_0 : W.cell? ⟨w.heap.size + 1, 0, none⟩ = some (.slice C ps.length f1) := bW1 0
    clear hW
    have PW : BoxAt W w.heap.size #[.int .i64 m, .slice A ats.length c, .slice B out.length e1] := ⟨lW0, bW0, fW0⟩
    have QW : BoxAt W (w.heap.size + 1) #[.slice C ps.length f1] := ⟨lW1, bW1, fW1⟩
    clear bW0 fW0 bW1 fW1
    cases tl with
    | false =>
      go_wp2_with (go_at_call 28; refine (IsValidQuery_any (d := ((m : Int), ats, out)) HB.out (VD.toExt HV.out (by refine Chg.isExt (F := []) ?_ (refl_ext _) (by simp); repeat (with_reducible (first | exact Chg.refl _ _ | exact Nat.le_refl _ | exact Chg.ofExt (by assumption) | refine Chg.trans0 ?_ (by assumption) | refine Chg.extS ?_ _ | refine Chg.alloc ?_ _ | refine Chg.drew ?_ | refine Chg.setCellE ?_ ?_ _ | refine le_addk ?_ _ | refine le_ext ?_ | refine le_alloc ?_ _ | refine le_setC ?_ _ _ | refine le_drew ?_ | assumption | (refine Nat.le_of_lt ?_; omega) | omega))))).mono ?_; rintro e w1 ⟨rfl, hx1⟩; rw [N1.out]; obtain ⟨l1, a1, a1', a1'', f2⟩ := box3 (PW.toExt hx1); obtain ⟨l2, a2, f3⟩ := box1 (QW.toExt hx1))
      go_ret
      exact ⟨by rw [HE.out]; rfl, (by refine Chg.isExt (F := []) ?_ (refl_ext _) (by simp); repeat (with_reducible (first | exact Chg.refl _ _ | exact Nat.le_refl _ | exact Chg.ofExt (by assumption) | refine Chg.trans0 ?_ (by assumption) | refine Chg.extS ?_ _ | refine Chg.alloc ?_ _ | refine Chg.drew ?_ | refine Chg.setCellE ?_ ?_ _ | refine le_addk ?_ _ | refine le_ext ?_ | refine le_alloc ?_ _ | refine le_setC ?_ _ _ | refine le_drew ?_ | assumption | (refine Nat.le_of_lt ?_; omega) | omega)))⟩
    | true =>
      have HPL : Hid (ps.length = ats.length) := Lib.hid (by simpa using NL.out)
      cases tt with
      | false =>
        go_wp2_with (first
          | (go_at_call 28; refine (IsValidQuery_any (d := ((m : Int), ats, out)) HB.out (VD.toExt HV.out (by refine Chg.isExt (F := []) ?_ (refl_ext _) (by simp); repeat (with_reducible (first | exact Chg.refl _ _ | exact Nat.le_refl _ | exact Chg.ofExt (by assumption) | refine Chg.trans0 ?_ (by assumption) | refine Chg.extS ?_ _ | refine Chg.alloc ?_ _ | refine Chg.drew ?_ | refine Chg.setCellE ?_ ?_ _ | refine le_addk ?_ _ | refine le_ext ?_ | refine le_alloc ?_ _ | refine le_setC ?_ _ _ | refine le_drew ?_ | assumption | (refine Nat.le_of_lt ?_; omega) | omega))))).mono ?_; rintro e w1 ⟨rfl, hx1⟩; rw [N1.out]; obtain ⟨l1, a1, a1', a1'', f2⟩ := box3 (PW.toExt hx1); obtain ⟨l2, a2, f3⟩ := box1 (QW.toExt hx1))
          | (go_at_call 79; refine (isTree_any hx (h1.toExt (by refine Chg.isExt (F := []) ?_ (refl_ext _) (by simp); repeat (with_reducible (first | exact Chg.refl _ _ | exact Nat.le_refl _ | exact Chg.ofExt (by assumption) | refine Chg.trans0 ?_ (by assumption) | refine Chg.extS ?_ _ | refine Chg.alloc ?_ _ | refine Chg.drew ?_ | refine Chg.setCellE ?_ ?_ _ | refine le_addk ?_ _ | refine le_ext ?_ | refine le_alloc ?_ _ | refine le_setC ?_ _ _ | refine le_drew ?_ | assumption | (refine Nat.le_of_lt ?_; omega) | omega))))).mono ?_; rintro e w2 ⟨rfl, rfl⟩; rw [NT.out]))
        go_ret
        exact ⟨by rw [HE.out]; rfl, (by refine Chg.isExt (F := []) ?_ (refl_ext _) (by simp); repeat (with_reducible (first | exact Chg.refl _ _ | exact Nat.le_refl _ | exact Chg.ofExt (by assumption) | refine Chg.trans0 ?_ (by assumption) | refine Chg.extS ?_ _ | refine Chg.alloc ?_ _ | refine Chg.drew ?_ | refine Chg.setCellE ?_ ?_ _ | refine le_addk ?_ _ | refine le_ext ?_ | refine le_alloc ?_ _ | refine le_setC ?_ _ _ | refine le_drew ?_ | assumption | (refine Nat.le_of_lt ?_; omega) | omega)))⟩
      | true =>
        have Hr : Hid (∀ j, j < ats.length → -1 ≤ ps.getD j 0 ∧ ps.getD j 0 ≤ (ats.length : Int) - 1) := Lib.hid fun j hj => by
          have := treeB_rng NT.out (j := j) (by rw [HPL.out]; exact hj)
          rw [HPL.out] at this
          exact this
        go_wp2_with (first
          | (go_at_call 28; refine (IsValidQuery_any (d := ((m : Int), ats, out)) HB.out (VD.toExt HV.out (by refine Chg.isExt (F := []) ?_ (refl_ext _) (by simp); repeat (with_reducible (first | exact Chg.refl _ _ | exact Nat.le_refl _ | exact Chg.ofExt (by assumption) | refine Chg.trans0 ?_ (by assumption) | refine Chg.extS ?_ _ | refine Chg.alloc ?_ _ | refine Chg.drew ?_ | refine Chg.setCellE ?_ ?_ _ | refine le_addk ?_ _ | refine le_ext ?_ | refine le_alloc ?_ _ | refine le_setC ?_ _ _ | refine le_drew ?_ | assumption | (refine Nat.le_of_lt ?_; omega) | omega))))).mono ?_; rintro e w1 ⟨rfl, hx1⟩; rw [N1.out]; have P1 := PW.toExt hx1; have Q1 := QW.toExt hx1; obtain ⟨l1, a1, a1', a1'', f2⟩ := box3 P1; obtain ⟨l2, a2, f3⟩ := box1 Q1)
          | (go_at_call 79; refine (isTree_any hx (h1.toExt (by refine Chg.isExt (F := []) ?_ (refl_ext _) (by simp); repeat (with_reducible (first | exact Chg.refl _ _ | exact Nat.le_refl _ | exact Chg.ofExt (by assumption) | refine Chg.trans0 ?_ (by assumption) | refine Chg.extS ?_ _ | refine Chg.alloc ?_ _ | refine Chg.drew ?_ | refine Chg.setCellE ?_ ?_ _ | refine le_addk ?_ _ | refine le_ext ?_ | refine le_alloc ?_ _ | refine le_setC ?_ _ _ | refine le_drew ?_ | assumption | (refine Nat.le_of_lt ?_; omega) | omega))))).mono ?_; rintro e w2 ⟨rfl, rfl⟩; rw [NT.out]))
        have hxw : ∃ y, w1 = ext w y := trans_ext xW hx1
        go_loopw [5, 30] (fun v i wr => ∃ (k : Nat) (F : List Nat), i = .int .i64 k ∧ k ≤ ats.length ∧ SV 22 1 (sW w1) wr v ((ats.take k).map (·.2)) F ∧ (∀ b ∈ F, w1.heap.size ≤ b) ∧ ∃ y, wr = ext w1 y) (fun _ i _ => ats.length - (intOf i).toNat)
        case atStart => exact ⟨0, [], rfl, by omega, SV.nil, by simp, refl_ext _⟩
        case round =>
          obtain ⟨k, F, rfl, hk, hS, hF, hy⟩ := hrel
          have HF := Lib.hid hF
          clear hF
          by_cases hlt : k < ats.length
          · obtain ⟨b, o, A', c', rfl, hb, hc, hd, hv⟩ := (ra.toExt hxw).atA hlt
            have HS := Lib.hid (show ((ats.take k).map (·.2)) ++ [ats[k].2] = (ats.take (k + 1)).map (·.2) by rw [List.take_succ_eq_append_getElem hlt, List.map_append]; rfl)
            have hlk : ((ats.take k).map (·.2)).length + 1 ≤ 2000000000 := by simp; omega
            obtain ⟨s, hs⟩ : ∃ s, ats[k].1 = s := ⟨_, rfl⟩
            obtain ⟨xs, hxs⟩ : ∃ xs, ats[k].2 = xs := ⟨_, rfl⟩
            rw [hs] at hc
            rw [hxs] at hd hv
            have HS : Hid (((ats.take k).map (·.2)) ++ [xs] = (ats.take (k + 1)).map (·.2)) := Lib.hid (by rw [← hxs]; exact HS.out)
            have hc' := cellX hy hb hc
            have hd' := cellX hy hb hd
            have hb' := ltX hy hb
            clear hs hxs hc hd
            go_wp2_with (at_builtin; refine wpList_app1 (E := sW w1) (d := xs) rfl _ _ _ rfl tIIr rfl rfl rfl (by simp) (fun _ => ⟨⟨A', c', rfl, hv⟩, rfl⟩) rfl (by simp [Value.oneCell']) (hS.toExt (by refine Chg.isExt (F := []) ?_ (refl_ext _) (by simp); repeat (with_reducible (first | exact Chg.refl _ _ | exact Nat.le_refl _ | exact Chg.ofExt (by assumption) | refine Chg.trans0 ?_ (by assumption) | refine Chg.extS ?_ _ | refine Chg.alloc ?_ _ | refine Chg.drew ?_ | refine Chg.setCellE ?_ ?_ _ | refine le_addk ?_ _ | refine le_ext ?_ | refine le_alloc ?_ _ | refine le_setC ?_ _ _ | refine le_drew ?_ | assumption | (refine Nat.le_of_lt ?_; omega) | omega)))) hlk (by omega) ?_; intro v' w' F' hS' hC' hF')
            exact ⟨⟨k + 1, F', by go_num, by omega, by rw [← HS.out]; exact hS', newer HF.out (size_of_ext (by refine Chg.isExt (F := []) ?_ (refl_ext _) (by simp); repeat (with_reducible (first | exact Chg.refl _ _ | exact Nat.le_refl _ | exact Chg.ofExt (by assumption) | refine Chg.trans0 ?_ (by assumption) | refine Chg.extS ?_ _ | refine Chg.alloc ?_ _ | refine Chg.drew ?_ | refine Chg.setCellE ?_ ?_ _ | refine le_addk ?_ _ | refine le_ext ?_ | refine le_alloc ?_ _ | refine le_setC ?_ _ _ | refine le_drew ?_ | assumption | (refine Nat.le_of_lt ?_; omega) | omega)))) hF', hC'.isExt (by refine Chg.isExt (F := []) ?_ (refl_ext _) (by simp); repeat (with_reducible (first | exact Chg.refl _ _ | exact Nat.le_refl _ | exact Chg.ofExt (by assumption) | refine Chg.trans0 ?_ (by assumption) | refine Chg.extS ?_ _ | refine Chg.alloc ?_ _ | refine Chg.drew ?_ | refine Chg.setCellE ?_ ?_ _ | refine le_addk ?_ _ | refine le_ext ?_ | refine le_alloc ?_ _ | refine le_setC ?_ _ _ | refine le_drew ?_ | assumption | (refine Nat.le_of_lt ?_; omega) | omega))) HF.out⟩, by simp [intOf]; omega⟩
          · rw [List.take_of_length_le (by omega)] at hS
            obtain ⟨A5, c5, rfl, _, _, hV⟩ := hS.view (V := vS0) (fun c d F h => VD.toExt h.1 hy)
            rw [List.length_map] at *
            go_wp2
            go_loopw [8] (fun i ws => ∃ v : Nat, i = .int .i64 v ∧ v ≤ m ∧ (∃ y, ws = ext wr y) ∧ Hid (allF (fun v => decide (tops ats ps v = 1)) (m - v) v = allF (fun v => decide (tops ats ps v = 1)) m 0)) (fun i _ => m - (intOf i).toNat)
            case atStart => exact ⟨0, rfl, by omega, refl_ext _, Lib.hid rfl⟩
            case round =>
              obtain ⟨v, rfl, hvm, hyv, Hv⟩ := hrel
              obtain ⟨l3, a3, a3', a3'', f4⟩ := box3 (P1.toExt (trans_ext hy hyv))
              obtain ⟨l4, a4, f5⟩ := box1 (Q1.toExt (trans_ext hy hyv))
              by_cases hvl : v < m
              · have e := Hv.out
                rw [allF_step hvl] at e
                obtain ⟨T, hT⟩ : ∃ T, tops ats ps v = T := ⟨_, rfl⟩
                rw [hT] at e
                obtain ⟨te, hte⟩ : ∃ t, decide (T = 1) = t := ⟨_, rfl⟩
                have q2 : (T != 1) = !te := by rw [← hte]; by_cases q : T = 1 <;> simp [q]
                rw [hte] at e
                have HT := Lib.hid hT
                have He := Lib.hid e
                clear e hT hte Hv
                cases te with
                | false =>
                  go_wp2_with (go_at_call 80; refine (topsOf_any g4 Hx.out HPL Hr.out (hV.toExt hyv) (h1.toExt (trans_ext hxw (trans_ext hy hyv)))).mono ?_; rintro e w2 ⟨rfl, hx2⟩; rw [HT.out])
                  go_ret
                  exact ⟨by rw [HE.out, ← He.out]; rfl, trans_ext hxw (trans_ext hy (trans_ext hyv hx2))⟩
                | true =>
                  go_wp2_with (go_at_call 80; refine (topsOf_any g4 Hx.out HPL Hr.out (hV.toExt hyv) (h1.toExt (trans_ext hxw (trans_ext hy hyv)))).mono ?_; rintro e w2 ⟨rfl, hx2⟩; rw [HT.out])
                  exact ⟨⟨v + 1, by go_num, by omega, trans_ext hyv hx2, Lib.hid (by simpa using He.out)⟩, by simp [intOf]; omega⟩
              · have e := Hv.out
                rw [allF_end hvl] at e
                have He := Lib.hid e
                clear e Hv
                go_wp2
                go_ret
                exact ⟨by rw [HE.out, ← He.out]; rfl, trans_ext hxw (trans_ext hy hyv)⟩
end Go.Proofs.Ytoffbconbgipjaa
