/- Contracts of functions that the statement reaches. -/
import Derived.Test.YtfigcfajkilhiaaGreatE20
import Derived.Test.YtfigcfajkilhiaaGreatE04
import Derived.Test.YtfigcfajkilhiaaGreatE16
import Derived.Test.YtfigcfajkilhiaaGreatE01
import Derived.Test.YtfigcfajkilhiaaGreatE19
import Derived.Test.YtfigcfajkilhiaaGreatRows
import Derived.Test.YtfigcfajkilhiaaGreatE02
import Derived.Test.YtfigcfajkilhiaaGreatE08
import Derived.Deep.RegionLaw
import Derived.Deep.DeepCutAuto
import Derived.Deep.CutBlock
import Derived.RegionTactic
import Derived.Deep.DrawnRows
import Derived.Test.YtfigcfajkilhiaaGreatE14
import Derived.Test.YtfigcfajkilhiaaGreatE03
namespace Go.Proofs.YtfigcfajkilhiaaGreat
open Go.RowKit
def ivjB (d : Qd) (ps : List Int) : Bool := vqB d && jtB d.1.toNat d.2.1 ps
theorem vof_len {ats : List At} (h : ∀ x ∈ ats, x.2.length ≤ 100000000) (j : Nat) : (vof ats j).length ≤ 100000000 := by
  by_cases hj : j < ats.length
  · rw [← vof_get hj]; exact h _ (List.getElem_mem hj)
  · unfold vof
    rw [List.getD_eq_getElem?_getD, List.getElem?_eq_none (by omega)]
    simp
theorem treeB_rng {ps : List Int} (h : treeB ps = true) {j : Nat} (hj : j < ps.length) : -1 ≤ ps.getD j 0 ∧ ps.getD j 0 ≤ (ps.length : Int) - 1 := by
  unfold treeB at h
  rw [Bool.and_eq_true, allF_iff] at h
  have := h.1 j (by omega) (by omega)
  unfold upB at this
  rw [Bool.and_eq_true] at this
  exact inB_t this.1
def sW (W : World) : SE (List Int) := fun _ c ds F => vS0 W c ds ∧ F = []
instance (W : World) : SMono (sW W) := ⟨fun h b hb => by rw [h.2] at hb; simp at hb, fun h _ => h⟩
instance (W : World) : SPlain (sW W) := ⟨fun h => h.2⟩
set_option maxRecDepth 100000 in
set_option maxHeartbeats 8000000 in
theorem IsValidJoinTree_any {A B C : Option Addr} {c e1 f1 : Nat} {d : Qd} {ps : List Int} {w : World} (hb : BQ d) (h : vQ w [.int .i64 d.1, .slice A d.2.1.length c, .slice B d.2.2.length e1] d) (hx : ps.length ≤ 100000000) (h1 : RI w C ps) :
    Calls Tryz.prog 77 #[.agg #[.int .i64 d.1, .slice A d.2.1.length c, .slice B d.2.2.length e1], .agg #[.slice C ps.length f1]] w fun e w' => e = .returned (.bool (ivjB d ps)) ∧ ∃ y, w' = ext w y := by
  have HB := Lib.hid hb
  have HV := Lib.hid h
  obtain ⟨r1, r2, _⟩ := vQ_get h
  have ra := (vAts_get r1).2
  clear r1 r2
  obtain ⟨z, ats, out⟩ := d
  dsimp only at ra ⊢
  clear h hb
  obtain ⟨t1, ht1⟩ : ∃ t, vqB (z, ats, out) = t := ⟨_, rfl⟩
  have N1 := Lib.hid ht1
  cases t1 with
  | false =>
    have HE := Lib.hid (show ivjB (z, ats, out) ps = false by unfold ivjB; rw [ht1]; rfl)
    clear ht1
    go_enter Tryz.func77, Tryz.ntmps77
    go_wp2_with (go_at_call 102; refine (IsValidQuery_any (d := (z, ats, out)) HB.out (VD.toExt HV.out (by refine x'z ?_; repeat (with_reducible (first | exact x'a _ _ | exact x'b _ | exact x'c (by assumption) | refine x'd ?_ (by assumption) | refine x'e ?_ _ | refine x'f ?_ _ | refine x'g ?_ | refine x'h ?_ ?_ _ | refine x'i ?_ _ | refine x'j ?_ | refine x'k ?_ _ | refine x'l ?_ _ _ | refine x'm ?_ | assumption | (refine x'n ?_; omega) | omega))))).mono ?_; rintro e w1 ⟨rfl, hx1⟩; rw [N1.out])
    go_ret
    exact ⟨by rw [HE.out]; rfl, (by refine x'z ?_; repeat (with_reducible (first | exact x'a _ _ | exact x'b _ | exact x'c (by assumption) | refine x'd ?_ (by assumption) | refine x'e ?_ _ | refine x'f ?_ _ | refine x'g ?_ | refine x'h ?_ ?_ _ | refine x'i ?_ _ | refine x'j ?_ | refine x'k ?_ _ | refine x'l ?_ _ _ | refine x'm ?_ | assumption | (refine x'n ?_; omega) | omega)))⟩
  | true =>
    obtain ⟨g1, _, g3⟩ := vqB_facts ht1
    dsimp only at g1 g3
    have Hxx : Hid (∀ x ∈ ats, x.2.length ≤ 100000000) := Lib.hid fun x hx => by have := (g3 x hx).2; omega
    have Hx := Lib.hid (vof_len Hxx.out)
    have g4 : ats.length ≤ 1000 := by omega
    obtain ⟨g5, g6, g7⟩ := vqB_vars ht1
    dsimp only at g5 g6 g7
    obtain ⟨m, rfl⟩ : ∃ m : Nat, z = m := ⟨z.toNat, by omega⟩
    have g8 : m ≤ 1000 := by omega
    have g9 : 1 ≤ ats.length := by
      have h9 := N1.out
      unfold vqB at h9
      simp only [Bool.and_eq_true] at h9
      have := inB_t h9.1.1.1.2
      omega
    clear ht1 g3 g5 g6 g7
    obtain ⟨tl, htl⟩ : ∃ t, decide (ps.length = ats.length) = t := ⟨_, rfl⟩
    have NL := Lib.hid htl
    have ql : ((ps.length : Int) != (ats.length : Int)) = !tl := by rw [← htl]; by_cases q : ps.length = ats.length <;> simp [q]; omega
    obtain ⟨tt, htt⟩ : ∃ t, treeB ps = t := ⟨_, rfl⟩
    have NT := Lib.hid htt
    have HE := Lib.hid (show ivjB ((m : Int), ats, out) ps = (tl && tt && allF (fun v => decide (tops ats ps v = 1)) m 0) by unfold ivjB jtB; rw [N1.out, htl, htt]; simp)
    clear htl htt
    go_enter Tryz.func77, Tryz.ntmps77
    go_upto_region 1 with fail
    refine wp_name ?_
    intro W hW
    have xW : ∃ y, W = ext w y := by rw [hW.out]; exact (by refine x'z ?_; repeat (with_reducible (first | exact x'a _ _ | exact x'b _ | exact x'c (by assumption) | refine x'd ?_ (by assumption) | refine x'e ?_ _ | refine x'f ?_ _ | refine x'g ?_ | refine x'h ?_ ?_ _ | refine x'i ?_ _ | refine x'j ?_ | refine x'k ?_ _ | refine x'l ?_ _ _ | refine x'm ?_ | assumption | (refine x'n ?_; omega) | omega)))
    have BW0 : BoxAt W (w.heap.size) #[.int .i64 m, .slice A ats.length c, .slice B out.length e1] := by rw [hW.out]; refine ⟨?_, fun j => ?_, fun j => ?_⟩ <;> go_simp
    obtain ⟨lW0, bW0, fW0⟩ := BW0
    have cW0_0 : W.cell? ⟨w.heap.size, 0, none⟩ = some (.int .i64 m) := bW0 0
    have cW0_1 : W.cell? ⟨w.heap.size, 1, none⟩ = some (.slice A ats.length c) := bW0 1
    have cW0_2 : W.cell? ⟨w.heap.size, 2, none⟩ = some (.slice B out.length e1) := bW0 2
    have BW1 : BoxAt W (w.heap.size + 1) #[.slice C ps.length f1] := by rw [hW.out]; refine ⟨?_, fun j => ?_, fun j => ?_⟩ <;> go_simp
    obtain ⟨lW1, bW1, fW1⟩ := BW1
    have cW1_0 : W.cell? ⟨w.heap.size + 1, 0, none⟩ = some (.slice C ps.length f1) := bW1 0
    clear hW
    have PW : BoxAt W w.heap.size #[.int .i64 m, .slice A ats.length c, .slice B out.length e1] := ⟨lW0, bW0, fW0⟩
    have QW : BoxAt W (w.heap.size + 1) #[.slice C ps.length f1] := ⟨lW1, bW1, fW1⟩
    clear bW0 fW0 bW1 fW1
    cases tl with
    | false =>
      go_wp2_with (go_at_call 102; refine (IsValidQuery_any (d := ((m : Int), ats, out)) HB.out (VD.toExt HV.out (by refine x'z ?_; repeat (with_reducible (first | exact x'a _ _ | exact x'b _ | exact x'c (by assumption) | refine x'd ?_ (by assumption) | refine x'e ?_ _ | refine x'f ?_ _ | refine x'g ?_ | refine x'h ?_ ?_ _ | refine x'i ?_ _ | refine x'j ?_ | refine x'k ?_ _ | refine x'l ?_ _ _ | refine x'm ?_ | assumption | (refine x'n ?_; omega) | omega))))).mono ?_; rintro e w1 ⟨rfl, hx1⟩; rw [N1.out]; obtain ⟨l1, a1, a1', a1'', f2⟩ := box3 (PW.toExt hx1); obtain ⟨l2, a2, f3⟩ := box1 (QW.toExt hx1))
      go_ret
      exact ⟨by rw [HE.out]; rfl, (by refine x'z ?_; repeat (with_reducible (first | exact x'a _ _ | exact x'b _ | exact x'c (by assumption) | refine x'd ?_ (by assumption) | refine x'e ?_ _ | refine x'f ?_ _ | refine x'g ?_ | refine x'h ?_ ?_ _ | refine x'i ?_ _ | refine x'j ?_ | refine x'k ?_ _ | refine x'l ?_ _ _ | refine x'm ?_ | assumption | (refine x'n ?_; omega) | omega)))⟩
    | true =>
      have HPL : Hid (ps.length = ats.length) := Lib.hid (by simpa using NL.out)
      cases tt with
      | false =>
        go_wp2_with (first
          | (go_at_call 102; refine (IsValidQuery_any (d := ((m : Int), ats, out)) HB.out (VD.toExt HV.out (by refine x'z ?_; repeat (with_reducible (first | exact x'a _ _ | exact x'b _ | exact x'c (by assumption) | refine x'd ?_ (by assumption) | refine x'e ?_ _ | refine x'f ?_ _ | refine x'g ?_ | refine x'h ?_ ?_ _ | refine x'i ?_ _ | refine x'j ?_ | refine x'k ?_ _ | refine x'l ?_ _ _ | refine x'm ?_ | assumption | (refine x'n ?_; omega) | omega))))).mono ?_; rintro e w1 ⟨rfl, hx1⟩; rw [N1.out]; obtain ⟨l1, a1, a1', a1'', f2⟩ := box3 (PW.toExt hx1); obtain ⟨l2, a2, f3⟩ := box1 (QW.toExt hx1))
          | (go_at_call 105; refine (isTree_any hx (h1.toExt (by refine x'z ?_; repeat (with_reducible (first | exact x'a _ _ | exact x'b _ | exact x'c (by assumption) | refine x'd ?_ (by assumption) | refine x'e ?_ _ | refine x'f ?_ _ | refine x'g ?_ | refine x'h ?_ ?_ _ | refine x'i ?_ _ | refine x'j ?_ | refine x'k ?_ _ | refine x'l ?_ _ _ | refine x'm ?_ | assumption | (refine x'n ?_; omega) | omega))))).mono ?_; rintro e w2 ⟨rfl, rfl⟩; rw [NT.out]))
        go_ret
        exact ⟨by rw [HE.out]; rfl, (by refine x'z ?_; repeat (with_reducible (first | exact x'a _ _ | exact x'b _ | exact x'c (by assumption) | refine x'd ?_ (by assumption) | refine x'e ?_ _ | refine x'f ?_ _ | refine x'g ?_ | refine x'h ?_ ?_ _ | refine x'i ?_ _ | refine x'j ?_ | refine x'k ?_ _ | refine x'l ?_ _ _ | refine x'm ?_ | assumption | (refine x'n ?_; omega) | omega)))⟩
      | true =>
        have Hr : Hid (∀ j, j < ats.length → -1 ≤ ps.getD j 0 ∧ ps.getD j 0 ≤ (ats.length : Int) - 1) := Lib.hid fun j hj => by
          have := treeB_rng NT.out (j := j) (by rw [HPL.out]; exact hj)
          rw [HPL.out] at this
          exact this
        go_wp2_with (first
          | (go_at_call 102; refine (IsValidQuery_any (d := ((m : Int), ats, out)) HB.out (VD.toExt HV.out (by refine x'z ?_; repeat (with_reducible (first | exact x'a _ _ | exact x'b _ | exact x'c (by assumption) | refine x'd ?_ (by assumption) | refine x'e ?_ _ | refine x'f ?_ _ | refine x'g ?_ | refine x'h ?_ ?_ _ | refine x'i ?_ _ | refine x'j ?_ | refine x'k ?_ _ | refine x'l ?_ _ _ | refine x'm ?_ | assumption | (refine x'n ?_; omega) | omega))))).mono ?_; rintro e w1 ⟨rfl, hx1⟩; rw [N1.out]; have P1 := PW.toExt hx1; have Q1 := QW.toExt hx1; obtain ⟨l1, a1, a1', a1'', f2⟩ := box3 P1; obtain ⟨l2, a2, f3⟩ := box1 Q1)
          | (go_at_call 105; refine (isTree_any hx (h1.toExt (by refine x'z ?_; repeat (with_reducible (first | exact x'a _ _ | exact x'b _ | exact x'c (by assumption) | refine x'd ?_ (by assumption) | refine x'e ?_ _ | refine x'f ?_ _ | refine x'g ?_ | refine x'h ?_ ?_ _ | refine x'i ?_ _ | refine x'j ?_ | refine x'k ?_ _ | refine x'l ?_ _ _ | refine x'm ?_ | assumption | (refine x'n ?_; omega) | omega))))).mono ?_; rintro e w2 ⟨rfl, rfl⟩; rw [NT.out]))
        have hxw : ∃ y, w1 = ext w y := trans_ext xW hx1
        go_loopw [5, 30] (fun v i wr => ∃ (k : Nat) (F : List Nat), i = .int .i64 k ∧ k ≤ ats.length ∧ SV 26 1 (sW w1) wr v ((ats.take k).map (·.2)) F ∧ (∀ b ∈ F, w1.heap.size ≤ b) ∧ ∃ y, wr = ext w1 y) (fun _ i _ => ats.length - (intOf i).toNat)
        case atStart => exact ⟨0, [], rfl, by omega, SV.nil, by simp, refl_ext _⟩
        case round =>
          obtain ⟨k, F, rfl, hk, hS, hF, hy⟩ := hrel
          have HF := Lib.hid hF
          clear hF
          by_cases hlt : k < ats.length
          · obtain ⟨b, o, A', c', rfl, hb, hc, hd, hv⟩ := (ra.toExt hxw).atA hlt
            have HS := Lib.hid (show ((ats.take k).map (·.2)) ++ [ats[k].2] = (ats.take (k + 1)).map (·.2) by rw [List.take_succ_eq_append_getElem hlt, List.map_append]; rfl)
            have hlk : ((ats.take k).map (·.2)).length + 1 ≤ 2000000000 := by simp; omega
            obtain ⟨s, hs⟩ : ∃ s, ats[k].1 = s := ⟨_, rfl⟩
            obtain ⟨xs, hxs⟩ : ∃ xs, ats[k].2 = xs := ⟨_, rfl⟩
            rw [hs] at hc
            rw [hxs] at hd hv
            have HS : Hid (((ats.take k).map (·.2)) ++ [xs] = (ats.take (k + 1)).map (·.2)) := Lib.hid (by rw [← hxs]; exact HS.out)
            have hc' := cellX hy hb hc
            have hd' := cellX hy hb hd
            have hb' := ltX hy hb
            clear hs hxs hc hd
            go_wp2_with (at_builtin; refine wpList_app1 (E := sW w1) (d := xs) rfl _ _ _ rfl tIIr rfl rfl rfl (by simp) (fun _ => ⟨⟨A', c', rfl, hv⟩, rfl⟩) rfl (by simp [Value.oneCell']) (hS.toExt (by refine x'z ?_; repeat (with_reducible (first | exact x'a _ _ | exact x'b _ | exact x'c (by assumption) | refine x'd ?_ (by assumption) | refine x'e ?_ _ | refine x'f ?_ _ | refine x'g ?_ | refine x'h ?_ ?_ _ | refine x'i ?_ _ | refine x'j ?_ | refine x'k ?_ _ | refine x'l ?_ _ _ | refine x'm ?_ | assumption | (refine x'n ?_; omega) | omega)))) hlk (by omega) ?_; intro v' w' F' hS' hC' hF')
            exact ⟨⟨k + 1, F', by go_num, by omega, by rw [← HS.out]; exact hS', newer HF.out (size_of_ext (by refine x'z ?_; repeat (with_reducible (first | exact x'a _ _ | exact x'b _ | exact x'c (by assumption) | refine x'd ?_ (by assumption) | refine x'e ?_ _ | refine x'f ?_ _ | refine x'g ?_ | refine x'h ?_ ?_ _ | refine x'i ?_ _ | refine x'j ?_ | refine x'k ?_ _ | refine x'l ?_ _ _ | refine x'm ?_ | assumption | (refine x'n ?_; omega) | omega)))) hF', hC'.isExt (by refine x'z ?_; repeat (with_reducible (first | exact x'a _ _ | exact x'b _ | exact x'c (by assumption) | refine x'd ?_ (by assumption) | refine x'e ?_ _ | refine x'f ?_ _ | refine x'g ?_ | refine x'h ?_ ?_ _ | refine x'i ?_ _ | refine x'j ?_ | refine x'k ?_ _ | refine x'l ?_ _ _ | refine x'm ?_ | assumption | (refine x'n ?_; omega) | omega))) HF.out⟩, by simp [intOf]; omega⟩
          · rw [List.take_of_length_le (by omega)] at hS
            obtain ⟨A5, c5, rfl, _, _, hV⟩ := hS.view (V := vS0) (fun c d F h => VD.toExt h.1 hy)
            rw [List.length_map] at *
            go_wp2
            go_loopw [8] (fun i ws => ∃ v : Nat, i = .int .i64 v ∧ v ≤ m ∧ (∃ y, ws = ext wr y) ∧ Hid (allF (fun v => decide (tops ats ps v = 1)) (m - v) v = allF (fun v => decide (tops ats ps v = 1)) m 0)) (fun i _ => m - (intOf i).toNat)
            case atStart => exact ⟨0, rfl, by omega, refl_ext _, Lib.hid rfl⟩
            case round =>
              obtain ⟨v, rfl, hvm, hyv, Hv⟩ := hrel
              obtain ⟨l3, a3, a3', a3'', f4⟩ := box3 (P1.toExt (trans_ext hy hyv))
              obtain ⟨l4, a4, f5⟩ := box1 (Q1.toExt (trans_ext hy hyv))
              by_cases hvl : v < m
              · have e := Hv.out
                rw [allF_step hvl] at e
                obtain ⟨T, hT⟩ : ∃ T, tops ats ps v = T := ⟨_, rfl⟩
                rw [hT] at e
                obtain ⟨te, hte⟩ : ∃ t, decide (T = 1) = t := ⟨_, rfl⟩
                have q2 : (T != 1) = !te := by rw [← hte]; by_cases q : T = 1 <;> simp [q]
                rw [hte] at e
                have HT := Lib.hid hT
                have He := Lib.hid e
                clear e hT hte Hv
                cases te with
                | false =>
                  go_wp2_with (go_at_call 106; refine (topsOf_any g4 Hx.out HPL Hr.out (hV.toExt hyv) (h1.toExt (trans_ext hxw (trans_ext hy hyv)))).mono ?_; rintro e w2 ⟨rfl, hx2⟩; rw [HT.out])
                  go_ret
                  exact ⟨by rw [HE.out, ← He.out]; rfl, trans_ext hxw (trans_ext hy (trans_ext hyv hx2))⟩
                | true =>
                  go_wp2_with (go_at_call 106; refine (topsOf_any g4 Hx.out HPL Hr.out (hV.toExt hyv) (h1.toExt (trans_ext hxw (trans_ext hy hyv)))).mono ?_; rintro e w2 ⟨rfl, hx2⟩; rw [HT.out])
                  exact ⟨⟨v + 1, by go_num, by omega, trans_ext hyv hx2, Lib.hid (by simpa using He.out)⟩, by simp [intOf]; omega⟩
              · have e := Hv.out
                rw [allF_end hvl] at e
                have He := Lib.hid e
                clear e Hv
                go_wp2
                go_ret
                exact ⟨by rw [HE.out, ← He.out]; rfl, trans_ext hxw (trans_ext hy hyv)⟩
end Go.Proofs.YtfigcfajkilhiaaGreat
namespace Go.Proofs.YtfigcfajkilhiaaGreat
open Go.RowKit
set_option maxRecDepth 100000 in
set_option maxHeartbeats 8000000 in
theorem treeFits_any {A B C D : Option Addr} {c e g f1 : Nat} {d : Dbd} {q : Qd} {ps : List Int} {w : World} (hd : WDb d) (h1 : RV 3 vTb w A d) (hb : BQ q) (h2 : vQ w [.int .i64 q.1, .slice B q.2.1.length e, .slice C q.2.2.length g] q) (hp : ps.length ≤ 100000000) (h3 : RI w D ps) :
    Calls Tryz.prog 39 #[.agg #[.slice A d.length c], .agg #[.int .i64 q.1, .slice B q.2.1.length e, .slice C q.2.2.length g], .agg #[.slice D ps.length f1]] w fun e w' => e = .returned (.bool (iqfB d q && ivjB q ps)) ∧ ∃ y, w' = ext w y := by
  have HD := Lib.hid hd
  have HB := Lib.hid hb
  have HV := Lib.hid h2
  obtain ⟨t1, ht1⟩ : ∃ t, iqfB d q = t := ⟨_, rfl⟩
  have HT1 := Lib.hid ht1
  obtain ⟨t2, ht2⟩ : ∃ t, ivjB q ps = t := ⟨_, rfl⟩
  have HT2 := Lib.hid ht2
  have HE := Lib.hid (show (iqfB d q && ivjB q ps) = (t1 && t2) by rw [ht1, ht2])
  clear ht1 ht2 hd hb h2
  go_enter Tryz.func39, Tryz.ntmps39
  go_upto_region 1 with fail
  refine wp_name ?_
  intro W hW
  have xW : ∃ y, W = ext w y := by rw [hW.out]; exact (by refine x'z ?_; repeat (with_reducible (first | exact x'a _ _ | exact x'b _ | exact x'c (by assumption) | refine x'd ?_ (by assumption) | refine x'e ?_ _ | refine x'f ?_ _ | refine x'g ?_ | refine x'h ?_ ?_ _ | refine x'i ?_ _ | refine x'j ?_ | refine x'k ?_ _ | refine x'l ?_ _ _ | refine x'm ?_ | assumption | (refine x'n ?_; omega) | omega)))
  have PW : BoxAt W w.heap.size #[.slice A d.length c] := by rw [hW.out]; refine ⟨?_, fun j => ?_, fun j => ?_⟩ <;> go_simp
  have QW : BoxAt W (w.heap.size + 1) #[.int .i64 q.1, .slice B q.2.1.length e, .slice C q.2.2.length g] := by rw [hW.out]; refine ⟨?_, fun j => ?_, fun j => ?_⟩ <;> go_simp
  have TW : BoxAt W (w.heap.size + 1 + 1) #[.slice D ps.length f1] := by rw [hW.out]; refine ⟨?_, fun j => ?_, fun j => ?_⟩ <;> go_simp
  obtain ⟨lp, p0, fp⟩ := bx1 PW
  obtain ⟨lq, q0, q1, q2, fq⟩ := box3 QW
  obtain ⟨lt, r0, ft⟩ := bx1 TW
  clear hW
  cases t1 <;> cases t2
  all_goals
    go_wp2_with (first
      | (go_at_call 76; refine (IsQueryFor_any HD.out (h1.toExt xW) HB.out (VD.toExt HV.out xW)).mono ?_; rintro e w1 ⟨rfl, hx1⟩; rw [HT1.out]; obtain ⟨lq1, q10, q11, q12, fq1⟩ := box3 (QW.toExt hx1); obtain ⟨lt1, r10, ft1⟩ := bx1 (TW.toExt hx1))
      | (go_at_call 77; refine (IsValidJoinTree_any HB.out (VD.toExt HV.out (trans_ext xW hx1)) hp (h3.toExt (trans_ext xW hx1))).mono ?_; rintro e w2 ⟨rfl, hx2⟩; rw [HT2.out]))
    go_ret
    first
      | exact ⟨by rw [HE.out]; rfl, trans_ext xW (trans_ext hx1 hx2)⟩
      | exact ⟨by rw [HE.out]; rfl, trans_ext xW hx1⟩
end Go.Proofs.YtfigcfajkilhiaaGreat
namespace Go.Proofs.YtfigcfajkilhiaaGreat
open Go.RowKit
theorem bfsF_len {ps L : List Int} : ∀ (f k : Nat) (out : List Int), bfsF ps f k out = L → L ≠ [] → out.length ≤ L.length
  | 0, _, _, h, hn => absurd (by rw [← h]; rfl) hn
  | f + 1, k, out, h, hn => by
    rw [bfsF] at h
    split at h
    · have := bfsF_len f _ _ h hn
      rw [List.length_append] at this
      omega
    · rw [h]; exact Nat.le_refl _
def rvL (L : List Int) (i : Nat) : List Int := (List.range L.length).map fun p => if p < i ∨ L.length - i ≤ p then L.getD (L.length - 1 - p) 0 else L.getD p 0
theorem rvL_len (L : List Int) (i : Nat) : (rvL L i).length = L.length := by simp [rvL]
theorem rvL_get {L : List Int} {i p : Nat} (h : p < L.length) : (rvL L i).getD p 0 = if p < i ∨ L.length - i ≤ p then L.getD (L.length - 1 - p) 0 else L.getD p 0 := by
  have hl : p < (rvL L i).length := by rw [rvL_len]; exact h
  rw [getDl _ _ hl]
  simp [rvL]
theorem ext_getD {a b : List Int} (hl : a.length = b.length) (h : ∀ p, p < a.length → a.getD p 0 = b.getD p 0) : a = b := by
  apply List.ext_getElem hl
  intro p h1 h2
  have := h p h1
  rwa [getDl _ _ h1, getDl _ _ h2] at this
theorem rvL_zero (L : List Int) : rvL L 0 = L := by
  refine ext_getD (rvL_len L 0) fun p hp => ?_
  rw [rvL_len] at hp
  rw [rvL_get hp, if_neg (by omega)]
theorem rvL_end {L : List Int} {i : Nat} (h : L.length ≤ 2 * i + 1) : rvL L i = L.reverse := by
  refine ext_getD (by rw [rvL_len, List.length_reverse]) fun p hp => ?_
  rw [rvL_len] at hp
  rw [rvL_get hp]
  have hr : L.reverse.getD p 0 = L.getD (L.length - 1 - p) 0 := by
    rw [getDl _ _ (by rw [List.length_reverse]; exact hp), List.getElem_reverse, getDl _ _ (show L.length - 1 - p < L.length by omega)]
  rw [hr]
  split
  · rfl
  · rw [show L.length - 1 - p = p by omega]
theorem set_getD {a : List Int} {p j : Nat} {x : Int} : (a.set j x).getD p 0 = if p = j ∧ j < a.length then x else a.getD p 0 := by
  by_cases hp : p < a.length
  · rw [getDl _ _ (by rw [List.length_set]; exact hp), List.getElem_set]
    by_cases e : j = p
    · subst e; rw [if_pos rfl, if_pos ⟨rfl, hp⟩]
    · rw [if_neg e, if_neg (fun k => e k.1.symm), getDl _ _ hp]
  · have h1 : (a.set j x).getD p 0 = 0 := by rw [List.getD_eq_getElem?_getD, List.getElem?_eq_none (by rw [List.length_set]; omega)]; rfl
    have h2 : a.getD p 0 = 0 := by rw [List.getD_eq_getElem?_getD, List.getElem?_eq_none (by omega)]; rfl
    rw [h1, h2, if_neg (fun k => hp (by omega))]
theorem rvL_step {L : List Int} {i j : Nat} (hj : j = L.length - 1 - i) (h : i < j) : rvL L (i + 1) = ((rvL L i).set i ((rvL L i).getD j 0)).set j ((rvL L i).getD i 0) := by
  refine ext_getD (by rw [List.length_set, List.length_set, rvL_len, rvL_len]) fun p hp => ?_
  rw [rvL_len] at hp
  rw [rvL_get hp, set_getD, List.length_set, set_getD, rvL_len, rvL_get (show i < L.length by omega), rvL_get (show j < L.length by omega), rvL_get hp]
  rw [if_neg (show ¬ (i < i ∨ L.length - i ≤ i) by omega), if_neg (show ¬ (j < i ∨ L.length - i ≤ j) by omega)]
  by_cases h1 : p = j
  · subst h1
    rw [if_pos (show p < i + 1 ∨ L.length - (i + 1) ≤ p by omega), if_pos ⟨rfl, by omega⟩, show L.length - 1 - p = i by omega]
  · rw [if_neg (show ¬ (p = j ∧ j < L.length) from fun k => h1 k.1)]
    by_cases h2 : p = i
    · subst h2
      rw [if_pos (show p < p + 1 ∨ L.length - (p + 1) ≤ p by omega), if_pos ⟨rfl, by omega⟩, show L.length - 1 - p = j by omega]
    · rw [if_neg (show ¬ (p = i ∧ i < L.length) from fun k => h2 k.1)]
      by_cases h3 : p < i ∨ L.length - i ≤ p
      · rw [if_pos h3, if_pos (show p < i + 1 ∨ L.length - (i + 1) ≤ p by omega)]
      · rw [if_neg h3, if_neg (show ¬ (p < i + 1 ∨ L.length - (i + 1) ≤ p) by omega)]
end Go.Proofs.YtfigcfajkilhiaaGreat
namespace Go.Proofs.YtfigcfajkilhiaaGreat
open Go.RowKit
def Cur (w0 w : World) (g : Nat) : Prop := w0.heap.size ≤ g ∧ (∃ y, w = ext w0 y) ∧ ∃ (A : Option Addr) (c : Nat) (bs : List UInt8) (i : Nat) (h : Int), BoxAt w g #[.slice A bs.length c, .int .i64 i, .int .i64 h] ∧ RU w0 A bs ∧ bs.length ≤ 1048576 ∧ i ≤ bs.length
theorem Cur.toExt {w0 w w' : World} {g : Nat} (h : Cur w0 w g) (hx : ∃ y, w' = ext w y) : Cur w0 w' g := by
  obtain ⟨h1, h2, A, c, bs, i, h, hB, hR, hl, hi⟩ := h
  exact ⟨h1, trans_ext h2 hx, A, c, bs, i, h, hB.toExt hx, hR, hl, hi⟩
theorem Cur.chg {w0 w w' : World} {g : Nat} {F : List Nat} (h : Cur w0 w g) (hC : Chg F w w') (hg : g ∉ F) (hF : ∀ b ∈ F, w0.heap.size ≤ b) : Cur w0 w' g := by
  obtain ⟨h1, h2, A, c, bs, i, h, hB, hR, hl, hi⟩ := h
  exact ⟨h1, hC.isExt h2 hF, A, c, bs, i, h, hB.chg hC hg, hR, hl, hi⟩
theorem Cur.lt {w0 w : World} {g : Nat} (h : Cur w0 w g) : g < w.heap.size := by
  obtain ⟨_, _, A, c, bs, i, h, hB, _⟩ := h
  exact hB.1
end Go.Proofs.YtfigcfajkilhiaaGreat
namespace Go.Proofs.YtfigcfajkilhiaaGreat
open Go.RowKit
def FewR (r : Rd) : Prop := r.2.length ≤ 9 ∧ ((∀ row ∈ r.2, ∀ v ∈ row, 0 ≤ v ∧ v < 6) ∨ r.2.length ≤ 7)
def FewD (d : Dbd) : Prop := ∀ t ∈ d, FewR t.2
theorem atFit_look1 {d : Dbd} {a : At} (h : atFit d a = true) : lookD d a.1 = some (relOf d a) := by
  unfold atFit at h
  unfold relOf
  cases e : lookD d a.1 with
  | none => rw [e] at h; cases h
  | some r => rfl
theorem FewD.rel {d : Dbd} (h : FewD d) {a : At} (hf : atFit d a = true) : FewR (relOf d a) := by
  have e := atFit_look1 hf
  unfold lookD at e
  split at e
  · exact h _ (fndD_mem e)
  · cases e
def FewQ (q : Qd) : Prop := q.1 ≤ 4 ∨ ∃ a ∈ q.2.1, ∃ b ∈ q.2.1, a.2 = [0, 1] ∧ b.2 = [2, 3]
end Go.Proofs.YtfigcfajkilhiaaGreat
namespace Go.Proofs.YtfigcfajkilhiaaGreat
open Go.RowKit
def jl (c : UInt8) : List (List UInt8) → List UInt8
  | [] => []
  | [p] => p
  | p :: q :: ps => p ++ c :: jl c (q :: ps)
end Go.Proofs.YtfigcfajkilhiaaGreat
namespace Go.Proofs.YtfigcfajkilhiaaGreat
open Go.RowKit
def vix (b : UInt8) : Option Int := if b = 88 then some 0 else if b = 89 then some 1 else if b = 90 then some 2 else if b = 85 then some 3 else if b = 86 then some 4 else none
end Go.Proofs.YtfigcfajkilhiaaGreat
namespace Go.Proofs.YtfigcfajkilhiaaGreat
open Go.RowKit
theorem vq_n {n : Int} {ats : List At} {out : List Int} (h : vqB (n, ats, out) = true) : 1 ≤ n ∧ n ≤ 5 := by
  unfold vqB at h
  simp only [Bool.and_eq_true] at h
  exact inB_t h.1.1.1.1
end Go.Proofs.YtfigcfajkilhiaaGreat
namespace Go.Proofs.YtfigcfajkilhiaaGreat
open Go.RowKit
def vv (b : UInt8) (k : Nat) : Int := match vix b with
  | some j => if j < k then j else -1
  | none => -1
end Go.Proofs.YtfigcfajkilhiaaGreat
namespace Go.Proofs.YtfigcfajkilhiaaGreat
open Go.RowKit
section
variable {α : Type} {te size te2 : Nat} {E : SE α} [SMono E] {w : World} {ds : List (List α)} {F : List Nat} {g n cap k : Nat}
theorem SV.row (h : SV te 1 (sSl te2 size E) w (.slice (some ⟨g, 0, none⟩) n cap) ds F) (hN : F.Nodup) (hk : k < ds.length) : ∃ v Fk, g < w.heap.size ∧ w.cell? ⟨g, k, none⟩ = some v ∧ (∀ j, w.frozen? ⟨g, j, none⟩ = false) ∧ SV te2 size E w v ds[k] Fk ∧ (∀ b ∈ Fk, b ∈ F) ∧ Fk.Nodup ∧ g ∉ Fk ∧ g ∈ F ∧
    (∀ w' d', SV te2 size E w' v d' Fk → Chg Fk w w' → SV te 1 (sSl te2 size E) w' (.slice (some ⟨g, 0, none⟩) n cap) (ds.set k d') F) ∧
    (∀ w' v' d' F', Chg Fk w w' → SV te2 size E w' v' d' F' → F'.Nodup → (∀ b ∈ F', b ∈ Fk ∨ w.heap.size ≤ b) → ∃ F2, SV te 1 (sSl te2 size E) (w'.setCell ⟨g, k, none⟩ v') (.slice (some ⟨g, 0, none⟩) n cap) (ds.set k d') F2 ∧ F2.Nodup ∧ (∀ b ∈ F2, b ∈ F ∨ b ∈ F')) := by
  obtain ⟨_, _, e0, _, _⟩ := h.form
  injection e0 with _ e0 _
  subst e0
  obtain ⟨vs, F2, h1, h2, h3⟩ := h
  obtain ⟨c, vs1, vs2, G1, G2, Fk, e1, e2, e3, e4, e5, e6, e7⟩ := elems_upd (c' := []) (d' := ds[k]) (Fk := []) (w' := w) h2 hk
  have hfp : fpOf (.slice (some ⟨g, 0, none⟩) ds.length cap) = [g] := rfl
  rw [hfp] at h3
  subst h3 e4
  have hN' := hN
  rw [List.singleton_append, List.nodup_cons, List.nodup_append, List.nodup_append] at hN'
  obtain ⟨n1, n2, ⟨n3, n4, n5⟩, n6⟩ := hN'
  have hgk : g ∉ Fk := fun hm => n1 (by simp [hm])
  have hlt := (h1.lt g rfl).2
  have hlen := elems_length h2
  obtain ⟨v, hcv, hv⟩ := e5 hk
  subst hcv
  have hcell : w.cell? ⟨g, k, none⟩ = some v := by
    rw [h1.cellAt _ (by omega), e1, List.getElem?_append_right (by omega), e2]
    simp
  refine ⟨v, Fk, hlt, hcell, fun j => h1.frozenAt j, hv, fun b hb => by simp [hb], n3, hgk, by simp, fun w' d' hE hC => ?_, fun w' v' d' F' hC hE hNF hF' => ?_⟩
  · refine ⟨vs, G1 ++ (Fk ++ G2), ?_, ?_, by rw [hfp]⟩
    · rw [List.length_set]
      refine ownsRow_keepB h1 fun b hb => hC.block b ?_ ?_
      · rw [hfp] at hb; rw [List.mem_singleton.1 hb]; exact hlt
      · rw [hfp] at hb; rw [List.mem_singleton.1 hb]; exact hgk
    · rw [e1, set_split hk]
      refine elems_join (elems_keep e6 fun b hb => hC.block b (elems_lt e6 b hb) ?_) e3 ⟨v, rfl, hE⟩ (elems_keep e7 fun b hb => hC.block b (elems_lt e7 b hb) ?_)
      · exact fun hf => n6 b hb b (by simp [hf]) rfl
      · exact fun hf => n5 b hf b hb rfl
  · have hg1 : ∀ b, b ∈ G1 → b < w.heap.size := fun b hb => elems_lt e6 b hb
    have hg2 : ∀ b, b ∈ G2 → b < w.heap.size := fun b hb => elems_lt e7 b hb
    have hgF : g ∉ F' := fun hb => by
      rcases hF' g hb with h | h
      · exact hgk h
      · omega
    have hown : w'.ownsRow 0 te 1 (.slice (some ⟨g, 0, none⟩) ds.length cap) ds.length vs := ownsRow_keepB h1 fun b hb => hC.block b (by rw [hfp] at hb; rw [List.mem_singleton.1 hb]; exact hlt) (by rw [hfp] at hb; rw [List.mem_singleton.1 hb]; exact hgk)
    obtain ⟨h4, h5⟩ := hown.stored k v'
    have hC2 : Chg [g] w' (w'.setCell ⟨g, k, none⟩ v') := Chg.ofGrown h5 fun k hk => by simpa using hk.symm
    have a6 : elems 1 (sSl te2 size E) (w'.setCell ⟨g, k, none⟩ v') vs1 (ds.take k) G1 := elems_keep (elems_keep e6 fun b hb => hC.block b (hg1 b hb) (fun hf => n6 b hb b (by simp [hf]) rfl)) fun b hb => hC2.block b (Nat.lt_of_lt_of_le (hg1 b hb) hC.size) (fun hf => n1 (by rw [← List.mem_singleton.1 hf]; simp [hb]))
    have a7 : elems 1 (sSl te2 size E) (w'.setCell ⟨g, k, none⟩ v') vs2 (ds.drop (k + 1)) G2 := elems_keep (elems_keep e7 fun b hb => hC.block b (hg2 b hb) (fun hf => n5 b hf b hb rfl)) fun b hb => hC2.block b (Nat.lt_of_lt_of_le (hg2 b hb) hC.size) (fun hf => n1 (by rw [← List.mem_singleton.1 hf]; simp [hb]))
    have aE : SV te2 size E (w'.setCell ⟨g, k, none⟩ v') v' d' F' := hE.chg hC2 (fun b hb hf => hgF (by rw [← List.mem_singleton.1 hf]; exact hb))
    refine ⟨[g] ++ (G1 ++ (F' ++ G2)), ⟨vs.set k v', G1 ++ (F' ++ G2), by rw [List.length_set]; exact h4, ?_, rfl⟩, ?_, ?_⟩
    · have ev : vs.set k v' = vs1 ++ ([v'] ++ vs2) := by
        rw [e1, List.set_append_right _ _ (by omega), e2, show k - k * 1 = 0 by omega]
        simp
      rw [ev, set_split hk]
      exact elems_join a6 rfl ⟨v', rfl, aE⟩ a7
    · rw [List.singleton_append, List.nodup_cons, List.nodup_append, List.nodup_append]
      refine ⟨fun hm => ?_, n2, ⟨hNF, n4, fun a ha b hb e => ?_⟩, fun a ha b hb e => ?_⟩
      · rcases List.mem_append.1 hm with h | h
        · exact n1 (by simp [h])
        · rcases List.mem_append.1 h with h | h
          · exact hgF h
          · exact n1 (by simp [h])
      · subst e
        rcases hF' a ha with h | h
        · exact n5 a h a hb rfl
        · have := hg2 a hb; omega
      · subst e
        rcases List.mem_append.1 hb with h | h
        · rcases hF' a h with h | h
          · exact n6 a ha a (by simp [h]) rfl
          · have := hg1 a ha; omega
        · exact n6 a ha a (by simp [h]) rfl
    · intro b hb
      rcases List.mem_append.1 hb with h | h
      · exact .inl (by simp at h; simp [h])
      · rcases List.mem_append.1 h with h | h
        · exact .inl (by simp [h])
        · rcases List.mem_append.1 h with h | h
          · exact .inr h
          · exact .inl (by simp [h])
end
end Go.Proofs.YtfigcfajkilhiaaGreat
namespace Go.Proofs.YtfigcfajkilhiaaGreat
open Go.RowKit
theorem SV.lit {α : Type} {te : Nat} {E : SE α} {u : Value} {d : α} (w : World) (hE : ∀ w, E w [u] d []) : SV te 1 E (w.alloc (.cells #[u] te)) (.slice (some ⟨w.heap.size, 0, none⟩) 1 1) [d] [w.heap.size] :=
  ⟨[u], [], ⟨by simp, .inr ⟨w.heap.size, 1, #[u], rfl, Nat.zero_le _, heap_alloc_new w _, Nat.le_refl _, by simp [maxLen], by simp, by simp⟩⟩, elems_one rfl (hE _), rfl⟩
structure QrD (q : Qd) : Prop where
  v : vqB q = true
  f : FewQ q
theorem QrD.i {q : Qd} (h : QrD q) : 1 ≤ q.1 ∧ q.1 ≤ 5 := vq_n (n := q.1) (ats := q.2.1) (out := q.2.2) h.v
theorem QrD.n {q : Qd} (h : QrD q) : 1 ≤ q.2.1.length ∧ q.2.1.length ≤ 4 := by
  have h1 := h.v
  unfold vqB at h1
  simp only [Bool.and_eq_true] at h1
  have := inB_t h1.1.1.1.2
  omega
end Go.Proofs.YtfigcfajkilhiaaGreat
