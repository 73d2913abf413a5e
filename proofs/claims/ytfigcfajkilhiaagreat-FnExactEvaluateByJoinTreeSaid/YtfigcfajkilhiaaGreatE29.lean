/- Contracts of functions that the statement reaches. -/
import Derived.Test.YtfigcfajkilhiaaGreatE21
namespace Go.Proofs.YtfigcfajkilhiaaGreat
open Go.RowKit
theorem pth_pos {ps : List Int} {i : Nat} (h : i < ps.length) : 0 < (pth ps (ps.length + 1) i).length := by
  rw [pth, if_pos (by unfold inB; rw [decide_eq_true_eq]; omega)]
  simp
set_option maxRecDepth 100000 in
set_option maxHeartbeats 16000000 in
theorem specIsValidJoinTree_any {A B C : Option Addr} {c e1 f1 : Nat} {d : Qd} {ps : List Int} {w : World} (hb : BQ d) (h : vQ w [.int .i64 d.1, .slice A d.2.1.length c, .slice B d.2.2.length e1] d) (hx : ps.length ≤ 100000000) (h1 : RI w C ps) :
    Calls Tryz.prog 31 #[.agg #[.int .i64 d.1, .slice A d.2.1.length c, .slice B d.2.2.length e1], .agg #[.slice C ps.length f1]] w fun e w' => e = .returned (.bool (ivjB d ps)) ∧ ∃ y, w' = ext w y := by
  have HB := Lib.hid hb
  have HV := Lib.hid h
  obtain ⟨r1, r2, _⟩ := vQ_get h
  have ra := (vAts_get r1).2
  clear r1 r2
  obtain ⟨z, ats, out⟩ := d
  dsimp only at ra ⊢
  clear h hb
  obtain ⟨t1, ht1⟩ : ∃ t, vqB (z, ats, out) = t := ⟨_, rfl⟩
  have N1 := Lib.hid ht1
  cases t1 with
  | false =>
    have HE := Lib.hid (show ivjB (z, ats, out) ps = false by unfold ivjB; rw [ht1]; rfl)
    clear ht1
    go_enter Tryz.func31, Tryz.ntmps31
    go_wp2_with (go_at_call 63; refine (specIsValidQuery_any (d := (z, ats, out)) HB.out (VD.toExt HV.out (by refine x'z ?_; repeat (with_reducible (first | exact x'a _ _ | exact x'b _ | exact x'c (by assumption) | refine x'd ?_ (by assumption) | refine x'e ?_ _ | refine x'f ?_ _ | refine x'g ?_ | refine x'h ?_ ?_ _ | refine x'i ?_ _ | refine x'j ?_ | refine x'k ?_ _ | refine x'l ?_ _ _ | refine x'm ?_ | assumption | (refine x'n ?_; omega) | omega))))).mono ?_; rintro e w1 ⟨rfl, hx1⟩; rw [N1.out])
    go_ret
    exact ⟨by rw [HE.out]; rfl, (by refine x'z ?_; repeat (with_reducible (first | exact x'a _ _ | exact x'b _ | exact x'c (by assumption) | refine x'd ?_ (by assumption) | refine x'e ?_ _ | refine x'f ?_ _ | refine x'g ?_ | refine x'h ?_ ?_ _ | refine x'i ?_ _ | refine x'j ?_ | refine x'k ?_ _ | refine x'l ?_ _ _ | refine x'm ?_ | assumption | (refine x'n ?_; omega) | omega)))⟩
  | true =>
    obtain ⟨g1, _, g3⟩ := vqB_facts ht1
    dsimp only at g1 g3
    have Hxx : Hid (∀ x ∈ ats, x.2.length ≤ 100000000) := Lib.hid fun x hx => by have := (g3 x hx).2; omega
    have Hx := Lib.hid (vof_len Hxx.out)
    have g4 : ats.length ≤ 1000 := by omega
    obtain ⟨g5, g6, g7⟩ := vqB_vars ht1
    dsimp only at g5 g6 g7
    obtain ⟨m, rfl⟩ : ∃ m : Nat, z = m := ⟨z.toNat, by omega⟩
    have g8 : m ≤ 1000 := by omega
    have g9 : 1 ≤ ats.length := by
      have h9 := N1.out
      unfold vqB at h9
      simp only [Bool.and_eq_true] at h9
      have := inB_t h9.1.1.1.2
      omega
    clear ht1 g3 g5 g6 g7
    obtain ⟨tl, htl⟩ : ∃ t, decide (ps.length = ats.length) = t := ⟨_, rfl⟩
    have NL := Lib.hid htl
    have ql : ((ps.length : Int) != (ats.length : Int)) = !tl := by rw [← htl]; by_cases q : ps.length = ats.length <;> simp [q]; omega
    obtain ⟨tt, htt⟩ : ∃ t, treeB ps = t := ⟨_, rfl⟩
    have NT := Lib.hid htt
    have HE := Lib.hid (show ivjB ((m : Int), ats, out) ps = (tl && tt && allF (fun v => decide (tops ats ps v = 1)) m 0) by unfold ivjB jtB; rw [N1.out, htl, htt]; simp)
    clear htl htt
    go_enter Tryz.func31, Tryz.ntmps31
    go_upto_region 1 with fail
    refine wp_name ?_
    intro W hW
    have xW : ∃ y, W = ext w y := by rw [hW.out]; exact (by refine x'z ?_; repeat (with_reducible (first | exact x'a _ _ | exact x'b _ | exact x'c (by assumption) | refine x'd ?_ (by assumption) | refine x'e ?_ _ | refine x'f ?_ _ | refine x'g ?_ | refine x'h ?_ ?_ _ | refine x'i ?_ _ | refine x'j ?_ | refine x'k ?_ _ | refine x'l ?_ _ _ | refine x'm ?_ | assumption | (refine x'n ?_; omega) | omega)))
    have BW0 : BoxAt W (w.heap.size) #[.int .i64 m, .slice A ats.length c, .slice B out.length e1] := by rw [hW.out]; refine ⟨?_, fun j => ?_, fun j => ?_⟩ <;> go_simp
    obtain ⟨lW0, bW0, fW0⟩ := BW0
    have cW0_0 : W.cell? ⟨w.heap.size, 0, none⟩ = some (.int .i64 m) := bW0 0
    have cW0_1 : W.cell? ⟨w.heap.size, 1, none⟩ = some (.slice A ats.length c) := bW0 1
    have cW0_2 : W.cell? ⟨w.heap.size, 2, none⟩ = some (.slice B out.length e1) := bW0 2
    have BW1 : BoxAt W (w.heap.size + 1) #[.slice C ps.length f1] := by rw [hW.out]; refine ⟨?_, fun j => ?_, fun j => ?_⟩ <;> go_simp
    obtain ⟨lW1, bW1, fW1⟩ := BW1
    have cW1_0 : W.cell? ⟨w.heap.size + 1, 0, none⟩ = some (.slice C ps.length f1) := bW1 0
    clear hW
    have PW : BoxAt W w.heap.size #[.int .i64 m, .slice A ats.length c, .slice B out.length e1] := ⟨lW0, bW0, fW0⟩
    have QW : BoxAt W (w.heap.size + 1) #[.slice C ps.length f1] := ⟨lW1, bW1, fW1⟩
    clear bW0 fW0 bW1 fW1
    cases tl with
    | false =>
      go_wp2_with (go_at_call 63; refine (specIsValidQuery_any (d := ((m : Int), ats, out)) HB.out (VD.toExt HV.out (by refine x'z ?_; repeat (with_reducible (first | exact x'a _ _ | exact x'b _ | exact x'c (by assumption) | refine x'd ?_ (by assumption) | refine x'e ?_ _ | refine x'f ?_ _ | refine x'g ?_ | refine x'h ?_ ?_ _ | refine x'i ?_ _ | refine x'j ?_ | refine x'k ?_ _ | refine x'l ?_ _ _ | refine x'm ?_ | assumption | (refine x'n ?_; omega) | omega))))).mono ?_; rintro e w1 ⟨rfl, hx1⟩; rw [N1.out]; obtain ⟨l1, a1, a1', a1'', f2⟩ := box3 (PW.toExt hx1); obtain ⟨l2, a2, f3⟩ := box1 (QW.toExt hx1))
      go_ret
      exact ⟨by rw [HE.out]; rfl, (by refine x'z ?_; repeat (with_reducible (first | exact x'a _ _ | exact x'b _ | exact x'c (by assumption) | refine x'd ?_ (by assumption) | refine x'e ?_ _ | refine x'f ?_ _ | refine x'g ?_ | refine x'h ?_ ?_ _ | refine x'i ?_ _ | refine x'j ?_ | refine x'k ?_ _ | refine x'l ?_ _ _ | refine x'm ?_ | assumption | (refine x'n ?_; omega) | omega)))⟩
    | true =>
      have HPL : Hid (ps.length = ats.length) := Lib.hid (by simpa using NL.out)
      have gp1 : 1 ≤ ps.length := by rw [HPL.out]; exact g9
      have HTS : Hid (treeB ps = treeS ps) := Lib.hid (tree_eq gp1 (by rw [HPL.out]; exact g1))
      have NTS : Hid (treeS ps = tt) := Lib.hid (by rw [← HTS.out]; exact NT.out)
      have hRB : -1000 ≤ jroot 0 (-1) ps ∧ jroot 0 (-1) ps ≤ 1000000000 := by
        by_cases h : 0 ≤ jroot 0 (-1) ps
        · rcases jroot_at ps 0 (-1) h with ⟨h4, _⟩ | ⟨_, j, hj, h5, _⟩
          · omega
          · rw [h5]; omega
        · exact ⟨by have := jroot_lo ps 0 (-1) (by omega); omega, by omega⟩
      obtain ⟨R, hR⟩ : ∃ R, jroot 0 (-1) ps = R := ⟨_, rfl⟩
      rw [hR] at hRB
      obtain ⟨hRB1, hRB2⟩ := hRB
      have HR := Lib.hid hR
      by_cases hneg : R < 0
      · have HT : Hid (tt = false) := Lib.hid (by rw [← NTS.out]; unfold treeS; rw [hR, decide_eq_false (by omega)]; rfl)
        clear hR
        go_wp2_with (first
          | (go_at_call 63; refine (specIsValidQuery_any (d := ((m : Int), ats, out)) HB.out (VD.toExt HV.out (by refine x'z ?_; repeat (with_reducible (first | exact x'a _ _ | exact x'b _ | exact x'c (by assumption) | refine x'd ?_ (by assumption) | refine x'e ?_ _ | refine x'f ?_ _ | refine x'g ?_ | refine x'h ?_ ?_ _ | refine x'i ?_ _ | refine x'j ?_ | refine x'k ?_ _ | refine x'l ?_ _ _ | refine x'm ?_ | assumption | (refine x'n ?_; omega) | omega))))).mono ?_; rintro e w1 ⟨rfl, hx1⟩; rw [N1.out]; obtain ⟨l1, a1, a1', a1'', f2⟩ := box3 (PW.toExt hx1); obtain ⟨l2, a2, f3⟩ := box1 (QW.toExt hx1))
          | (go_at_call 34; refine (specJoinTreeRoot_any (by omega) (h1.toExt (by refine x'z ?_; repeat (with_reducible (first | exact x'a _ _ | exact x'b _ | exact x'c (by assumption) | refine x'd ?_ (by assumption) | refine x'e ?_ _ | refine x'f ?_ _ | refine x'g ?_ | refine x'h ?_ ?_ _ | refine x'i ?_ _ | refine x'j ?_ | refine x'k ?_ _ | refine x'l ?_ _ _ | refine x'm ?_ | assumption | (refine x'n ?_; omega) | omega))))).mono ?_; rintro e w2 ⟨rfl, hx2⟩; rw [HR.out]))
        go_ret
        exact ⟨by rw [HE.out, HT.out]; rfl, (by refine x'z ?_; repeat (with_reducible (first | exact x'a _ _ | exact x'b _ | exact x'c (by assumption) | refine x'd ?_ (by assumption) | refine x'e ?_ _ | refine x'f ?_ _ | refine x'g ?_ | refine x'h ?_ ?_ _ | refine x'i ?_ _ | refine x'j ?_ | refine x'k ?_ _ | refine x'l ?_ _ _ | refine x'm ?_ | assumption | (refine x'n ?_; omega) | omega)))⟩
      · have HS : Hid (allF (pathB ps) ps.length 0 = tt) := Lib.hid (by rw [← NTS.out]; unfold treeS; rw [hR, decide_eq_true (by omega)]; rfl)
        clear hR
        go_wp2_with (first
          | (go_at_call 63; refine (specIsValidQuery_any (d := ((m : Int), ats, out)) HB.out (VD.toExt HV.out (by refine x'z ?_; repeat (with_reducible (first | exact x'a _ _ | exact x'b _ | exact x'c (by assumption) | refine x'd ?_ (by assumption) | refine x'e ?_ _ | refine x'f ?_ _ | refine x'g ?_ | refine x'h ?_ ?_ _ | refine x'i ?_ _ | refine x'j ?_ | refine x'k ?_ _ | refine x'l ?_ _ _ | refine x'm ?_ | assumption | (refine x'n ?_; omega) | omega))))).mono ?_; rintro e w1 ⟨rfl, hx1⟩; rw [N1.out]; obtain ⟨l1, a1, a1', a1'', f2⟩ := box3 (PW.toExt hx1); obtain ⟨l2, a2, f3⟩ := box1 (QW.toExt hx1))
          | (go_at_call 34; refine (specJoinTreeRoot_any (by omega) (h1.toExt (by refine x'z ?_; repeat (with_reducible (first | exact x'a _ _ | exact x'b _ | exact x'c (by assumption) | refine x'd ?_ (by assumption) | refine x'e ?_ _ | refine x'f ?_ _ | refine x'g ?_ | refine x'h ?_ ?_ _ | refine x'i ?_ _ | refine x'j ?_ | refine x'k ?_ _ | refine x'l ?_ _ _ | refine x'm ?_ | assumption | (refine x'n ?_; omega) | omega))))).mono ?_; rintro e w2 ⟨rfl, hx2⟩; rw [HR.out]))
        have hx9 := trans_ext hx1 hx2
        have hxw : ∃ y, w2 = ext w y := trans_ext xW hx9
        have P2 := PW.toExt hx9
        have Q2 := QW.toExt hx9
        clear l1 a1 a1' a1'' f2 l2 a2 f3
        go_loopw [5] (fun i wr => ∃ k : Nat, i = .int .i64 k ∧ k ≤ ps.length ∧ (∃ y, wr = ext w2 y) ∧ Hid (allF (pathB ps) (ps.length - k) k = tt)) (fun i _ => ps.length - (intOf i).toNat)
        case atStart => exact ⟨0, rfl, by omega, refl_ext _, HS⟩
        case round =>
          obtain ⟨k, rfl, hk, hy, Hj⟩ := hrel
          obtain ⟨l3, a3, a3', a3'', f4⟩ := box3 (P2.toExt hy)
          obtain ⟨l4, a4, f5⟩ := box1 (Q2.toExt hy)
          by_cases hlt : k < ps.length
          · have e := Hj.out
            rw [allF_step hlt] at e
            have hL0 := pth_pos hlt
            have hL9 := pth_len ps (ps.length + 1) k
            have eP : pathB ps k = (decide ((pth ps (ps.length + 1) k).length ≤ ps.length) && decide ((pth ps (ps.length + 1) k).getD ((pth ps (ps.length + 1) k).length - 1) 0 = R)) := by unfold pathB; rw [HR.out]
            rw [eP] at e
            obtain ⟨pt, hpt⟩ : ∃ pt, pth ps (ps.length + 1) k = pt := ⟨_, rfl⟩
            rw [hpt] at e hL0 hL9
            have HPT := Lib.hid hpt
            have He := Lib.hid e
            clear e eP hpt Hj
            go_wp2_with (go_at_call 65; refine (l10Path_any hx (h1.toExt (trans_ext hxw hy))).mono ?_; rintro e w3 ⟨v3, F3, rfl, hx3, hS3, hF3⟩; rw [HPT.out] at hS3; obtain ⟨A3, c3, rfl, hc3, _, hV3⟩ := hS3.view sI_v; have P3 := P2.toExt (trans_ext hy hx3); have Q3 := Q2.toExt (trans_ext hy hx3); obtain ⟨l5, a5, a5', a5'', f6⟩ := box3 P3; obtain ⟨l6, a6, f7⟩ := box1 Q3)
            have hy3 := trans_ext hy hx3
            have hC3 := h1.toExt (trans_ext hxw hy3)
            obtain ⟨b, o, rfl⟩ := hV3.place hL0
            obtain ⟨lb, lc⟩ := hV3.atIv (k := pt.length - 1) (by omega)
            obtain ⟨pl, hpl⟩ : ∃ pl, pt.getD (pt.length - 1) 0 = pl := ⟨_, rfl⟩
            have e := He.out
            rw [hpl] at lc e
            obtain ⟨te, hte⟩ : ∃ t, decide (pl = R) = t := ⟨_, rfl⟩
            have q2 : (pl != R) = !te := by rw [← hte]; by_cases q : pl = R <;> simp [q]
            rw [hte] at e
            have s0 : (0 : Int) ≤ (pt.length : Int) - 1 := by omega
            have s1 : IntKind.i64.wrap ((pt.length : Int) - 1) = (pt.length : Int) - 1 := IntWalk.i64_in _ (by omega)
            have s2 : ((pt.length : Int) - 1).toNat = pt.length - 1 := by omega
            have s3 : ((pt.length : Int) - 1) < (pt.length : Int) := by omega
            clear hpl hte He
            by_cases hL : pt.length ≤ ps.length
            · rw [decide_eq_true hL] at e
              have He := Lib.hid e
              have sg : ((ps.length : Int) < (pt.length : Int)) = False := by simp; omega
              clear e
              refine wp_region_ext (by kernel_rfl) (by kernel_rfl) ?_
              repeat (go_big_quiet_step ((go_at_call 34; exact quietEi' (specJoinTreeRoot_any (by omega) hC3.ext) HR.out)))
              refine wpQuiet_nil ?_
              rintro _ ⟨zz, rfl⟩
              clear s1
              cases te with
              | true =>
                go_wp2
                exact ⟨⟨k + 1, by go_num, by omega, trans_ext hy3 ⟨_, rfl⟩, Lib.hid (by simpa using He.out)⟩, by simp [intOf]; omega⟩
              | false =>
                go_wp2
                go_ret
                exact ⟨by rw [HE.out, ← He.out]; rfl, trans_ext hxw (trans_ext hy3 ⟨_, rfl⟩)⟩
            · rw [decide_eq_false hL] at e
              have He := Lib.hid e
              have sg : (ps.length : Int) < (pt.length : Int) := by omega
              clear e
              refine wp_region_ext (by kernel_rfl) (by kernel_rfl) ?_
              repeat (go_big_quiet_step (fail))
              refine wpQuiet_nil ?_
              rintro _ ⟨zz, rfl⟩
              clear s1
              go_wp2
              go_ret
              exact ⟨by rw [HE.out, ← He.out]; rfl, trans_ext hxw (trans_ext hy3 ⟨_, rfl⟩)⟩
          · have e := Hj.out
            rw [allF_end hlt] at e
            subst e
            have Hr : Hid (∀ j, j < ats.length → -1 ≤ ps.getD j 0 ∧ ps.getD j 0 ≤ (ats.length : Int) - 1) := Lib.hid fun j hj => by
              have := treeB_rng NT.out (j := j) (by rw [HPL.out]; exact hj)
              rw [HPL.out] at this
              exact this
            go_wp2
            go_loopw [7] (fun i ws => ∃ v : Nat, i = .int .i64 v ∧ v ≤ m ∧ (∃ y, ws = ext w2 y) ∧ Hid (allF (fun v => decide (tops ats ps v = 1)) (m - v) v = allF (fun v => decide (tops ats ps v = 1)) m 0)) (fun i _ => m - (intOf i).toNat)
            case atStart => exact ⟨0, rfl, by omega, hy, Lib.hid rfl⟩
            case round =>
              obtain ⟨v, rfl, hvm, hyv, Hv⟩ := hrel
              obtain ⟨l5, a5, a5', a5'', f6⟩ := box3 (P2.toExt hyv)
              obtain ⟨l6, a6, f7⟩ := box1 (Q2.toExt hyv)
              by_cases hvl : v < m
              · have e := Hv.out
                rw [allF_step hvl] at e
                obtain ⟨T, hT⟩ : ∃ T, tops ats ps v = T := ⟨_, rfl⟩
                rw [hT] at e
                obtain ⟨te, hte⟩ : ∃ t, decide (T = 1) = t := ⟨_, rfl⟩
                have q2 : (T != 1) = !te := by rw [← hte]; by_cases q : T = 1 <;> simp [q]
                rw [hte] at e
                have HT := Lib.hid hT
                have He := Lib.hid e
                clear e hT hte Hv
                go_wp2
                go_loopw [8, 9] (fun t i us => ∃ (k : Nat) (tv : Int), i = .int .i64 k ∧ t = .int .i64 tv ∧ k ≤ ps.length ∧ 0 ≤ tv ∧ tv ≤ k ∧ (∃ y, us = ext w2 y) ∧ Hid (topsG ats ps v (ats.length - k) k tv = T)) (fun _ i _ => ps.length - (intOf i).toNat)
                case atStart => exact ⟨0, 0, rfl, rfl, by omega, by omega, by omega, hyv, HT⟩
                case round =>
                  obtain ⟨k2, tv, rfl, rfl, hk2, ht0, ht1, hyu, Hu⟩ := hrel
                  obtain ⟨l7, a7, a7', a7'', f8⟩ := box3 (P2.toExt hyu)
                  obtain ⟨l8, a8, f9⟩ := box1 (Q2.toExt hyu)
                  by_cases hkp : k2 < ps.length
                  · have hka : k2 < ats.length := by rw [← HPL.out]; exact hkp
                    obtain ⟨b, o, rfl⟩ := ra.place (by omega)
                    obtain ⟨b2, o2, rfl⟩ := h1.place (by omega)
                    have hyw := trans_ext hxw hyu
                    obtain ⟨lb, s1, A1, c1, as1, av1, hV1⟩ := (ra.toExt hyw).atA' hka
                    obtain ⟨lb2, a9⟩ := (h1.toExt hyw).atIv hkp
                    have x1 := Hx.out k2
                    obtain ⟨r1, r2⟩ := Hr.out k2 hka
                    have e := Hu.out
                    rw [topsG_step hka] at e
                    obtain ⟨p, hp⟩ : ∃ p, ps.getD k2 0 = p := ⟨_, rfl⟩
                    have eT : topB ats ps v k2 = (decide ((v : Int) ∈ vof ats k2) && (decide (p < 0) || !decide ((v : Int) ∈ vof ats p.toNat))) := by unfold topB; rw [hp]
                    rw [hp] at a9 r1 r2
                    rw [eT] at e
                    obtain ⟨t1, ht1'⟩ : ∃ t, decide ((v : Int) ∈ vof ats k2) = t := ⟨_, rfl⟩
                    rw [ht1'] at e
                    have N1' := Lib.hid ht1'
                    have i0 : (0 : Int) ≤ (k2 : Int) := by omega
                    have i1 : (k2 : Int) < (ats.length : Int) := by omega
                    have i2 : (k2 : Int) < (ps.length : Int) := by omega
                    clear hp ht1' Hu eT
                    cases t1 with
                    | false =>
                      have HK := Lib.hid (show topsG ats ps v (ats.length - (k2 + 1)) (k2 + 1) tv = T by simpa using e)
                      clear e
                      go_wp2
                      refine wp_region_ext (by kernel_rfl) (by kernel_rfl) ?_
                      repeat (go_big_quiet_step ((go_at_call 66; exact quietEb (specContains_any (by omega) hV1.ext) N1'.out)))
                      refine wpQuiet_nil ?_
                      rintro _ ⟨zz, rfl⟩
                      go_wp2
                      exact ⟨⟨k2 + 1, tv, by go_num, rfl, by omega, by omega, by omega, trans_ext hyu ⟨_, rfl⟩, HK⟩, by simp [intOf]; omega⟩
                    | true =>
                      by_cases hp0 : p < 0
                      · have HK := Lib.hid (show topsG ats ps v (ats.length - (k2 + 1)) (k2 + 1) (tv + 1) = T by rw [decide_eq_true hp0] at e; simpa using e)
                        have qp : (p == -1) = true := by rw [show p = -1 by omega]; rfl
                        clear e
                        go_wp2
                        refine wp_region_ext (by kernel_rfl) (by kernel_rfl) ?_
                        repeat (go_big_quiet_step ((go_at_call 66; exact quietEb (specContains_any (by omega) hV1.ext) N1'.out)))
                        refine wpQuiet_nil ?_
                        rintro _ ⟨zz, rfl⟩
                        go_wp2
                        exact ⟨⟨k2 + 1, tv + 1, by go_num, rfl, by omega, by omega, by omega, trans_ext hyu ⟨_, rfl⟩, HK⟩, by simp [intOf]; omega⟩
                      · obtain ⟨q, rfl⟩ : ∃ q : Nat, p = q := ⟨p.toNat, by omega⟩
                        have hq : q < ats.length := by omega
                        have qp : ((q : Int) == -1) = false := by simp
                        obtain ⟨_, s3, A3, c3, as3, av3, hV3⟩ := (ra.toExt hyw).atA' hq
                        have x3 := Hx.out q
                        obtain ⟨t3, ht3⟩ : ∃ t, decide ((v : Int) ∈ vof ats q) = t := ⟨_, rfl⟩
                        have N3 := Lib.hid ht3
                        rw [decide_eq_false hp0, show ((q : Int)).toNat = q by omega, ht3] at e
                        have He3 := Lib.hid e
                        have j0 : (0 : Int) ≤ (q : Int) := by omega
                        have j1 : (q : Int) < (ats.length : Int) := by omega
                        clear e ht3
                        cases t3 with
                        | false =>
                          go_wp2
                          refine wp_region_ext (by kernel_rfl) (by kernel_rfl) ?_
                          repeat (go_big_quiet_step (first | (go_at_call_of 66 (A1); exact quietEb (specContains_any (by omega) hV1.ext) N1'.out) | (go_at_call_of 66 (A3); exact quietEb (specContains_any (by omega) hV3.ext) N3.out)))
                          refine wpQuiet_nil ?_
                          rintro _ ⟨zz, rfl⟩
                          go_wp2
                          exact ⟨⟨k2 + 1, tv + 1, by go_num, rfl, by omega, by omega, by omega, trans_ext hyu ⟨_, rfl⟩, Lib.hid (by simpa using He3.out)⟩, by simp [intOf]; omega⟩
                        | true =>
                          go_wp2
                          refine wp_region_ext (by kernel_rfl) (by kernel_rfl) ?_
                          repeat (go_big_quiet_step (first | (go_at_call_of 66 (A1); exact quietEb (specContains_any (by omega) hV1.ext) N1'.out) | (go_at_call_of 66 (A3); exact quietEb (specContains_any (by omega) hV3.ext) N3.out)))
                          refine wpQuiet_nil ?_
                          rintro _ ⟨zz, rfl⟩
                          go_wp2
                          exact ⟨⟨k2 + 1, tv, by go_num, rfl, by omega, by omega, by omega, trans_ext hyu ⟨_, rfl⟩, Lib.hid (by simpa using He3.out)⟩, by simp [intOf]; omega⟩
                  · have e := Hu.out
                    rw [topsG_end (by rw [← HPL.out]; exact hkp)] at e
                    subst e
                    clear Hu
                    cases te with
                    | false =>
                      go_wp2
                      go_ret
                      exact ⟨by rw [HE.out, ← He.out]; rfl, trans_ext hxw hyu⟩
                    | true =>
                      go_wp2
                      exact ⟨⟨v + 1, by go_num, by omega, hyu, Lib.hid (by simpa using He.out)⟩, by simp [intOf]; omega⟩
              · have e := Hv.out
                rw [allF_end hvl] at e
                have He := Lib.hid e
                clear e Hv
                go_wp2
                go_ret
                exact ⟨by rw [HE.out, ← He.out]; rfl, trans_ext hxw hyv⟩
end Go.Proofs.YtfigcfajkilhiaaGreat
