/- Contracts of functions that the statement reaches. -/
import Derived.Test.YtfigcfajkilhiaaJ31
namespace Go.Proofs.Ytfigcfajkilhiaa
open Go.RowKit
def notL (gone : List Bool) : List Bool := gone.map fun b => !b
theorem notL_get {gone : List Bool} {k : Nat} (hk : k < gone.length) : (notL gone).getD k true = !gone.getD k true := by
  unfold notL
  rw [List.getD_eq_getElem?_getD, List.getD_eq_getElem?_getD, List.getElem?_map, List.getElem?_eq_getElem hk]
  rfl
def stepK (ats : List At) (gone : List Bool) : Int := match stepG ats gone with | some i => oInt? (ear ats gone i) | none => -1
theorem bool4 {t o r e u : Bool} (h : (!t && (o && r)) = e) (k : u = !(!t && o)) : (!u && r) = e := by
  subst h k
  cases t <;> simp
set_option maxRecDepth 100000 in
set_option maxHeartbeats 16000000 in
theorem l10Ear_any {g m : Nat} {ats : List At} {gone : List Bool} {A B : Option Addr} {c e1 n2 cg : Nat} {w : World} (hx : ats.length ≤ 1000) (hxl : ∀ x ∈ ats, x.2.length ≤ 100000000) (hgl : gone.length = ats.length) (hm : m ≤ 1000)
    (hv : ∀ x ∈ ats, ∀ v ∈ x.2, 0 ≤ v ∧ v < (m : Int)) (hA : RV 2 vAt w A ats) (hB : RB w (some ⟨g, 0, none⟩) (notL gone)) :
    Calls Try.prog 203 #[.agg #[.int .i64 m, .slice A ats.length c, .slice B n2 e1], .slice (some ⟨g, 0, none⟩) ats.length cg] w fun e w' => e = .returned (.tuple #[.int .i64 (oInt? (stepG ats gone)), .int .i64 (stepK ats gone)]) ∧ ∃ y, w' = ext w y := by
  have Hx : Hid (∀ j, (vof ats j).length ≤ 100000000) := Lib.hid fun j => by
    by_cases hj : j < ats.length
    · rw [← vof_get hj]; exact hxl _ (List.getElem_mem hj)
    · unfold vof
      rw [List.getD_eq_getElem?_getD, List.getElem?_eq_none (by omega)]
      simp
  have Hv : Hid (∀ j, ∀ v ∈ vof ats j, 0 ≤ v ∧ v < (m : Int)) := Lib.hid fun j v h => by
    by_cases hj : j < ats.length
    · rw [← vof_get hj] at h; exact hv _ (List.getElem_mem hj) v h
    · unfold vof at h
      rw [List.getD_eq_getElem?_getD, List.getElem?_eq_none (by omega)] at h
      simp at h
  have HG := Lib.hid hgl
  have HN : Hid ((notL gone).length = ats.length) := Lib.hid (by unfold notL; rw [List.length_map, hgl])
  clear hxl hgl hv
  go_enter Try.func203, Try.ntmps203
  go_upto_region 1 with fail
  refine wp_name ?_
  intro W hW
  have xW : ∃ y, W = ext w y := by rw [hW.out]; exact (by refine x'z ?_; repeat (with_reducible (first | exact x'a _ _ | exact x'b _ | exact x'c (by assumption) | refine x'd ?_ (by assumption) | refine x'e ?_ _ | refine x'f ?_ _ | refine x'g ?_ | refine x'h ?_ ?_ _ | refine x'i ?_ _ | refine x'j ?_ | refine x'k ?_ _ | refine x'l ?_ _ _ | refine x'm ?_ | assumption | (refine x'n ?_; omega) | omega)))
  have BW0 : BoxAt W (w.heap.size) #[.int .i64 m, .slice A ats.length c, .slice B n2 e1] := by rw [hW.out]; refine ⟨?_, fun j => ?_, fun j => ?_⟩ <;> go_simp
  obtain ⟨lW0, bW0, fW0⟩ := BW0
  have cW0_0 : W.cell? ⟨w.heap.size, 0, none⟩ = some (.int .i64 m) := bW0 0
  have cW0_1 : W.cell? ⟨w.heap.size, 1, none⟩ = some (.slice A ats.length c) := bW0 1
  have cW0_2 : W.cell? ⟨w.heap.size, 2, none⟩ = some (.slice B n2 e1) := bW0 2
  clear hW
  have BQ : BoxAt W w.heap.size #[.int .i64 m, .slice A ats.length c, .slice B n2 e1] := ⟨lW0, bW0, fW0⟩
  have hA := hA.toExt xW
  have hB := hB.toExt xW
  clear lW0 bW0 fW0 cW0_0 cW0_1 cW0_2
  go_wp2
  go_loopw [6] (fun k wr => ∃ i : Nat, k = .int .i64 i ∧ i ≤ ats.length ∧ (∃ y, wr = ext W y) ∧ Hid (findF (canI ats gone) (ats.length - i) i = stepG ats gone)) (fun k _ => ats.length - (intOf k).toNat)
  case atStart => exact ⟨0, rfl, by omega, refl_ext W, Lib.hid rfl⟩
  case round =>
    obtain ⟨i, rfl, hi, hy, Hi⟩ := hrel
    obtain ⟨lq, aq, aq', aq'', fq⟩ := box3 (BQ.toExt hy)
    by_cases hil : i < ats.length
    · obtain ⟨gl, gc⟩ := hB.at0 (k := i) (by rw [HN.out]; exact hil)
      rw [notL_get (by rw [HG.out]; exact hil)] at gc
      obtain ⟨t, ht⟩ : ∃ t, gone.getD i true = t := ⟨_, rfl⟩
      rw [ht] at gc
      have e := Hi.out
      rw [findF_step hil, show canI ats gone i = (!t && (ear ats gone i).isSome) by unfold canI; rw [ht]] at e
      have He := Lib.hid e
      have HT := Lib.hid ht
      clear e ht Hi
      obtain ⟨b, o, rfl⟩ := hA.place (by omega)
      obtain ⟨lbi, si, Ai, ci, asi, avi, hVi⟩ := hA.atA' hil
      have xi := Hx.out i
      cases t with
      | true =>
        go_wp2
        go_loopw [7] (fun k vs => ∃ q : Nat, k = .int .i64 q ∧ q ≤ ats.length ∧ (∃ y, vs = ext W y)) (fun k _ => ats.length - (intOf k).toNat)
        case atStart => exact ⟨0, rfl, by omega, hy⟩
        case round =>
          obtain ⟨q, rfl, hq, hyv⟩ := hrel
          obtain ⟨lq2, aq2, aq2', aq2'', fq2⟩ := box3 (BQ.toExt hyv)
          have gc2 := cellX hyv gl gc
          have gl2 := ltX hyv gl
          by_cases hql : q < ats.length
          · go_wp2
            exact ⟨⟨q + 1, by go_num, by omega, hyv⟩, by simp [intOf]; omega⟩
          · have HK := Lib.hid (show findF (canI ats gone) (ats.length - (i + 1)) (i + 1) = stepG ats gone by simpa using He.out)
            go_wp2
            exact ⟨⟨i + 1, by go_num, by omega, hyv, HK⟩, by simp [intOf]; omega⟩
      | false =>
        go_wp2
        go_loopw [7] (fun k vs => ∃ q : Nat, k = .int .i64 q ∧ q ≤ ats.length ∧ (∃ y, vs = ext W y) ∧ Hid (findF (canK ats gone i) (ats.length - q) q = ear ats gone i)) (fun k _ => ats.length - (intOf k).toNat)
        case atStart => exact ⟨0, rfl, by omega, hy, Lib.hid rfl⟩
        case round =>
          obtain ⟨k, rfl, hk, hyv, Hk⟩ := hrel
          obtain ⟨lq2, aq2, aq2', aq2'', fq2⟩ := box3 (BQ.toExt hyv)
          have gc2 := cellX hyv gl gc
          have gl2 := ltX hyv gl
          by_cases hkl : k < ats.length
          · obtain ⟨_, gck⟩ := hB.at0 (k := k) (by rw [HN.out]; exact hkl)
            rw [notL_get (by rw [HG.out]; exact hkl)] at gck
            obtain ⟨t1, ht1⟩ : ∃ t, decide (k ≠ i) = t := ⟨_, rfl⟩
            obtain ⟨t2, ht2⟩ : ∃ t, gone.getD k true = t := ⟨_, rfl⟩
            have q1 : ((i : Int) == (k : Int)) = !t1 := by rw [← ht1]; by_cases q : k = i <;> simp [q]; omega
            rw [ht2] at gck
            have gck2 := cellX hyv gl gck
            have e := Hk.out
            rw [findF_step hkl, show canK ats gone i k = (t1 && !t2 && earOK ats gone i k) by unfold canK; rw [ht1, ht2]] at e
            have Hek := Lib.hid e
            clear e ht1 ht2 Hk gck
            cases t2 with
            | true =>
              have HK := Lib.hid (show findF (canK ats gone i) (ats.length - (k + 1)) (k + 1) = ear ats gone i by have := Hek.out; cases t1 <;> simpa using this)
              go_wp2
              all_goals exact ⟨⟨k + 1, by go_num, by omega, hyv, HK⟩, by simp [intOf]; omega⟩
            | false =>
              cases t1 with
              | false =>
                go_wp2
                exact ⟨⟨k + 1, by go_num, by omega, hyv, Lib.hid (by simpa using Hek.out)⟩, by simp [intOf]; omega⟩
              | true =>
                have HES := Lib.hid (earOK_spec (gone := gone) (k := k) (Hv.out i))
                obtain ⟨_, sk, Ak, ck, ask, avk, hVk⟩ := hA.atA' hkl
                have xk := Hx.out k
                go_wp2
                clear gc2 gl2 gck2 lq2 aq2 aq2' aq2'' fq2 lq aq aq' aq'' fq
                go_loopw [8, 9] (fun o j us => ∃ (v : Nat) (t0 : Bool), o = .bool t0 ∧ j = .int .i64 v ∧ v ≤ m ∧ (∃ y, us = ext W y) ∧ Hid ((t0 && allF (okS ats gone i k) (m - v) v) = earOK ats gone i k)) (fun _ j _ => m - (intOf j).toNat)
                case atStart => exact ⟨0, true, rfl, rfl, by omega, hyv, Lib.hid (by have := HES.out; simpa using this)⟩
                case round =>
                  obtain ⟨v, t0, rfl, rfl, hvm, hyu, Hvv⟩ := hrel
                  obtain ⟨lq3, aq3, aq3', aq3'', fq3⟩ := box3 (BQ.toExt hyu)
                  by_cases hvl : v < m
                  · have e := Hvv.out
                    rw [allF_step hvl] at e
                    have He2 := Lib.hid e
                    clear e Hvv
                    go_wp2
                    go_loopw [10, 11] (fun o j xs => ∃ (p : Nat) (t : Bool), o = .bool t ∧ j = .int .i64 p ∧ p ≤ ats.length ∧ (∃ y, xs = ext W y) ∧ Hid ((!t && allF (fun j => !blk ats gone i v j) (ats.length - p) p) = allF (fun j => !blk ats gone i v j) ats.length 0)) (fun _ j _ => ats.length - (intOf j).toNat)
                    case atStart => exact ⟨0, false, rfl, rfl, by omega, hyu, Lib.hid rfl⟩
                    case round =>
                      obtain ⟨p, t, rfl, rfl, hp, hyx, Hp⟩ := hrel
                      obtain ⟨lq4, aq4, aq4', aq4'', fq4⟩ := box3 (BQ.toExt hyx)
                      by_cases hpl : p < ats.length
                      · obtain ⟨_, gcp⟩ := hB.at0 (k := p) (by rw [HN.out]; exact hpl)
                        rw [notL_get (by rw [HG.out]; exact hpl)] at gcp
                        obtain ⟨lb3, s3, A3, c3, as3, av3, hV3⟩ := (hA.toExt hyx).atA' hpl
                        have x3 := Hx.out p
                        have e := Hp.out
                        rw [allF_step hpl] at e
                        obtain ⟨d1, hd1⟩ : ∃ t, decide (p ≠ i) = t := ⟨_, rfl⟩
                        obtain ⟨d2, hd2⟩ : ∃ t, gone.getD p true = t := ⟨_, rfl⟩
                        obtain ⟨d3, hd3⟩ : ∃ t, decide ((v : Int) ∈ vof ats p) = t := ⟨_, rfl⟩
                        have q3 : ((p : Int) != (i : Int)) = d1 := by rw [← hd1]; by_cases q : p = i <;> simp [q]; omega
                        rw [hd2] at gcp
                        have gcp4 := cellX hyx gl gcp
                        have gl4 := ltX hyx gl
                        have e9 : blk ats gone i v p = (d1 && !d2 && d3) := by unfold blk; rw [hd1, hd2, hd3]
                        rw [e9] at e
                        have HeP := Lib.hid (bool4 e (u := t || (d1 && !d2 && d3)) (by cases t <;> simp))
                        have N3 := Lib.hid hd3
                        clear e e9 hd1 hd2 hd3 Hp gcp
                        cases t <;> cases d2 <;> cases d1 <;> cases d3
                        all_goals
                          go_wp2_with (go_at_call 151; refine (specContains_any (by omega) (hV3.toExt (by refine x'z ?_; repeat (with_reducible (first | exact x'a _ _ | exact x'b _ | exact x'c (by assumption) | refine x'd ?_ (by assumption) | refine x'e ?_ _ | refine x'f ?_ _ | refine x'g ?_ | refine x'h ?_ ?_ _ | refine x'i ?_ _ | refine x'j ?_ | refine x'k ?_ _ | refine x'l ?_ _ _ | refine x'm ?_ | assumption | (refine x'n ?_; omega) | omega))))).mono ?_; rintro e w3 ⟨rfl, y3, rfl⟩; rw [N3.out])
                          exact ⟨⟨p + 1, _, rfl, by go_num, by omega, (by refine x'z ?_; repeat (with_reducible (first | exact x'a _ _ | exact x'b _ | exact x'c (by assumption) | refine x'd ?_ (by assumption) | refine x'e ?_ _ | refine x'f ?_ _ | refine x'g ?_ | refine x'h ?_ ?_ _ | refine x'i ?_ _ | refine x'j ?_ | refine x'k ?_ _ | refine x'l ?_ _ _ | refine x'm ?_ | assumption | (refine x'n ?_; omega) | omega))), Lib.hid HeP.out⟩, by simp [intOf]; omega⟩
                      · have e := Hp.out
                        rw [allF_end hpl, Bool.and_true] at e
                        obtain ⟨d5, hd5⟩ : ∃ t, decide ((v : Int) ∈ vof ats i) = t := ⟨_, rfl⟩
                        obtain ⟨d6, hd6⟩ : ∃ t, decide ((v : Int) ∈ vof ats k) = t := ⟨_, rfl⟩
                        have eS : okS ats gone i k v = (!d5 || !t || d6) := by unfold okS; rw [← e, hd5, hd6]; simp
                        have e3 := He2.out
                        rw [eS] at e3
                        have HF := Lib.hid (show ((t0 && (!d5 || !t || d6)) && allF (okS ats gone i k) (m - (v + 1)) (v + 1)) = earOK ats gone i k by rw [Bool.and_assoc]; exact e3)
                        have N5 := Lib.hid hd5
                        have N6 := Lib.hid hd6
                        obtain ⟨lbi2, _, Ai2, ci2, asi2, avi2, hVi2⟩ := (hA.toExt hyx).atA' hil
                        obtain ⟨_, _, Ak2, ck2, ask2, avk2, hVk2⟩ := (hA.toExt hyx).atA' hkl
                        clear e e3 eS hd5 hd6 Hp
                        cases t0 <;> cases d5 <;> cases t <;> cases d6
                        all_goals
                          go_wp2_with (first
                            | (go_at_call_of 151 (Ai2); refine (specContains_any (by omega) (hVi2.toExt (by refine x'z ?_; repeat (with_reducible (first | exact x'a _ _ | exact x'b _ | exact x'c (by assumption) | refine x'd ?_ (by assumption) | refine x'e ?_ _ | refine x'f ?_ _ | refine x'g ?_ | refine x'h ?_ ?_ _ | refine x'i ?_ _ | refine x'j ?_ | refine x'k ?_ _ | refine x'l ?_ _ _ | refine x'm ?_ | assumption | (refine x'n ?_; omega) | omega))))).mono ?_; rintro e w3 ⟨rfl, y3, rfl⟩; rw [N5.out])
                            | (go_at_call_of 151 (Ak2); refine (specContains_any (by omega) (hVk2.toExt (by refine x'z ?_; repeat (with_reducible (first | exact x'a _ _ | exact x'b _ | exact x'c (by assumption) | refine x'd ?_ (by assumption) | refine x'e ?_ _ | refine x'f ?_ _ | refine x'g ?_ | refine x'h ?_ ?_ _ | refine x'i ?_ _ | refine x'j ?_ | refine x'k ?_ _ | refine x'l ?_ _ _ | refine x'm ?_ | assumption | (refine x'n ?_; omega) | omega))))).mono ?_; rintro e w3 ⟨rfl, y4, rfl⟩; rw [N6.out]))
                          exact ⟨⟨v + 1, _, rfl, by go_num, by omega, (by refine x'z ?_; repeat (with_reducible (first | exact x'a _ _ | exact x'b _ | exact x'c (by assumption) | refine x'd ?_ (by assumption) | refine x'e ?_ _ | refine x'f ?_ _ | refine x'g ?_ | refine x'h ?_ ?_ _ | refine x'i ?_ _ | refine x'j ?_ | refine x'k ?_ _ | refine x'l ?_ _ _ | refine x'm ?_ | assumption | (refine x'n ?_; omega) | omega))), Lib.hid HF.out⟩, by simp [intOf]; omega⟩
                  · have e := Hvv.out
                    rw [allF_end hvl, Bool.and_true] at e
                    have e2 := Hek.out
                    rw [← e] at e2
                    have He2 := Lib.hid e2
                    clear e e2 Hvv
                    cases t0 with
                    | true =>
                      have HK := Lib.hid (show ear ats gone i = some k by simpa using He2.out.symm)
                      have HS := Lib.hid (show stepG ats gone = some i by have := He.out; rw [HK.out] at this; simpa using this.symm)
                      go_wp2
                      go_ret2
                      exact ⟨by unfold stepK; rw [HS.out]; simp only; rw [HK.out]; rfl, trans_ext xW hyu⟩
                    | false =>
                      go_wp2
                      exact ⟨⟨k + 1, by go_num, by omega, hyu, Lib.hid (by simpa using He2.out)⟩, by simp [intOf]; omega⟩
          · have e := Hk.out
            rw [findF_end hkl] at e
            have e2 := He.out
            rw [← e] at e2
            have HK := Lib.hid (show findF (canI ats gone) (ats.length - (i + 1)) (i + 1) = stepG ats gone by simpa using e2)
            clear e e2 Hk
            go_wp2
            exact ⟨⟨i + 1, by go_num, by omega, hyv, HK⟩, by simp [intOf]; omega⟩
    · have e := Hi.out
      rw [findF_end hil] at e
      have HK := Lib.hid e.symm
      clear e Hi
      go_wp2
      go_ret2
      exact ⟨by unfold stepK; rw [HK.out]; rfl, trans_ext xW hy⟩
end Go.Proofs.Ytfigcfajkilhiaa
