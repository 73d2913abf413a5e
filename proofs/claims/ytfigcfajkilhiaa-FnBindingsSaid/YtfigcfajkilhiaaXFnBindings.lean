/- A database, a query and a row drawn from any bytes: the row is a binding exactly if every atom holds for it, and all bindings are found. -/
import Derived.Test.YtfigcfajkilhiaaXFnScal1
import Derived.Test.YtfigcfajkilhiaaE09
import Derived.Test.YtfigcfajkilhiaaE08
namespace Go.Proofs.Ytfigcfajkilhiaa
open Go.ChangeShapes Go.WideShapes Go.ChangeAt Go.RowKit

theorem isb_iff {d : Dbd} {q : Qd} (h : iqfB d q = true) (z : List Int) : isbB d q z = decide (z ∈ allB d q) := by
  have hk := qok h
  rw [Bool.eq_iff_iff, decide_eq_true_eq, mem_allB hk]
  unfold isbB
  rw [h, Bool.true_and, Bool.and_eq_true, decide_eq_true_eq, List.all_eq_true]
  refine and_congr_right fun _ => forall_congr' fun a => forall_congr' fun ha => ?_
  unfold holdB
  rw [Bool.and_eq_true, decide_eq_true_eq]
  exact ⟨fun k => k.2, fun k => ⟨(atFit_some (hk.fit a ha)).2.1.rel, k⟩⟩
theorem ir_get {A : Option Addr} {w : World} {rows : List (List Int)} (h : RII w A rows) {k : Nat} (hk : k < rows.length) : ∃ b o A1 c1, A = some ⟨b, o, none⟩ ∧ b < w.heap.size ∧ w.cell? ⟨b, o + k, none⟩ = some (.slice A1 rows[k].length c1) ∧ RI w A1 rows[k] := h.atV hk

set_option maxHeartbeats 2000000 in
theorem law_BI_big (A : Option Addr) (c : Nat) (bs : List UInt8) (w : World) (hb : 1048576 < bs.length) (hl : bs.length ≤ 9223372036854775807) : Calls Try.prog 12 #[.slice A bs.length c] w fun e w' => e = .returned (.bool true) ∧ ∃ y, w' = ext w y := by
  go_enter Try.func12, Try.ntmps12
  go_wp2_with fail
  refine (lawBig_any hl).mono ?_
  rintro e w1 ⟨rfl, hx1⟩
  rw [decide_eq_true hb]
  go_wp2_with fail
  go_ret
  exact ⟨rfl, hx1⟩

set_option maxRecDepth 100000 in
set_option maxHeartbeats 16000000 in
theorem law_BI_m (A : Option Addr) (c : Nat) (bs : List UInt8) (w : World) (hb : bs.length ≤ 1048576) (h1 : RU w A bs) : Calls Try.prog 12 #[.slice A bs.length c] w fun e w' => e = .returned (.bool true) ∧ ∃ y, w' = ext w y := by
  have HU := Lib.hid h1
  clear h1
  go_enter Try.func12, Try.ntmps12
  go_wp2_with fail
  refine (lawBig_any (by omega)).mono ?_
  rintro e w1 ⟨rfl, hx1⟩
  rw [decide_eq_false (show ¬ 1048576 < bs.length by omega)]
  have HX := Lib.hid hx1
  clear hx1
  go_wp2_with fail
  refine (DrawIsBinding_any hb (HU.out.toExt HX.out)).mono ?_
  rintro e w2 ⟨A2, c2, d, B2, b2, C2, c3, q, AR, cr, row, rfl, hvd, hvq, hvr, hD, hQ, hrl, hx2⟩
  have VD1 := Lib.hid hvd
  have VQ1 := Lib.hid hvq
  have VW := Lib.hid hvr
  have hdw := Lib.hid hD.w
  have hqb := Lib.hid hQ.b
  have hfd := Lib.hid hD.few
  have hfq := Lib.hid hQ.f
  have Hx2 := Lib.hid hx2
  have hrl9 : row.length ≤ 1000000000 := by omega
  clear hvd hvq hvr hD hQ hx2
  go_upto_region 4 with fail
  refine wp_name ?_
  intro W2 hW
  have xw : ∃ y, W2 = ext w2 y := by rw [hW.out]; exact (by refine x'z ?_; repeat (with_reducible (first | apply x'a | apply x'b | exact x'c (by assumption) | refine x'd ?_ (by assumption) | apply x'e | apply x'f | apply x'g | apply x'h | apply x'i | apply x'j | apply x'k | apply x'l | apply x'm | assumption | (refine x'n ?_; omega) | omega)))
  have BD : Hid (BoxAt W2 w2.heap.size #[.slice A2 d.length c2]) := Lib.hid (by rw [hW.out]; exact (BoxAt.new _ _ _).toExt (alloc_ext _ _))
  have BQ : Hid (BoxAt W2 (w2.heap.size + 1) #[.int .i64 q.1, .slice B2 q.2.1.length b2, .slice C2 q.2.2.length c3]) := Lib.hid (by rw [hW.out]; exact box_second)
  have VD1 := Lib.hid (VD1.out.toExt xw)
  have VQ1 := Lib.hid (VD.toExt VQ1.out xw)
  have VW := Lib.hid (VW.out.toExt xw)
  have HX := Lib.hid (trans_ext HX.out (trans_ext Hx2.out xw))
  clear hW xw Hx2
  obtain ⟨lD, kD0, fD⟩ := bx1 BD.out
  obtain ⟨lQ, kQ0, kQ1, kQ2, fQ⟩ := box3 BQ.out
  obtain ⟨t, ht⟩ : ∃ t, iqfB d q = t := ⟨_, rfl⟩
  have HT := Lib.hid ht
  obtain ⟨rel, hrel⟩ : ∃ r, (bindR d q).getD (0, []) = r := ⟨_, rfl⟩
  have HREL := Lib.hid hrel
  obtain ⟨sb, hsb⟩ : ∃ t, isbB d q row = t := ⟨_, rfl⟩
  have HSB := Lib.hid hsb
  have hrn : rel.2.length ≤ 4000 ∧ ∀ x ∈ rel.2, x.length ≤ 5 := by
    rw [← hrel]
    cases h : bindR d q with
    | none => exact ⟨by simp, by simp⟩
    | some r => exact bind_ok h
  have hrn9 : rel.2.length ≤ 1000000000 := by omega
  have HRX := Lib.hid (fun (x : List Int) (hx : x ∈ rel.2) => show x.length ≤ 1000000000 by have := hrn.2 x hx; omega)
  have HR0 := Lib.hid (fun (h : t = false) => show rel.2.length = 0 by rw [← hrel, bind_no (by rw [ht, h])]; rfl)
  have HR1 := Lib.hid (fun (h : t = true) => show rel = (q.1, allB d q) ∧ rowsB q.1 (allB d q) = true from by
    have hq : iqfB d q = true := by rw [ht, h]
    obtain ⟨k1, k2, k3⟩ := bind_few hq hfd.out (hfq.out (iqf_vq hq))
    exact ⟨by rw [← hrel, k1]; rfl, k3⟩)
  have HIB := Lib.hid (fun (h : t = true) (z : List Int) => isb_iff (d := d) (q := q) (by rw [ht, h]) z)
  clear ht hrel hsb hrn
  go_wp2_with fail
  refine (AllBindings_any hdw.out VD1.out hqb.out VQ1.out).mono ?_
  rw [HREL.out]
  rintro e w4 ⟨u0, u1, F4, rfl, hx4, hS4, _, _⟩
  obtain ⟨A6, a6, rfl, rfl, hI⟩ := sRel_form hS4
  have V6 := Lib.hid (vII_get (sII_v _ _ _ hI)).2
  have Hx4 := Lib.hid hx4
  clear hx4 hS4 hI
  go_upto_region 5 with fail
  refine wp_name ?_
  intro W4 hW
  have xw : ∃ y, W4 = ext w4 y := by rw [hW.out]; exact (by refine x'z ?_; repeat (with_reducible (first | apply x'a | apply x'b | exact x'c (by assumption) | refine x'd ?_ (by assumption) | apply x'e | apply x'f | apply x'g | apply x'h | apply x'i | apply x'j | apply x'k | apply x'l | apply x'm | assumption | (refine x'n ?_; omega) | omega)))
  have B6 : Hid (BoxAt W4 w4.heap.size #[.int .i64 rel.1, .slice A6 rel.2.length a6]) := Lib.hid (by rw [hW.out]; exact BoxAt.new _ _ _)
  have V6 := Lib.hid (V6.out.toExt xw)
  have xx := trans_ext Hx4.out xw
  have BD := Lib.hid (BD.out.toExt xx)
  have BQ := Lib.hid (BQ.out.toExt xx)
  have VD1 := Lib.hid (VD1.out.toExt xx)
  have VQ1 := Lib.hid (VD.toExt VQ1.out xx)
  have VW := Lib.hid (VW.out.toExt xx)
  have HX := Lib.hid (trans_ext HX.out xx)
  clear hW xw xx lD kD0 fD lQ kQ0 kQ1 kQ2 fQ
  obtain ⟨lD, kD0, fD⟩ := bx1 BD.out
  obtain ⟨lQ, kQ0, kQ1, kQ2, fQ⟩ := box3 BQ.out
  obtain ⟨l6, k60, k61, f6⟩ := bx2 B6.out
  have q1 : (t != t) = false := by simp
  have q2 : (sb != sb) = false := by simp
  refine wp_region_ext (by kernel_rfl) (by kernel_rfl) ?_
  repeat (go_big_quiet_step (first
    | (go_at_call 74; exact quietEb (IsQueryFor_any hdw.out (VD1.out.toExt ⟨_, rfl⟩) hqb.out (VD.toExt VQ1.out ⟨_, rfl⟩)) HT.out)
    | (go_at_call 75; exact quietEb (specIsQueryFor_any hdw.out (VD1.out.toExt ⟨_, rfl⟩) hqb.out (VD.toExt VQ1.out ⟨_, rfl⟩)) HT.out)
    | (go_at_call 76; exact quietEb (IsBinding_any hdw.out (VD1.out.toExt ⟨_, rfl⟩) hqb.out (VD.toExt VQ1.out ⟨_, rfl⟩) hrl9 (VW.out.toExt ⟨_, rfl⟩)) HSB.out)
    | (go_at_call 77; exact quietEb (specIsBinding_any hdw.out (VD1.out.toExt ⟨_, rfl⟩) hqb.out (VD.toExt VQ1.out ⟨_, rfl⟩) hrl9 (VW.out.toExt ⟨_, rfl⟩)) HSB.out)))
  refine wpQuiet_nil ?_
  rintro _ ⟨zz, rfl⟩
  obtain ⟨W5, hW5⟩ : ∃ W, ext W4 zz = W := ⟨_, rfl⟩
  have hx5 : ∃ y, W5 = ext W4 y := ⟨zz, hW5.symm⟩
  rw [hW5]
  clear hW5
  have BD := Lib.hid (BD.out.toExt hx5)
  have BQ := Lib.hid (BQ.out.toExt hx5)
  have B6 := Lib.hid (B6.out.toExt hx5)
  have VD1 := Lib.hid (VD1.out.toExt hx5)
  have VQ1 := Lib.hid (VD.toExt VQ1.out hx5)
  have VW := Lib.hid (VW.out.toExt hx5)
  have V6 := Lib.hid (V6.out.toExt hx5)
  have HX := Lib.hid (trans_ext HX.out hx5)
  clear hx5 lD kD0 fD lQ kQ0 kQ1 kQ2 fQ l6 k60 k61 f6
  obtain ⟨lD, kD0, fD⟩ := bx1 BD.out
  obtain ⟨lQ, kQ0, kQ1, kQ2, fQ⟩ := box3 BQ.out
  obtain ⟨l6, k60, k61, f6⟩ := bx2 B6.out
  go_wp2_with fail
  refine (specIsQueryFor_any hdw.out VD1.out hqb.out VQ1.out).mono ?_
  rintro e w6 ⟨rfl, hx6⟩
  rw [HT.out]
  have BD := Lib.hid (BD.out.toExt hx6)
  have BQ := Lib.hid (BQ.out.toExt hx6)
  have B6 := Lib.hid (B6.out.toExt hx6)
  have VD1 := Lib.hid (VD1.out.toExt hx6)
  have VQ1 := Lib.hid (VD.toExt VQ1.out hx6)
  have VW := Lib.hid (VW.out.toExt hx6)
  have V6 := Lib.hid (V6.out.toExt hx6)
  have HX := Lib.hid (trans_ext HX.out hx6)
  clear hx6 lD kD0 fD lQ kQ0 kQ1 kQ2 fQ l6 k60 k61 f6
  obtain ⟨lD, kD0, fD⟩ := bx1 BD.out
  obtain ⟨lQ, kQ0, kQ1, kQ2, fQ⟩ := box3 BQ.out
  obtain ⟨l6, k60, k61, f6⟩ := bx2 B6.out
  cases t with
  | false =>
    have q3 : ((rel.2.length : Int) == 0) = true := by rw [HR0.out rfl]; rfl
    go_wp2_with fail
    go_ret
    exact ⟨rfl, HX.out⟩
  | true =>
    obtain ⟨hr1, hr2⟩ := HR1.out rfl
    have hib := HIB.out rfl
    obtain ⟨z, rows⟩ := rel
    injection hr1 with hz hrows
    dsimp only at B6 V6 k60 k61 hrn9 HRX ⊢
    have HMB := Lib.hid (fun (x : List Int) (hx : x ∈ rows) => show isbB d q x = true by rw [hib]; exact decide_eq_true (by rw [← hrows]; exact hx))
    have HCR := Lib.hid (show (rowsB z rows && decide (row ∈ rows)) = sb by rw [hz, hrows, hr2, ← HSB.out, hib]; rfl)
    have hzq : (z == q.1) = true := by rw [hz]; simp
    have q9 : (sb == sb) = true := by simp
    clear hr2 hib HR0 HR1 HIB HREL hz hrows
    go_wp2_with fail
    clear lD kD0 fD lQ kQ0 kQ1 kQ2 fQ l6 k60 k61 f6
    go_loopw [7] (fun i wr => ∃ k : Nat, i = .int .i64 k ∧ k ≤ rows.length ∧ ∃ y, wr = ext w6 y) (fun i _ => rows.length - (intOf i).toNat)
    case atStart => exact ⟨0, rfl, by omega, refl_ext w6⟩
    case round =>
      obtain ⟨k, rfl, hk, hy⟩ := hrel
      obtain ⟨lD, kD0, fD⟩ := bx1 (BD.out.toExt hy)
      obtain ⟨lQ, kQ0, kQ1, kQ2, fQ⟩ := box3 (BQ.out.toExt hy)
      obtain ⟨l6, k60, k61, f6⟩ := bx2 (B6.out.toExt hy)
      have HVD := Lib.hid (VD1.out.toExt hy)
      have HVQ := Lib.hid (VD.toExt VQ1.out hy)
      by_cases hlt : k < rows.length
      · obtain ⟨bb, oo, A1, c1, rfl, hbb, hcc, hv1⟩ := ir_get (V6.out.toExt hy) hlt
        have hm := HMB.out _ (List.getElem_mem hlt)
        have hxl := HRX.out _ (List.getElem_mem hlt)
        obtain ⟨x, hx⟩ : ∃ x, rows[k] = x := ⟨_, rfl⟩
        rw [hx] at hcc hv1 hm hxl
        have HM := Lib.hid hm
        have HV1 := Lib.hid hv1
        clear hx hm hv1
        go_wp2_with fail
        refine wp_region_ext (by kernel_rfl) (by kernel_rfl) ?_
        repeat (go_big_quiet_step (first
          | (go_at_call 76; exact quietEb (IsBinding_any hdw.out (HVD.out.toExt ⟨_, rfl⟩) hqb.out (VD.toExt HVQ.out ⟨_, rfl⟩) hxl (HV1.out.toExt ⟨_, rfl⟩)) HM.out)))
        refine wpQuiet_nil ?_
        rintro _ ⟨zz, rfl⟩
        go_wp2_with fail
        exact ⟨⟨k + 1, by go_num, by omega, trans_ext hy ⟨zz, rfl⟩⟩, by simp [intOf]; omega⟩
      · have HV6 := Lib.hid (V6.out.toExt hy)
        have HVW := Lib.hid (VW.out.toExt hy)
        go_wp2_with fail
        refine wp_region_ext (by kernel_rfl) (by kernel_rfl) ?_
        repeat (go_big_quiet_step (first
          | (go_at_call 78; exact quietEb (ContainsRow_any hrn9 HRX.out (HV6.out.toExt ⟨_, rfl⟩) hrl9 (HVW.out.toExt ⟨_, rfl⟩)) HCR.out)
          | (go_at_call 76; exact quietEb (IsBinding_any hdw.out (HVD.out.toExt ⟨_, rfl⟩) hqb.out (VD.toExt HVQ.out ⟨_, rfl⟩) hrl9 (HVW.out.toExt ⟨_, rfl⟩)) HSB.out)))
        refine wpQuiet_nil ?_
        rintro _ ⟨zz, rfl⟩
        go_wp2_with fail
        go_ret
        exact ⟨rfl, trans_ext HX.out (trans_ext hy ⟨zz, rfl⟩)⟩

theorem law_BI (A : Option Addr) (c : Nat) (bs : List UInt8) (w : World) (hl : bs.length ≤ 9223372036854775807) (h1 : RU w A bs) : Calls Try.prog 12 #[.slice A bs.length c] w fun e w' => e = .returned (.bool true) ∧ ∃ y, w' = ext w y := by
  by_cases hb : 1048576 < bs.length
  · exact law_BI_big A c bs w hb hl
  · exact law_BI_m A c bs w (by omega) h1

set_option maxRecDepth 100000 in
theorem lifted_FnBindings (os : Os) (started : os.Started) (H : Type) (enc : TypeId × Value → H) :
    ReturnsInHanded {} Try.checked os 12 .any (Rows.fnBindingsSpec.pre6 enc Try.prog Try.f12 Rows.fnBindingsRow.domain false) (Rows.fnBindingsSpec.post enc Try.prog Try.f12 false true false false) := by
  refine returnsInHanded_of_change (C := Try.checked) Try.own started (by kernel_rfl) Try.func12 (ChangeSpec.witness6 (enc := enc) (C := Try.checked) false ⟨#[], #[.slice none 0 0], []⟩ 8 (by kernel_rfl) (by kernel_rfl) (by kernel_rfl) (by kernel_rfl)) ?_
  intro W base args ds gs before hval0 hW hcnd _
  have hval : ∀ (j : Nat) t v, Try.f12.params[j]? = some t → args[j]? = some v → Value.okWide Try.prog W .any base t v := hval0
  clear hval0 hcnd
  obtain ⟨_, _, hA0, hV0, _, _, _⟩ := id hW
  have hA : DataW.TrodAll enc Try.prog W 0 (fun _ => true) true Try.f12.params.toList args.toList ds _ := hA0
  clear hA0
  rw [Try.params12] at hA hval
  obtain ⟨v0, d0, rfl, rfl, h0⟩ := trodAll_one hA
  obtain ⟨x0, ⟨A0, c0, hc0, r0⟩, l0, _⟩ := openArg oBytes h0
  obtain rfl := one1 hc0 (okWide_slice Try.underlying62 (hval 0 _ v0 rfl rfl))
  refine (law_BI A0 _ x0 W (le_maxLen l0) r0).mono fun e W' ⟨he, hw⟩ => ?_
  exact ⟨_, he, law_post Try.laidOut hW rfl rfl rfl Try.underlying4 (by kernel_rfl) hw⟩

theorem fnBindings_and {a b : Bool} (ha : a = true) (hb : b = true) : (a && b) = true := by rw [ha, hb]; rfl
set_option maxHeartbeats 16000000 in
theorem fnBindings_closed : joinedFacts Try.checked.prog 12 Try.f12 Rows.fnBindingsSpec Rows.fnBindingsRow = true := by
  unfold joinedFacts
  repeat' (with_reducible refine fnBindings_and ?_ ?_)
  all_goals (as_aux_lemma => kernel_rfl)
theorem fnBindings_holds : Rows.FnBindingsSaid :=
  OpenClaim.holds_of_wide 12 Try.f12 rfl rfl rfl rfl rfl rfl rfl ⟨rfl, rfl, rfl, rfl, rfl⟩ rfl rfl rfl rfl rfl (by kernel_rfl) Try.func12 fnBindings_closed
    (of_decide_eq_true (by kernel_rfl)) (by unfold Func.isWrapper; rw [if_neg (of_decide_eq_false (by kernel_rfl))]; exact ⟨rfl, rfl⟩)
    (fun os started H enc _ => lifted_FnBindings os started H enc)

end Go.Proofs.Ytfigcfajkilhiaa
