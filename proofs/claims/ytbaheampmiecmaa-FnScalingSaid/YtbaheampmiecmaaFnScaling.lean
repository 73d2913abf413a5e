/- Weights drawn from any bytes: scaled the same way twice, and what is scaled is what was drawn. -/
import Derived.Test.YtbaheampmiecmaaFnScal1
import Derived.Test.YtbaheampmiecmaaDraw3
import Derived.Test.YtbaheampmiecmaaScalePl
import Derived.Test.YtbaheampmiecmaaScale
import Derived.Test.YtbaheampmiecmaaRatSum
namespace Go.Proofs.Ytbaheampmiecmaa
open Go.ChangeShapes Go.WideShapes Go.ChangeAt Go.RowKit

set_option maxHeartbeats 2000000 in
theorem law_Scaling_big (A : Option Addr) (c : Nat) (bs : List UInt8) (w : World) (hb : 1048576 < bs.length) (hl : bs.length ≤ 9223372036854775807) : Calls Try.prog 3 #[.slice A bs.length c] w fun e w' => e = .returned (.bool true) ∧ ∃ y, w' = ext w y := by
  go_enter Try.func3, Try.ntmps3
  go_wp2_with fail
  refine (lawBig_any hl).mono ?_
  rintro e w1 ⟨rfl, hx1⟩
  rw [decide_eq_true hb]
  go_wp2_with fail
  go_ret
  exact ⟨rfl, hx1⟩

set_option maxHeartbeats 4000000 in
theorem law_Scaling_m (A : Option Addr) (c : Nat) (bs : List UInt8) (w : World) (hb : bs.length ≤ 1048576) (h1 : RU w A bs) : Calls Try.prog 3 #[.slice A bs.length c] w fun e w' => e = .returned (.bool true) ∧ ∃ y, w' = ext w y := by
  go_enter Try.func3, Try.ntmps3
  go_wp2_with fail
  refine (lawBig_any (by omega)).mono ?_
  rintro e w1 ⟨rfl, hx1⟩
  rw [decide_eq_false (show ¬ 1048576 < bs.length by omega)]
  go_wp2_with fail
  refine (DrawScaleToIntegers_any hb (h1.toExt hx1)).mono ?_
  rintro e w2 ⟨v, F, ds, rfl, hx2, hS, hF, hl⟩
  obtain ⟨A1, c1, rfl, _, _, r1⟩ := hS.view sR_v
  clear hS hF
  obtain ⟨f1, f2, f3, f4⟩ := scaleR_facts ds
  have fb := scaleR_bd ds
  go_wp2_with fail
  refine (ScaleToIntegers_any (by omega) r1).mono ?_
  rintro e w3 ⟨v3, F3, rfl, hx3, hS3, hF3⟩
  obtain ⟨A3, c3, rfl, _, _, r3⟩ := hS3.view sI_v
  go_wp2_with fail
  refine (specScaleToIntegers_any (by omega) (r1.toExt hx3)).mono ?_
  rintro e w4 ⟨v4, F4, rfl, hx4, hS4, hF4⟩
  obtain ⟨A4, c4, rfl, _, _, r4⟩ := hS4.view sI_v
  clear hS3 hF3 hS4 hF4
  have hL : (scaleR ds).1.length ≤ 4 := Nat.le_trans (scaleR_length ds) hl
  generalize (scaleR ds).1 = L at *
  generalize (scaleR ds).2 = D at *
  have q1 : (D != D) = false := by simp
  go_wp2_with fail
  refine (lawSameInts_any (by omega) (r3.toExt hx4) (by omega) r4).mono ?_
  rintro e w5 ⟨rfl, hx5⟩
  rw [decide_eq_true rfl]
  have xW : ∃ y, w5 = ext w y := trans_ext (trans_ext (trans_ext (trans_ext hx1 hx2) hx3) hx4) hx5
  have r1' := r1.toExt (trans_ext (trans_ext hx3 hx4) hx5)
  have r3' := r3.toExt (trans_ext hx4 hx5)
  clear hx1 hx2 hx3 hx4 hx5 r1 r3 r4 h1
  have FB := Lib.hid fb
  have F3 := Lib.hid f3
  have F4 := Lib.hid f4
  clear fb f3 f4
  go_wp2_with fail
  go_loopw [8] (fun i wr => ∃ k : Nat, i = .int .i64 k ∧ k ≤ ds.length ∧ ∃ y, wr = ext w5 y) (fun i _ => ds.length - (intOf i).toNat)
  case atStart => exact ⟨0, rfl, by omega, refl_ext w5⟩
  case round =>
    obtain ⟨k, rfl, hk, hy⟩ := hrel
    by_cases hgo : k < ds.length ∧ 0 < D
    · obtain ⟨hlt, hD⟩ := hgo
      obtain ⟨hLl, hN⟩ := F3.out hD
      have hn := hN k hlt
      have hkL : k < L.length := by omega
      rw [List.getD_eq_getElem?_getD, List.getElem?_eq_getElem hkL] at hn
      have Hn := Lib.hid (show newR L[k] D = some ds[k] from hn)
      have hbd := FB.out k
      rw [List.getD_eq_getElem?_getD, List.getElem?_eq_getElem hkL] at hbd
      obtain ⟨p1, p2⟩ := (show 0 ≤ L[k] ∧ L[k] ≤ 1000000000000 from hbd)
      obtain ⟨b, o, rfl, hb1, hc1⟩ := (r3'.toExt hy).atI hkL
      obtain ⟨b', o', rfl, hb2, hc2, hd2⟩ := (r1'.toExt hy).atR hlt
      clear hLl hN hn hbd
      go_wp2_with fail
      refine (NewRational_any (by omega) (by omega) (by omega) (by omega)).mono ?_
      rintro e w6 ⟨rfl, hx6⟩
      rw [Hn.out]
      have qa : (ds[k].1 != ds[k].1) = false := by simp
      have qb : (ds[k].2 != ds[k].2) = false := by simp
      have e2 := cellY hx6 hb2 hc2
      have e3 := cellY hx6 hb2 hd2
      have e4 := ltY hx6 hb2
      go_wp2_with fail
      refine wp_region_ext (by kernel_rfl) (by kernel_rfl) ?_
      repeat (go_big_quiet_step (fail))
      refine wpQuiet_nil ?_
      rintro _ ⟨z, rfl⟩
      go_wp2_with fail
      exact ⟨⟨k + 1, by go_num, by omega, trans_ext (trans_ext (trans_ext hy hx6) (alloc_ext _ _)) ⟨z, rfl⟩⟩, by simp [intOf]; omega⟩
    · by_cases hD : 0 < D
      · have hge : ¬ k < ds.length := fun h => hgo ⟨h, hD⟩
        go_wp2_with fail
        all_goals
          refine (SumRationals_any (by omega) (r1'.toExt hy)).mono ?_
          rintro e w6 ⟨rfl, hx6⟩
          have B6 := BoxAt.new w6 #[.int .i64 ((sumR (0, 1) ds).getD (0, 0)).1, .int .i64 ((sumR (0, 1) ds).getD (0, 0)).2] 31
          go_wp2_with fail
          refine (specSumRationals_any (by omega) (r1'.toExt (trans_ext hy (trans_ext hx6 (alloc_ext _ _))))).mono ?_
          rintro e w7 ⟨rfl, hx7⟩
          obtain ⟨_, l6, b6, b6', f6⟩ := box2 (B6.toExt hx7)
          have x7 := trans_ext (trans_ext (trans_ext (trans_ext xW hy) hx6) (alloc_ext _ _)) hx7
          go_wp2_with fail
          go_ret
          exact ⟨rfl, trans_ext x7 (alloc_ext _ _)⟩
      · obtain rfl := F4.out (by omega)
        go_wp2_with fail
        all_goals
          refine (SumRationals_any (by omega) (r1'.toExt hy)).mono ?_
          rintro e w6 ⟨rfl, hx6⟩
          have B6 := BoxAt.new w6 #[.int .i64 ((sumR (0, 1) ds).getD (0, 0)).1, .int .i64 ((sumR (0, 1) ds).getD (0, 0)).2] 31
          go_wp2_with fail
          refine (specSumRationals_any (by omega) (r1'.toExt (trans_ext hy (trans_ext hx6 (alloc_ext _ _))))).mono ?_
          rintro e w7 ⟨rfl, hx7⟩
          obtain ⟨_, l6, b6, b6', f6⟩ := box2 (B6.toExt hx7)
          have x7 := trans_ext (trans_ext (trans_ext (trans_ext xW hy) hx6) (alloc_ext _ _)) hx7
          go_wp2_with fail
          go_ret
          exact ⟨rfl, trans_ext x7 (alloc_ext _ _)⟩

theorem law_Scaling (A : Option Addr) (c : Nat) (bs : List UInt8) (w : World) (hl : bs.length ≤ 9223372036854775807) (h1 : RU w A bs) : Calls Try.prog 3 #[.slice A bs.length c] w fun e w' => e = .returned (.bool true) ∧ ∃ y, w' = ext w y := by
  by_cases hb : 1048576 < bs.length
  · exact law_Scaling_big A c bs w hb hl
  · exact law_Scaling_m A c bs w (by omega) h1

set_option maxRecDepth 100000 in
theorem lifted_FnScaling (os : Os) (started : os.Started) (H : Type) (enc : TypeId × Value → H) :
    ReturnsInHanded {} Try.checked os 3 .any (Rows.fnScalingSpec.pre6 enc Try.prog Try.f3 Rows.fnScalingRow.domain false) (Rows.fnScalingSpec.post enc Try.prog Try.f3 false true false false) := by
  refine returnsInHanded_of_change (C := Try.checked) Try.own started (by kernel_rfl) Try.func3 (ChangeSpec.witness6 (enc := enc) (C := Try.checked) false ⟨#[], #[.slice none 0 0], []⟩ 8 (by kernel_rfl) (by kernel_rfl) (by kernel_rfl) (by kernel_rfl)) ?_
  intro W base args ds gs before hval0 hW hcnd _
  have hval : ∀ (j : Nat) t v, Try.f3.params[j]? = some t → args[j]? = some v → Value.okWide Try.prog W .any base t v := hval0
  clear hval0 hcnd
  obtain ⟨_, _, hA0, hV0, _, _, _⟩ := id hW
  have hA : DataW.TrodAll enc Try.prog W 0 (fun _ => true) true Try.f3.params.toList args.toList ds _ := hA0
  clear hA0
  rw [Try.params3] at hA hval
  obtain ⟨v0, d0, rfl, rfl, h0⟩ := trodAll_one hA
  obtain ⟨x0, ⟨A0, c0, hc0, r0⟩, l0, _⟩ := openArg oBytes h0
  obtain rfl := one1 hc0 (okWide_slice Try.underlying22 (hval 0 _ v0 rfl rfl))
  refine (law_Scaling A0 _ x0 W (le_maxLen l0) r0).mono fun e W' ⟨he, hw⟩ => ?_
  exact ⟨_, he, law_post Try.laidOut hW rfl rfl rfl Try.underlying4 (by kernel_rfl) hw⟩

theorem fnScaling_holds : Rows.FnScalingSaid :=
  OpenClaim.holds_of_wide 3 Try.f3 rfl rfl rfl rfl rfl rfl rfl ⟨rfl, rfl, rfl, rfl, rfl⟩ rfl rfl rfl rfl rfl (by kernel_rfl) Try.func3 (by kernel_rfl)
    (of_decide_eq_true (by kernel_rfl)) (by unfold Func.isWrapper; rw [if_neg (of_decide_eq_false (by kernel_rfl))]; exact ⟨rfl, rfl⟩)
    (fun os started H enc _ => lifted_FnScaling os started H enc)

end Go.Proofs.Ytbaheampmiecmaa
