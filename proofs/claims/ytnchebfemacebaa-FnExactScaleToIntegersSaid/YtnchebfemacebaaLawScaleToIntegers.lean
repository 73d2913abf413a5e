/- For all arguments the program's ScaleToIntegers and the reference's give the same, the arguments are left alone, and what is handed back shares no memory with them. -/
import Derived.Test.YtnchebfemacebaaTypes
import Derived.Test.YtnchebfemacebaaRats
import Derived.Test.YtnchebfemacebaaScale
import Derived.Test.YtnchebfemacebaaRatMarks
namespace Go.Proofs.Ytnchebfemacebaa
open Go.ChangeShapes Go.WideShapes Go.ChangeAt Go.RowKit

set_option maxHeartbeats 2000000 in
theorem law_ScaleToIntegers_z0 (A0 : Option Addr) (c0 : Nat) (x0 : List (Int × Int)) (w : World) (l0 : x0.length ≤ 9223372036854775807) (hz0 : szL (1048576) x0.length < 0) : Calls Try.prog 4 #[.slice A0 x0.length c0] w fun e w' => e = .returned (.bool true) ∧ ∃ y, w' = ext w y := by
  go_enter Try.func4, Try.ntmps4
  go_wp2_with fail
  refine (szRationalS_any l0 (by omega) (by omega)).mono ?_
  rintro e w1 ⟨rfl, hx1⟩
  go_wp2_with fail
  go_ret
  exact ⟨rfl, hx1⟩

set_option maxHeartbeats 2000000 in
theorem law_ScaleToIntegers_m (A0 : Option Addr) (c0 : Nat) (x0 : List (Int × Int)) (w : World) (l0 : x0.length ≤ 9223372036854775807) (r0 : RR w A0 x0) (hz0 : 0 ≤ szL (1048576) x0.length) (hy0 : szL (1048576) x0.length ≤ 1048576) (s0 : x0.length ≤ 1048576) : Calls Try.prog 4 #[.slice A0 x0.length c0] w fun e w' => e = .returned (.bool true) ∧ ∃ y, w' = ext w y := by
  have hb9 : (scaleR x0).1.length ≤ 1048576 := Nat.le_trans (scaleR_length x0) s0
  go_enter Try.func4, Try.ntmps4
  go_wp2_with fail
  refine (szRationalS_any l0 (by omega) (by omega)).mono ?_
  rintro e w1 ⟨rfl, hx1⟩
  go_wp2_with fail
  refine (toRationalS_any s0 (r0.toExt hx1)).mono ?_
  rintro e w2 ⟨v2, F2, rfl, hx2, hS2, hF2⟩
  obtain ⟨A2, c2, rfl, _, _, r2⟩ := hS2.view sR_v
  go_wp2_with fail
  refine (specScaleToIntegers_any (by omega) r2).mono ?_
  rintro e w3 ⟨v3, F3, rfl, hx3, hS3, hF3⟩
  obtain ⟨A3, c3, rfl, _, _, r3⟩ := hS3.view sI_v
  go_wp2_with fail
  refine (toRationalS_any s0 (r0.toExt (trans_ext (trans_ext hx1 hx2) hx3))).mono ?_
  rintro e w4 ⟨v4, F4, rfl, hx4, hS4, hF4⟩
  obtain ⟨A4, c4, rfl, _, _, r4⟩ := hS4.view sR_v
  go_wp2_with fail
  refine (ScaleToIntegers_any (by omega) r4).mono ?_
  rintro e w5 ⟨v5, F5, rfl, hx5, hS5, hF5⟩
  obtain ⟨A5, c5, rfl, _, _, r5⟩ := hS5.view sI_v
  go_wp2_with fail
  refine (eqIntS_any (by omega) r5 (by omega) (r3.toExt (trans_ext hx4 hx5))).mono ?_
  rintro e w6 ⟨rfl, hx6⟩
  go_wp2_with fail
  refine (toRationalS_any s0 (r0.toExt (trans_ext (trans_ext (trans_ext (trans_ext (trans_ext hx1 hx2) hx3) hx4) hx5) hx6))).mono ?_
  rintro e w7 ⟨v7, F7, rfl, hx7, hS7, hF7⟩
  obtain ⟨A7, c7, rfl, _, _, r7⟩ := hS7.view sR_v
  go_wp2_with fail
  refine (eqRationalS_any (by omega) (r4.toExt (trans_ext (trans_ext hx5 hx6) hx7)) (by omega) r7).mono ?_
  rintro e w8 ⟨rfl, hx8⟩
  go_wp2_with fail
  refine (markRationalS_any (by omega) ((((hS4.toExt hx5).toExt hx6).toExt hx7).toExt hx8) (by omega) (by omega)).mono ?_
  rintro e w9 ⟨rfl, hS9, hC9⟩
  go_wp2_with fail
  refine (eqIntS_any (by omega) (SV.toView ((((hS5.toExt hx6).toExt hx7).toExt hx8).chg hC9 (fun x ha hb => by have h1 := hF5 x ha; have h2 := hS4.lt x hb; have h3 := size_of_ext (refl_ext w4); omega)) sI_v) (by omega) (r3.toExt (hC9.isExt (trans_ext (trans_ext (trans_ext (trans_ext hx4 hx5) hx6) hx7) hx8) (fun b hb => Nat.le_trans (size_of_ext (refl_ext w3)) (hF4 b hb))))).mono ?_
  rintro e w10 ⟨rfl, hx10⟩
  go_wp2_with fail
  refine (markIntS_any (by omega) (((((hS5.toExt hx6).toExt hx7).toExt hx8).chg hC9 (fun x ha hb => by have h1 := hF5 x ha; have h2 := hS4.lt x hb; have h3 := size_of_ext (refl_ext w4); omega)).toExt hx10) (by omega) (by omega)).mono ?_
  rintro e w11 ⟨rfl, hS11, hC11⟩
  go_wp2_with fail
  refine (heldIntS_any (by omega) (SV.toView hS11 sI_v) (by omega) (by omega)).mono ?_
  rintro e w12 ⟨rfl, hx12⟩
  go_wp2_with fail
  refine (toRationalS_any s0 (r0.toExt (trans_ext (hC11.isExt (trans_ext (hC9.isExt (trans_ext (trans_ext (trans_ext (trans_ext (trans_ext (trans_ext (trans_ext hx1 hx2) hx3) hx4) hx5) hx6) hx7) hx8) (fun b hb => Nat.le_trans (size_of_ext (trans_ext (trans_ext hx1 hx2) hx3)) (hF4 b hb))) hx10) (fun b hb => Nat.le_trans (size_of_ext (trans_ext (trans_ext (trans_ext hx1 hx2) hx3) hx4)) (hF5 b hb))) hx12))).mono ?_
  rintro e w13 ⟨v13, F13, rfl, hx13, hS13, hF13⟩
  obtain ⟨A13, c13, rfl, _, _, r13⟩ := hS13.view sR_v
  go_wp2_with fail
  refine (ScaleToIntegers_any (by omega) r13).mono ?_
  rintro e w14 ⟨v14, F14, rfl, hx14, hS14, hF14⟩
  obtain ⟨A14, c14, rfl, _, _, r14⟩ := hS14.view sI_v
  go_wp2_with fail
  refine (eqIntS_any (by omega) r14 (by omega) (r3.toExt (trans_ext (trans_ext (trans_ext (hC11.isExt (trans_ext (hC9.isExt (trans_ext (trans_ext (trans_ext (trans_ext hx4 hx5) hx6) hx7) hx8) (fun b hb => Nat.le_trans (size_of_ext (refl_ext w3)) (hF4 b hb))) hx10) (fun b hb => Nat.le_trans (size_of_ext hx4) (hF5 b hb))) hx12) hx13) hx14))).mono ?_
  rintro e w15 ⟨rfl, hx15⟩
  go_wp2_with fail
  refine (heldIntS_any (by omega) (SV.toView ((((hS11.toExt hx12).toExt hx13).toExt hx14).toExt hx15) sI_v) (by omega) (by omega)).mono ?_
  rintro e w16 ⟨rfl, hx16⟩
  go_wp2
  go_ret
  exact ⟨rfl, (trans_ext (trans_ext (trans_ext (trans_ext (trans_ext (hC11.isExt (trans_ext (hC9.isExt (trans_ext (trans_ext (trans_ext (trans_ext (trans_ext (trans_ext (trans_ext hx1 hx2) hx3) hx4) hx5) hx6) hx7) hx8) (fun b hb => Nat.le_trans (size_of_ext (trans_ext (trans_ext hx1 hx2) hx3)) (hF4 b hb))) hx10) (fun b hb => Nat.le_trans (size_of_ext (trans_ext (trans_ext (trans_ext hx1 hx2) hx3) hx4)) (hF5 b hb))) hx12) hx13) hx14) hx15) hx16)⟩

theorem law_ScaleToIntegers (A0 : Option Addr) (c0 : Nat) (x0 : List (Int × Int)) (w : World) (l0 : x0.length ≤ 9223372036854775807) (r0 : RR w A0 x0) : Calls Try.prog 4 #[.slice A0 x0.length c0] w fun e w' => e = .returned (.bool true) ∧ ∃ y, w' = ext w y := by
  by_cases hz0 : 0 ≤ szL (1048576) x0.length
  · have hy0 : szL (1048576) x0.length ≤ 1048576 := szL_le hz0
    have q0 := szL_small hz0
    exact law_ScaleToIntegers_m _ _ _ w l0 r0 hz0 hy0 (by omega)
  · exact law_ScaleToIntegers_z0 _ _ _ w l0 (by omega)

set_option maxRecDepth 100000 in
theorem lifted_FnExactScaleToIntegers (os : Os) (started : os.Started) (H : Type) (enc : TypeId × Value → H) :
    ReturnsInHanded {} Try.checked os 4 .any (Rows.fnExactScaleToIntegersSpec.pre6 enc Try.prog Try.f4 Rows.fnExactScaleToIntegersRow.domain false) (Rows.fnExactScaleToIntegersSpec.post enc Try.prog Try.f4 false true false false) := by
  refine returnsInHanded_of_change (C := Try.checked) Try.own started (by kernel_rfl) Try.func4 (ChangeSpec.witness6 (enc := enc) (C := Try.checked) false ⟨#[], #[.slice none 0 0], []⟩ 8 (by kernel_rfl) (by kernel_rfl) (by kernel_rfl) (by kernel_rfl)) ?_
  intro W base args ds gs before hval0 hW hcnd _
  have hval : ∀ (j : Nat) t v, Try.f4.params[j]? = some t → args[j]? = some v → Value.okWide Try.prog W .any base t v := hval0
  clear hval0 hcnd
  obtain ⟨_, _, hA0, hV0, _, _, _⟩ := id hW
  have hA : DataW.TrodAll enc Try.prog W 0 (fun _ => true) true Try.f4.params.toList args.toList ds _ := hA0
  clear hA0
  rw [Try.params4] at hA hval
  obtain ⟨v0, d0, rfl, rfl, h0⟩ := trodAll_one hA
  obtain ⟨x0, ⟨A0, c0, hc0, r0⟩, l0, _⟩ := openArg oRats h0
  obtain rfl := one1 hc0 (okWide_slice Try.underlying22 (hval 0 _ v0 rfl rfl))
  refine (law_ScaleToIntegers A0 c0 x0 W (le_maxLen l0) r0).mono fun e W' ⟨he, hw⟩ => ?_
  exact ⟨_, he, law_post Try.laidOut hW rfl rfl rfl Try.underlying4 (by kernel_rfl) hw⟩

theorem fnExactScaleToIntegers_holds : Rows.FnExactScaleToIntegersSaid :=
  OpenClaim.holds_of_wide 4 Try.f4 rfl rfl rfl rfl rfl rfl rfl ⟨rfl, rfl, rfl, rfl, rfl⟩ rfl rfl rfl rfl rfl (by kernel_rfl) Try.func4 (by kernel_rfl)
    (of_decide_eq_true (by kernel_rfl)) (by unfold Func.isWrapper; rw [if_neg (of_decide_eq_false (by kernel_rfl))]; exact ⟨rfl, rfl⟩)
    (fun os started H enc _ => lifted_FnExactScaleToIntegers os started H enc)

end Go.Proofs.Ytnchebfemacebaa
