/- For all arguments the program's FormatRationals and the reference's give the same, the arguments are left alone, and what is handed back shares no memory with them. -/
import Derived.Test.YtnchebfemacebaaTypes
import Derived.Test.YtnchebfemacebaaRats
import Derived.Test.YtnchebfemacebaaRatTexts
namespace Go.Proofs.Ytnchebfemacebaa
open Go.ChangeShapes Go.WideShapes Go.ChangeAt Go.RowKit

set_option maxHeartbeats 2000000 in
theorem law_FormatRationals_z0 (A0 : Option Addr) (c0 : Nat) (x0 : List (Int × Int)) (w : World) (l0 : x0.length ≤ 9223372036854775807) (hz0 : szL (1048576) x0.length < 0) : Calls Try.prog 5 #[.slice A0 x0.length c0] w fun e w' => e = .returned (.bool true) ∧ ∃ y, w' = ext w y := by
  go_enter Try.func5, Try.ntmps5
  go_wp2_with fail
  refine (szRationalS_any l0 (by omega) (by omega)).mono ?_
  rintro e w1 ⟨rfl, hx1⟩
  go_wp2_with fail
  go_ret
  exact ⟨rfl, hx1⟩

set_option maxHeartbeats 2000000 in
theorem law_FormatRationals_m (A0 : Option Addr) (c0 : Nat) (x0 : List (Int × Int)) (w : World) (l0 : x0.length ≤ 9223372036854775807) (r0 : RR w A0 x0) (hz0 : 0 ≤ szL (1048576) x0.length) (hy0 : szL (1048576) x0.length ≤ 1048576) (s0 : x0.length ≤ 1048576) : Calls Try.prog 5 #[.slice A0 x0.length c0] w fun e w' => e = .returned (.bool true) ∧ ∃ y, w' = ext w y := by
  go_enter Try.func5, Try.ntmps5
  go_wp2_with fail
  refine (szRationalS_any l0 (by omega) (by omega)).mono ?_
  rintro e w1 ⟨rfl, hx1⟩
  go_wp2_with fail
  refine (toRationalS_any s0 (r0.toExt hx1)).mono ?_
  rintro e w2 ⟨v2, F2, rfl, hx2, hS2, hF2⟩
  obtain ⟨A2, c2, rfl, _, _, r2⟩ := hS2.view sR_v
  go_wp2_with fail
  refine (specFormatRationals_any (by omega) r2).mono ?_
  rintro e w3 ⟨rfl, hx3⟩
  go_wp2_with fail
  refine (toRationalS_any s0 (r0.toExt (trans_ext (trans_ext hx1 hx2) hx3))).mono ?_
  rintro e w4 ⟨v4, F4, rfl, hx4, hS4, hF4⟩
  obtain ⟨A4, c4, rfl, _, _, r4⟩ := hS4.view sR_v
  go_wp2_with fail
  refine (FormatRationals_any (by omega) r4).mono ?_
  rintro e w5 ⟨rfl, hx5⟩
  go_wp2_with fail
  refine (toRationalS_any s0 (r0.toExt (trans_ext (trans_ext (trans_ext (trans_ext hx1 hx2) hx3) hx4) hx5))).mono ?_
  rintro e w6 ⟨v6, F6, rfl, hx6, hS6, hF6⟩
  obtain ⟨A6, c6, rfl, _, _, r6⟩ := hS6.view sR_v
  go_wp2_with fail
  refine (eqRationalS_any (by omega) (r4.toExt (trans_ext hx5 hx6)) (by omega) r6).mono ?_
  rintro e w7 ⟨rfl, hx7⟩
  go_wp2
  go_ret
  exact ⟨rfl, (trans_ext (trans_ext (trans_ext (trans_ext (trans_ext (trans_ext hx1 hx2) hx3) hx4) hx5) hx6) hx7)⟩

theorem law_FormatRationals (A0 : Option Addr) (c0 : Nat) (x0 : List (Int × Int)) (w : World) (l0 : x0.length ≤ 9223372036854775807) (r0 : RR w A0 x0) : Calls Try.prog 5 #[.slice A0 x0.length c0] w fun e w' => e = .returned (.bool true) ∧ ∃ y, w' = ext w y := by
  by_cases hz0 : 0 ≤ szL (1048576) x0.length
  · have hy0 : szL (1048576) x0.length ≤ 1048576 := szL_le hz0
    have q0 := szL_small hz0
    exact law_FormatRationals_m _ _ _ w l0 r0 hz0 hy0 (by omega)
  · exact law_FormatRationals_z0 _ _ _ w l0 (by omega)

set_option maxRecDepth 100000 in
theorem lifted_FnExactFormatRationals (os : Os) (started : os.Started) (H : Type) (enc : TypeId × Value → H) :
    ReturnsInHanded {} Try.checked os 5 .any (Rows.fnExactFormatRationalsSpec.pre6 enc Try.prog Try.f5 Rows.fnExactFormatRationalsRow.domain false) (Rows.fnExactFormatRationalsSpec.post enc Try.prog Try.f5 false true false false) := by
  refine returnsInHanded_of_change (C := Try.checked) Try.own started (by kernel_rfl) Try.func5 (ChangeSpec.witness6 (enc := enc) (C := Try.checked) false ⟨#[], #[.slice none 0 0], []⟩ 8 (by kernel_rfl) (by kernel_rfl) (by kernel_rfl) (by kernel_rfl)) ?_
  intro W base args ds gs before hval0 hW hcnd _
  have hval : ∀ (j : Nat) t v, Try.f5.params[j]? = some t → args[j]? = some v → Value.okWide Try.prog W .any base t v := hval0
  clear hval0 hcnd
  obtain ⟨_, _, hA0, hV0, _, _, _⟩ := id hW
  have hA : DataW.TrodAll enc Try.prog W 0 (fun _ => true) true Try.f5.params.toList args.toList ds _ := hA0
  clear hA0
  rw [Try.params5] at hA hval
  obtain ⟨v0, d0, rfl, rfl, h0⟩ := trodAll_one hA
  obtain ⟨x0, ⟨A0, c0, hc0, r0⟩, l0, _⟩ := openArg oRats h0
  obtain rfl := one1 hc0 (okWide_slice Try.underlying22 (hval 0 _ v0 rfl rfl))
  refine (law_FormatRationals A0 c0 x0 W (le_maxLen l0) r0).mono fun e W' ⟨he, hw⟩ => ?_
  exact ⟨_, he, law_post Try.laidOut hW rfl rfl rfl Try.underlying4 (by kernel_rfl) hw⟩

theorem fnExactFormatRationals_holds : Rows.FnExactFormatRationalsSaid :=
  OpenClaim.holds_of_wide 5 Try.f5 rfl rfl rfl rfl rfl rfl rfl ⟨rfl, rfl, rfl, rfl, rfl⟩ rfl rfl rfl rfl rfl (by kernel_rfl) Try.func5 (by kernel_rfl)
    (of_decide_eq_true (by kernel_rfl)) (by unfold Func.isWrapper; rw [if_neg (of_decide_eq_false (by kernel_rfl))]; exact ⟨rfl, rfl⟩)
    (fun os started H enc _ => lifted_FnExactFormatRationals os started H enc)

end Go.Proofs.Ytnchebfemacebaa
