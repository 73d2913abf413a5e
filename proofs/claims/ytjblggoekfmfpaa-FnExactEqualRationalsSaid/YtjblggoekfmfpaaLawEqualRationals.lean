/- For all arguments the program's EqualRationals and the reference's give the same, the arguments are left alone, and what is handed back shares no memory with them. -/
import Derived.Test.YtjblggoekfmfpaaTypes
import Derived.Test.YtjblggoekfmfpaaRats
namespace Go.Proofs.Ytjblggoekfmfpaa
open Go.ChangeShapes Go.WideShapes Go.ChangeAt Go.RowKit

set_option maxHeartbeats 2000000 in
theorem law_EqualRationals_z0 (A0 : Option Addr) (c0 : Nat) (x0 : List (Int × Int)) (A1 : Option Addr) (c1 : Nat) (x1 : List (Int × Int)) (w : World) (l0 : x0.length ≤ 9223372036854775807) (hz0 : szL (1048576) x0.length < 0) : Calls Try.prog 4 #[.slice A0 x0.length c0, .slice A1 x1.length c1] w fun e w' => e = .returned (.bool true) ∧ ∃ y, w' = ext w y := by
  go_enter Try.func4, Try.ntmps4
  go_wp2_with fail
  refine (szRationalS_any l0 (by omega) (by omega)).mono ?_
  rintro e w1 ⟨rfl, hx1⟩
  go_wp2_with fail
  go_ret
  exact ⟨rfl, hx1⟩

set_option maxHeartbeats 2000000 in
theorem law_EqualRationals_z1 (A0 : Option Addr) (c0 : Nat) (x0 : List (Int × Int)) (A1 : Option Addr) (c1 : Nat) (x1 : List (Int × Int)) (w : World) (l0 : x0.length ≤ 9223372036854775807) (l1 : x1.length ≤ 9223372036854775807) (hz0 : 0 ≤ szL (1048576) x0.length) (hy0 : szL (1048576) x0.length ≤ 1048576) (hz1 : szL (szL (1048576) x0.length) x1.length < 0) : Calls Try.prog 4 #[.slice A0 x0.length c0, .slice A1 x1.length c1] w fun e w' => e = .returned (.bool true) ∧ ∃ y, w' = ext w y := by
  go_enter Try.func4, Try.ntmps4
  go_wp2_with fail
  refine (szRationalS_any l0 (by omega) (by omega)).mono ?_
  rintro e w1 ⟨rfl, hx1⟩
  go_wp2_with fail
  refine (szRationalS_any l1 (by omega) (by omega)).mono ?_
  rintro e w2 ⟨rfl, hx2⟩
  go_wp2_with fail
  go_ret
  exact ⟨rfl, (trans_ext hx1 hx2)⟩

set_option maxHeartbeats 2000000 in
theorem law_EqualRationals_m (A0 : Option Addr) (c0 : Nat) (x0 : List (Int × Int)) (A1 : Option Addr) (c1 : Nat) (x1 : List (Int × Int)) (w : World) (l0 : x0.length ≤ 9223372036854775807) (r0 : RR w A0 x0) (l1 : x1.length ≤ 9223372036854775807) (r1 : RR w A1 x1) (hz0 : 0 ≤ szL (1048576) x0.length) (hy0 : szL (1048576) x0.length ≤ 1048576) (hz1 : 0 ≤ szL (szL (1048576) x0.length) x1.length) (hy1 : szL (szL (1048576) x0.length) x1.length ≤ 1048576) (s0 : x0.length ≤ 1048576) (s1 : x1.length ≤ 1048576) : Calls Try.prog 4 #[.slice A0 x0.length c0, .slice A1 x1.length c1] w fun e w' => e = .returned (.bool true) ∧ ∃ y, w' = ext w y := by
  go_enter Try.func4, Try.ntmps4
  go_wp2_with fail
  refine (szRationalS_any l0 (by omega) (by omega)).mono ?_
  rintro e w1 ⟨rfl, hx1⟩
  go_wp2_with fail
  refine (szRationalS_any l1 (by omega) (by omega)).mono ?_
  rintro e w2 ⟨rfl, hx2⟩
  go_wp2_with fail
  refine (toRationalS_any s0 (r0.toExt (trans_ext hx1 hx2))).mono ?_
  rintro e w3 ⟨v3, F3, rfl, hx3, hS3, hF3⟩
  obtain ⟨A3, c3, rfl, _, _, r3⟩ := hS3.view sR_v
  go_wp2_with fail
  refine (toRationalS_any s1 (r1.toExt (trans_ext (trans_ext hx1 hx2) hx3))).mono ?_
  rintro e w4 ⟨v4, F4, rfl, hx4, hS4, hF4⟩
  obtain ⟨A4, c4, rfl, _, _, r4⟩ := hS4.view sR_v
  go_wp2_with fail
  refine (specEqualRationals_any (by omega) (r3.toExt hx4) (by omega) r4).mono ?_
  rintro e w5 ⟨rfl, hx5⟩
  go_wp2_with fail
  refine (toRationalS_any s0 (r0.toExt (trans_ext (trans_ext (trans_ext (trans_ext hx1 hx2) hx3) hx4) hx5))).mono ?_
  rintro e w6 ⟨v6, F6, rfl, hx6, hS6, hF6⟩
  obtain ⟨A6, c6, rfl, _, _, r6⟩ := hS6.view sR_v
  go_wp2_with fail
  refine (toRationalS_any s1 (r1.toExt (trans_ext (trans_ext (trans_ext (trans_ext (trans_ext hx1 hx2) hx3) hx4) hx5) hx6))).mono ?_
  rintro e w7 ⟨v7, F7, rfl, hx7, hS7, hF7⟩
  obtain ⟨A7, c7, rfl, _, _, r7⟩ := hS7.view sR_v
  go_wp2_with fail
  refine (EqualRationals_any (by omega) (r6.toExt hx7) (by omega) r7).mono ?_
  rintro e w8 ⟨rfl, hx8⟩
  go_wp2_with fail
  refine (toRationalS_any s0 (r0.toExt (trans_ext (trans_ext (trans_ext (trans_ext (trans_ext (trans_ext (trans_ext hx1 hx2) hx3) hx4) hx5) hx6) hx7) hx8))).mono ?_
  rintro e w9 ⟨v9, F9, rfl, hx9, hS9, hF9⟩
  obtain ⟨A9, c9, rfl, _, _, r9⟩ := hS9.view sR_v
  go_wp2_with fail
  refine (eqRationalS_any (by omega) (r6.toExt (trans_ext (trans_ext hx7 hx8) hx9)) (by omega) r9).mono ?_
  rintro e w10 ⟨rfl, hx10⟩
  go_wp2_with fail
  refine (toRationalS_any s1 (r1.toExt (trans_ext (trans_ext (trans_ext (trans_ext (trans_ext (trans_ext (trans_ext (trans_ext (trans_ext hx1 hx2) hx3) hx4) hx5) hx6) hx7) hx8) hx9) hx10))).mono ?_
  rintro e w11 ⟨v11, F11, rfl, hx11, hS11, hF11⟩
  obtain ⟨A11, c11, rfl, _, _, r11⟩ := hS11.view sR_v
  go_wp2_with fail
  refine (eqRationalS_any (by omega) (r7.toExt (trans_ext (trans_ext (trans_ext hx8 hx9) hx10) hx11)) (by omega) r11).mono ?_
  rintro e w12 ⟨rfl, hx12⟩
  go_wp2
  go_ret
  exact ⟨rfl, (trans_ext (trans_ext (trans_ext (trans_ext (trans_ext (trans_ext (trans_ext (trans_ext (trans_ext (trans_ext (trans_ext hx1 hx2) hx3) hx4) hx5) hx6) hx7) hx8) hx9) hx10) hx11) hx12)⟩

theorem law_EqualRationals (A0 : Option Addr) (c0 : Nat) (x0 : List (Int × Int)) (A1 : Option Addr) (c1 : Nat) (x1 : List (Int × Int)) (w : World) (l0 : x0.length ≤ 9223372036854775807) (r0 : RR w A0 x0) (l1 : x1.length ≤ 9223372036854775807) (r1 : RR w A1 x1) : Calls Try.prog 4 #[.slice A0 x0.length c0, .slice A1 x1.length c1] w fun e w' => e = .returned (.bool true) ∧ ∃ y, w' = ext w y := by
  by_cases hz0 : 0 ≤ szL (1048576) x0.length
  · have hy0 : szL (1048576) x0.length ≤ 1048576 := szL_le hz0
    by_cases hz1 : 0 ≤ szL (szL (1048576) x0.length) x1.length
    · have hy1 : szL (szL (1048576) x0.length) x1.length ≤ 1048576 := Int.le_trans (szL_le hz1) hy0
      have q0 := szL_small hz0
      have q1 := szL_small hz1
      exact law_EqualRationals_m _ _ _ _ _ _ w l0 r0 l1 r1 hz0 hy0 hz1 hy1 (by omega) (by omega)
    · exact law_EqualRationals_z1 _ _ _ _ _ _ w l0 l1 hz0 hy0 (by omega)
  · exact law_EqualRationals_z0 _ _ _ _ _ _ w l0 (by omega)

set_option maxRecDepth 100000 in
theorem lifted_FnExactEqualRationals (os : Os) (started : os.Started) (H : Type) (enc : TypeId × Value → H) :
    ReturnsInHanded {} Try.checked os 4 .any (Rows.fnExactEqualRationalsSpec.pre6 enc Try.prog Try.f4 Rows.fnExactEqualRationalsRow.domain false) (Rows.fnExactEqualRationalsSpec.post enc Try.prog Try.f4 false true false false) := by
  refine returnsInHanded_of_change (C := Try.checked) Try.own started (by kernel_rfl) Try.func4 (ChangeSpec.witness6 (enc := enc) (C := Try.checked) false ⟨#[], #[.slice none 0 0, .slice none 0 0], []⟩ 8 (by kernel_rfl) (by kernel_rfl) (by kernel_rfl) (by kernel_rfl)) ?_
  intro W base args ds gs before hval0 hW hcnd _
  have hval : ∀ (j : Nat) t v, Try.f4.params[j]? = some t → args[j]? = some v → Value.okWide Try.prog W .any base t v := hval0
  clear hval0 hcnd
  obtain ⟨_, _, hA0, hV0, _, _, _⟩ := id hW
  have hA : DataW.TrodAll enc Try.prog W 0 (fun _ => true) true Try.f4.params.toList args.toList ds _ := hA0
  clear hA0
  rw [Try.params4] at hA hval
  obtain ⟨v0, v1, d0, d1, p0, p1, rfl, rfl, e9, h0, h1⟩ := trodAll_two hA
  obtain ⟨x0, ⟨A0, c0, hc0, r0⟩, l0, _⟩ := openArg oRats h0
  obtain rfl := one1 hc0 (okWide_slice Try.underlying24 (hval 0 _ v0 rfl rfl))
  obtain ⟨x1, ⟨A1, c1, hc1, r1⟩, l1, _⟩ := openArg oRats h1
  obtain rfl := one1 hc1 (okWide_slice Try.underlying24 (hval 1 _ v1 rfl rfl))
  refine (law_EqualRationals A0 c0 x0 A1 c1 x1 W (le_maxLen l0) r0 (le_maxLen l1) r1).mono fun e W' ⟨he, hw⟩ => ?_
  exact ⟨_, he, law_post Try.laidOut hW rfl rfl rfl Try.underlying4 (by kernel_rfl) hw⟩

theorem fnExactEqualRationals_holds : Rows.FnExactEqualRationalsSaid :=
  OpenClaim.holds_of_wide 4 Try.f4 rfl rfl rfl rfl rfl rfl rfl ⟨rfl, rfl, rfl, rfl, rfl⟩ rfl rfl rfl rfl rfl (by kernel_rfl) Try.func4 (by kernel_rfl)
    (of_decide_eq_true (by kernel_rfl)) (by unfold Func.isWrapper; rw [if_neg (of_decide_eq_false (by kernel_rfl))]; exact ⟨rfl, rfl⟩)
    (fun os started H enc _ => lifted_FnExactEqualRationals os started H enc)

end Go.Proofs.Ytjblggoekfmfpaa
