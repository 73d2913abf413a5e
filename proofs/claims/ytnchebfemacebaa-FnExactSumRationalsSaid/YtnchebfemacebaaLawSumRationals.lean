/- For all arguments the program's SumRationals and the reference's give the same, the arguments are left alone, and what is handed back shares no memory with them. -/
import Derived.Test.YtnchebfemacebaaTypes
import Derived.Test.YtnchebfemacebaaRats
import Derived.Test.YtnchebfemacebaaRatSum
namespace Go.Proofs.Ytnchebfemacebaa
open Go.ChangeShapes Go.WideShapes Go.ChangeAt Go.RowKit

set_option maxHeartbeats 2000000 in
theorem law_SumRationals_z0 (A0 : Option Addr) (c0 : Nat) (x0 : List (Int × Int)) (w : World) (l0 : x0.length ≤ 9223372036854775807) (hz0 : szL (1048576) x0.length < 0) : Calls Try.prog 3 #[.slice A0 x0.length c0] w fun e w' => e = .returned (.bool true) ∧ ∃ y, w' = ext w y := by
  go_enter Try.func3, Try.ntmps3
  go_wp2_with fail
  refine (szRationalS_any l0 (by omega) (by omega)).mono ?_
  rintro e w1 ⟨rfl, hx1⟩
  go_wp2_with fail
  go_ret
  exact ⟨rfl, hx1⟩

set_option maxHeartbeats 2000000 in
theorem law_SumRationals_m (A0 : Option Addr) (c0 : Nat) (x0 : List (Int × Int)) (w : World) (l0 : x0.length ≤ 9223372036854775807) (r0 : RR w A0 x0) (hz0 : 0 ≤ szL (1048576) x0.length) (hy0 : szL (1048576) x0.length ≤ 1048576) (s0 : x0.length ≤ 1048576) : Calls Try.prog 3 #[.slice A0 x0.length c0] w fun e w' => e = .returned (.bool true) ∧ ∃ y, w' = ext w y := by
  go_enter Try.func3, Try.ntmps3
  go_wp2_with fail
  refine (szRationalS_any l0 (by omega) (by omega)).mono ?_
  rintro e w1 ⟨rfl, hx1⟩
  go_wp2_with fail
  refine (toRationalS_any s0 (r0.toExt hx1)).mono ?_
  rintro e w2 ⟨v2, F2, rfl, hx2, hS2, hF2⟩
  obtain ⟨A2, c2, rfl, _, _, r2⟩ := hS2.view sR_v
  go_wp2_with fail
  refine (specSumRationals_any (by omega) r2).mono ?_
  rintro e w3 ⟨rfl, hx3⟩
  go_wp2_with fail
  refine (toRationalS_any s0 (r0.toExt (trans_ext (trans_ext (trans_ext hx1 hx2) hx3) (alloc_ext w3 (.cells #[.int .i64 ((sumR (0, 1) x0).getD (0, 0)).1, .int .i64 ((sumR (0, 1) x0).getD (0, 0)).2] 25))))).mono ?_
  rintro e w4 ⟨v4, F4, rfl, hx4, hS4, hF4⟩
  obtain ⟨A4, c4, rfl, _, _, r4⟩ := hS4.view sR_v
  have B4_0 : BoxAt w4 (w3.heap.size) #[.int .i64 ((sumR (0, 1) x0).getD (0, 0)).1, .int .i64 ((sumR (0, 1) x0).getD (0, 0)).2] := ((BoxAt.new _ _ _).toExt hx4)
  have lB4_0 := B4_0.1
  have bB4_0 := B4_0.2.1
  go_wp2_with fail
  refine (SumRationals_any (by omega) r4).mono ?_
  rintro e w5 ⟨rfl, hx5⟩
  have B5_0 : BoxAt w5 (w3.heap.size) #[.int .i64 ((sumR (0, 1) x0).getD (0, 0)).1, .int .i64 ((sumR (0, 1) x0).getD (0, 0)).2] := (B4_0.toExt hx5)
  have lB5_0 := B5_0.1
  have bB5_0 := B5_0.2.1
  clear lB4_0 bB4_0
  go_wp2_with fail
  refine (eqRational_any).mono ?_
  rintro e w6 ⟨rfl, hx6⟩
  have B6_0 : BoxAt w6 (w3.heap.size) #[.int .i64 ((sumR (0, 1) x0).getD (0, 0)).1, .int .i64 ((sumR (0, 1) x0).getD (0, 0)).2] := ((B5_0.toExt (alloc_ext w5 (.cells #[.int .i64 ((sumR (0, 1) x0).getD (0, 0)).1, .int .i64 ((sumR (0, 1) x0).getD (0, 0)).2] 25))).toExt hx6)
  have B6_1 : BoxAt w6 (w5.heap.size) #[.int .i64 ((sumR (0, 1) x0).getD (0, 0)).1, .int .i64 ((sumR (0, 1) x0).getD (0, 0)).2] := ((BoxAt.new _ _ _).toExt hx6)
  have lB6_0 := B6_0.1
  have bB6_0 := B6_0.2.1
  have lB6_1 := B6_1.1
  have bB6_1 := B6_1.2.1
  clear lB5_0 bB5_0
  go_wp2_with fail
  refine (toRationalS_any s0 (r0.toExt (trans_ext (trans_ext (trans_ext (trans_ext (trans_ext (trans_ext (trans_ext hx1 hx2) hx3) (alloc_ext w3 (.cells #[.int .i64 ((sumR (0, 1) x0).getD (0, 0)).1, .int .i64 ((sumR (0, 1) x0).getD (0, 0)).2] 25))) hx4) hx5) (alloc_ext w5 (.cells #[.int .i64 ((sumR (0, 1) x0).getD (0, 0)).1, .int .i64 ((sumR (0, 1) x0).getD (0, 0)).2] 25))) hx6))).mono ?_
  rintro e w7 ⟨v7, F7, rfl, hx7, hS7, hF7⟩
  obtain ⟨A7, c7, rfl, _, _, r7⟩ := hS7.view sR_v
  have B7_0 : BoxAt w7 (w3.heap.size) #[.int .i64 ((sumR (0, 1) x0).getD (0, 0)).1, .int .i64 ((sumR (0, 1) x0).getD (0, 0)).2] := (B6_0.toExt hx7)
  have B7_1 : BoxAt w7 (w5.heap.size) #[.int .i64 ((sumR (0, 1) x0).getD (0, 0)).1, .int .i64 ((sumR (0, 1) x0).getD (0, 0)).2] := (B6_1.toExt hx7)
  have lB7_0 := B7_0.1
  have bB7_0 := B7_0.2.1
  have lB7_1 := B7_1.1
  have bB7_1 := B7_1.2.1
  clear lB6_0 bB6_0 lB6_1 bB6_1
  go_wp2_with fail
  refine (eqRationalS_any (by omega) (r4.toExt (trans_ext (trans_ext (trans_ext hx5 (alloc_ext w5 (.cells #[.int .i64 ((sumR (0, 1) x0).getD (0, 0)).1, .int .i64 ((sumR (0, 1) x0).getD (0, 0)).2] 25))) hx6) hx7)) (by omega) r7).mono ?_
  rintro e w8 ⟨rfl, hx8⟩
  have B8_0 : BoxAt w8 (w3.heap.size) #[.int .i64 ((sumR (0, 1) x0).getD (0, 0)).1, .int .i64 ((sumR (0, 1) x0).getD (0, 0)).2] := (B7_0.toExt hx8)
  have B8_1 : BoxAt w8 (w5.heap.size) #[.int .i64 ((sumR (0, 1) x0).getD (0, 0)).1, .int .i64 ((sumR (0, 1) x0).getD (0, 0)).2] := (B7_1.toExt hx8)
  have lB8_0 := B8_0.1
  have bB8_0 := B8_0.2.1
  have lB8_1 := B8_1.1
  have bB8_1 := B8_1.2.1
  clear lB7_0 bB7_0 lB7_1 bB7_1
  go_wp2
  go_ret
  exact ⟨rfl, (trans_ext (trans_ext (trans_ext (trans_ext (trans_ext (trans_ext (trans_ext (trans_ext (trans_ext hx1 hx2) hx3) (alloc_ext w3 (.cells #[.int .i64 ((sumR (0, 1) x0).getD (0, 0)).1, .int .i64 ((sumR (0, 1) x0).getD (0, 0)).2] 25))) hx4) hx5) (alloc_ext w5 (.cells #[.int .i64 ((sumR (0, 1) x0).getD (0, 0)).1, .int .i64 ((sumR (0, 1) x0).getD (0, 0)).2] 25))) hx6) hx7) hx8)⟩

theorem law_SumRationals (A0 : Option Addr) (c0 : Nat) (x0 : List (Int × Int)) (w : World) (l0 : x0.length ≤ 9223372036854775807) (r0 : RR w A0 x0) : Calls Try.prog 3 #[.slice A0 x0.length c0] w fun e w' => e = .returned (.bool true) ∧ ∃ y, w' = ext w y := by
  by_cases hz0 : 0 ≤ szL (1048576) x0.length
  · have hy0 : szL (1048576) x0.length ≤ 1048576 := szL_le hz0
    have q0 := szL_small hz0
    exact law_SumRationals_m _ _ _ w l0 r0 hz0 hy0 (by omega)
  · exact law_SumRationals_z0 _ _ _ w l0 (by omega)

set_option maxRecDepth 100000 in
theorem lifted_FnExactSumRationals (os : Os) (started : os.Started) (H : Type) (enc : TypeId × Value → H) :
    ReturnsInHanded {} Try.checked os 3 .any (Rows.fnExactSumRationalsSpec.pre6 enc Try.prog Try.f3 Rows.fnExactSumRationalsRow.domain false) (Rows.fnExactSumRationalsSpec.post enc Try.prog Try.f3 false true false false) := by
  refine returnsInHanded_of_change (C := Try.checked) Try.own started (by kernel_rfl) Try.func3 (ChangeSpec.witness6 (enc := enc) (C := Try.checked) false ⟨#[], #[.slice none 0 0], []⟩ 8 (by kernel_rfl) (by kernel_rfl) (by kernel_rfl) (by kernel_rfl)) ?_
  intro W base args ds gs before hval0 hW hcnd _
  have hval : ∀ (j : Nat) t v, Try.f3.params[j]? = some t → args[j]? = some v → Value.okWide Try.prog W .any base t v := hval0
  clear hval0 hcnd
  obtain ⟨_, _, hA0, hV0, _, _, _⟩ := id hW
  have hA : DataW.TrodAll enc Try.prog W 0 (fun _ => true) true Try.f3.params.toList args.toList ds _ := hA0
  clear hA0
  rw [Try.params3] at hA hval
  obtain ⟨v0, d0, rfl, rfl, h0⟩ := trodAll_one hA
  obtain ⟨x0, ⟨A0, c0, hc0, r0⟩, l0, _⟩ := openArg oRats h0
  obtain rfl := one1 hc0 (okWide_slice Try.underlying22 (hval 0 _ v0 rfl rfl))
  refine (law_SumRationals A0 c0 x0 W (le_maxLen l0) r0).mono fun e W' ⟨he, hw⟩ => ?_
  exact ⟨_, he, law_post Try.laidOut hW rfl rfl rfl Try.underlying4 (by kernel_rfl) hw⟩

theorem fnExactSumRationals_holds : Rows.FnExactSumRationalsSaid :=
  OpenClaim.holds_of_wide 3 Try.f3 rfl rfl rfl rfl rfl rfl rfl ⟨rfl, rfl, rfl, rfl, rfl⟩ rfl rfl rfl rfl rfl (by kernel_rfl) Try.func3 (by kernel_rfl)
    (of_decide_eq_true (by kernel_rfl)) (by unfold Func.isWrapper; rw [if_neg (of_decide_eq_false (by kernel_rfl))]; exact ⟨rfl, rfl⟩)
    (fun os started H enc _ => lifted_FnExactSumRationals os started H enc)

end Go.Proofs.Ytnchebfemacebaa
