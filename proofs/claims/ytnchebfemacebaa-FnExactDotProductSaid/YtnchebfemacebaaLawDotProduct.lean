/- For all arguments the program's DotProduct and the reference's give the same, the arguments are left alone, and what is handed back shares no memory with them. -/
import Derived.Test.YtnchebfemacebaaTypes
import Derived.Test.YtnchebfemacebaaRats
import Derived.Test.YtnchebfemacebaaRatDot
namespace Go.Proofs.Ytnchebfemacebaa
open Go.ChangeShapes Go.WideShapes Go.ChangeAt Go.RowKit

set_option maxHeartbeats 2000000 in
theorem law_DotProduct_z0 (A0 : Option Addr) (c0 : Nat) (x0 : List (Int × Int)) (A1 : Option Addr) (c1 : Nat) (x1 : List (Int × Int)) (w : World) (l0 : x0.length ≤ 9223372036854775807) (hz0 : szL (1048576) x0.length < 0) : Calls Try.prog 6 #[.slice A0 x0.length c0, .slice A1 x1.length c1] w fun e w' => e = .returned (.bool true) ∧ ∃ y, w' = ext w y := by
  go_enter Try.func6, Try.ntmps6
  go_wp2_with fail
  refine (szRationalS_any l0 (by omega) (by omega)).mono ?_
  rintro e w1 ⟨rfl, hx1⟩
  go_wp2_with fail
  go_ret
  exact ⟨rfl, hx1⟩

set_option maxHeartbeats 2000000 in
theorem law_DotProduct_z1 (A0 : Option Addr) (c0 : Nat) (x0 : List (Int × Int)) (A1 : Option Addr) (c1 : Nat) (x1 : List (Int × Int)) (w : World) (l0 : x0.length ≤ 9223372036854775807) (l1 : x1.length ≤ 9223372036854775807) (hz0 : 0 ≤ szL (1048576) x0.length) (hy0 : szL (1048576) x0.length ≤ 1048576) (hz1 : szL (szL (1048576) x0.length) x1.length < 0) : Calls Try.prog 6 #[.slice A0 x0.length c0, .slice A1 x1.length c1] w fun e w' => e = .returned (.bool true) ∧ ∃ y, w' = ext w y := by
  go_enter Try.func6, Try.ntmps6
  go_wp2_with fail
  refine (szRationalS_any l0 (by omega) (by omega)).mono ?_
  rintro e w1 ⟨rfl, hx1⟩
  go_wp2_with fail
  refine (szRationalS_any l1 (by omega) (by omega)).mono ?_
  rintro e w2 ⟨rfl, hx2⟩
  go_wp2_with fail
  go_ret
  exact ⟨rfl, (trans_ext hx1 hx2)⟩

set_option maxHeartbeats 2000000 in
theorem law_DotProduct_m (A0 : Option Addr) (c0 : Nat) (x0 : List (Int × Int)) (A1 : Option Addr) (c1 : Nat) (x1 : List (Int × Int)) (w : World) (l0 : x0.length ≤ 9223372036854775807) (r0 : RR w A0 x0) (l1 : x1.length ≤ 9223372036854775807) (r1 : RR w A1 x1) (hz0 : 0 ≤ szL (1048576) x0.length) (hy0 : szL (1048576) x0.length ≤ 1048576) (hz1 : 0 ≤ szL (szL (1048576) x0.length) x1.length) (hy1 : szL (szL (1048576) x0.length) x1.length ≤ 1048576) (s0 : x0.length ≤ 1048576) (s1 : x1.length ≤ 1048576) : Calls Try.prog 6 #[.slice A0 x0.length c0, .slice A1 x1.length c1] w fun e w' => e = .returned (.bool true) ∧ ∃ y, w' = ext w y := by
  go_enter Try.func6, Try.ntmps6
  go_wp2_with fail
  refine (szRationalS_any l0 (by omega) (by omega)).mono ?_
  rintro e w1 ⟨rfl, hx1⟩
  go_wp2_with fail
  refine (szRationalS_any l1 (by omega) (by omega)).mono ?_
  rintro e w2 ⟨rfl, hx2⟩
  go_wp2_with fail
  refine (toRationalS_any s0 (r0.toExt (trans_ext hx1 hx2))).mono ?_
  rintro e w3 ⟨v3, F3, rfl, hx3, hS3, hF3⟩
  obtain ⟨A3, c3, rfl, _, _, r3⟩ := hS3.view sR_v
  go_wp2_with fail
  refine (toRationalS_any s1 (r1.toExt (trans_ext (trans_ext hx1 hx2) hx3))).mono ?_
  rintro e w4 ⟨v4, F4, rfl, hx4, hS4, hF4⟩
  obtain ⟨A4, c4, rfl, _, _, r4⟩ := hS4.view sR_v
  go_wp2_with fail
  refine (specDotProduct_any (by omega) (r3.toExt hx4) (by omega) r4).mono ?_
  rintro e w5 ⟨rfl, hx5⟩
  go_wp2_with fail
  refine (toRationalS_any s0 (r0.toExt (trans_ext (trans_ext (trans_ext (trans_ext (trans_ext hx1 hx2) hx3) hx4) hx5) (alloc_ext w5 (.cells #[.int .i64 ((dotR x0 x1).getD (0, 0)).1, .int .i64 ((dotR x0 x1).getD (0, 0)).2] 25))))).mono ?_
  rintro e w6 ⟨v6, F6, rfl, hx6, hS6, hF6⟩
  obtain ⟨A6, c6, rfl, _, _, r6⟩ := hS6.view sR_v
  have B6_0 : BoxAt w6 (w5.heap.size) #[.int .i64 ((dotR x0 x1).getD (0, 0)).1, .int .i64 ((dotR x0 x1).getD (0, 0)).2] := ((BoxAt.new _ _ _).toExt hx6)
  have lB6_0 := B6_0.1
  have bB6_0 := B6_0.2.1
  go_wp2_with fail
  refine (toRationalS_any s1 (r1.toExt (trans_ext (trans_ext (trans_ext (trans_ext (trans_ext (trans_ext hx1 hx2) hx3) hx4) hx5) (alloc_ext w5 (.cells #[.int .i64 ((dotR x0 x1).getD (0, 0)).1, .int .i64 ((dotR x0 x1).getD (0, 0)).2] 25))) hx6))).mono ?_
  rintro e w7 ⟨v7, F7, rfl, hx7, hS7, hF7⟩
  obtain ⟨A7, c7, rfl, _, _, r7⟩ := hS7.view sR_v
  have B7_0 : BoxAt w7 (w5.heap.size) #[.int .i64 ((dotR x0 x1).getD (0, 0)).1, .int .i64 ((dotR x0 x1).getD (0, 0)).2] := (B6_0.toExt hx7)
  have lB7_0 := B7_0.1
  have bB7_0 := B7_0.2.1
  clear lB6_0 bB6_0
  go_wp2_with fail
  refine (DotProduct_any (by omega) (r6.toExt hx7) (by omega) r7).mono ?_
  rintro e w8 ⟨rfl, hx8⟩
  have B8_0 : BoxAt w8 (w5.heap.size) #[.int .i64 ((dotR x0 x1).getD (0, 0)).1, .int .i64 ((dotR x0 x1).getD (0, 0)).2] := (B7_0.toExt hx8)
  have lB8_0 := B8_0.1
  have bB8_0 := B8_0.2.1
  clear lB7_0 bB7_0
  go_wp2_with fail
  refine (eqRational_any).mono ?_
  rintro e w9 ⟨rfl, hx9⟩
  have B9_0 : BoxAt w9 (w5.heap.size) #[.int .i64 ((dotR x0 x1).getD (0, 0)).1, .int .i64 ((dotR x0 x1).getD (0, 0)).2] := ((B8_0.toExt (alloc_ext w8 (.cells #[.int .i64 ((dotR x0 x1).getD (0, 0)).1, .int .i64 ((dotR x0 x1).getD (0, 0)).2] 25))).toExt hx9)
  have B9_1 : BoxAt w9 (w8.heap.size) #[.int .i64 ((dotR x0 x1).getD (0, 0)).1, .int .i64 ((dotR x0 x1).getD (0, 0)).2] := ((BoxAt.new _ _ _).toExt hx9)
  have lB9_0 := B9_0.1
  have bB9_0 := B9_0.2.1
  have lB9_1 := B9_1.1
  have bB9_1 := B9_1.2.1
  clear lB8_0 bB8_0
  go_wp2_with fail
  refine (toRationalS_any s0 (r0.toExt (trans_ext (trans_ext (trans_ext (trans_ext (trans_ext (trans_ext (trans_ext (trans_ext (trans_ext (trans_ext hx1 hx2) hx3) hx4) hx5) (alloc_ext w5 (.cells #[.int .i64 ((dotR x0 x1).getD (0, 0)).1, .int .i64 ((dotR x0 x1).getD (0, 0)).2] 25))) hx6) hx7) hx8) (alloc_ext w8 (.cells #[.int .i64 ((dotR x0 x1).getD (0, 0)).1, .int .i64 ((dotR x0 x1).getD (0, 0)).2] 25))) hx9))).mono ?_
  rintro e w10 ⟨v10, F10, rfl, hx10, hS10, hF10⟩
  obtain ⟨A10, c10, rfl, _, _, r10⟩ := hS10.view sR_v
  have B10_0 : BoxAt w10 (w5.heap.size) #[.int .i64 ((dotR x0 x1).getD (0, 0)).1, .int .i64 ((dotR x0 x1).getD (0, 0)).2] := (B9_0.toExt hx10)
  have B10_1 : BoxAt w10 (w8.heap.size) #[.int .i64 ((dotR x0 x1).getD (0, 0)).1, .int .i64 ((dotR x0 x1).getD (0, 0)).2] := (B9_1.toExt hx10)
  have lB10_0 := B10_0.1
  have bB10_0 := B10_0.2.1
  have lB10_1 := B10_1.1
  have bB10_1 := B10_1.2.1
  clear lB9_0 bB9_0 lB9_1 bB9_1
  go_wp2_with fail
  refine (eqRationalS_any (by omega) (r6.toExt (trans_ext (trans_ext (trans_ext (trans_ext hx7 hx8) (alloc_ext w8 (.cells #[.int .i64 ((dotR x0 x1).getD (0, 0)).1, .int .i64 ((dotR x0 x1).getD (0, 0)).2] 25))) hx9) hx10)) (by omega) r10).mono ?_
  rintro e w11 ⟨rfl, hx11⟩
  have B11_0 : BoxAt w11 (w5.heap.size) #[.int .i64 ((dotR x0 x1).getD (0, 0)).1, .int .i64 ((dotR x0 x1).getD (0, 0)).2] := (B10_0.toExt hx11)
  have B11_1 : BoxAt w11 (w8.heap.size) #[.int .i64 ((dotR x0 x1).getD (0, 0)).1, .int .i64 ((dotR x0 x1).getD (0, 0)).2] := (B10_1.toExt hx11)
  have lB11_0 := B11_0.1
  have bB11_0 := B11_0.2.1
  have lB11_1 := B11_1.1
  have bB11_1 := B11_1.2.1
  clear lB10_0 bB10_0 lB10_1 bB10_1
  go_wp2_with fail
  refine (toRationalS_any s1 (r1.toExt (trans_ext (trans_ext (trans_ext (trans_ext (trans_ext (trans_ext (trans_ext (trans_ext (trans_ext (trans_ext (trans_ext (trans_ext hx1 hx2) hx3) hx4) hx5) (alloc_ext w5 (.cells #[.int .i64 ((dotR x0 x1).getD (0, 0)).1, .int .i64 ((dotR x0 x1).getD (0, 0)).2] 25))) hx6) hx7) hx8) (alloc_ext w8 (.cells #[.int .i64 ((dotR x0 x1).getD (0, 0)).1, .int .i64 ((dotR x0 x1).getD (0, 0)).2] 25))) hx9) hx10) hx11))).mono ?_
  rintro e w12 ⟨v12, F12, rfl, hx12, hS12, hF12⟩
  obtain ⟨A12, c12, rfl, _, _, r12⟩ := hS12.view sR_v
  have B12_0 : BoxAt w12 (w5.heap.size) #[.int .i64 ((dotR x0 x1).getD (0, 0)).1, .int .i64 ((dotR x0 x1).getD (0, 0)).2] := (B11_0.toExt hx12)
  have B12_1 : BoxAt w12 (w8.heap.size) #[.int .i64 ((dotR x0 x1).getD (0, 0)).1, .int .i64 ((dotR x0 x1).getD (0, 0)).2] := (B11_1.toExt hx12)
  have lB12_0 := B12_0.1
  have bB12_0 := B12_0.2.1
  have lB12_1 := B12_1.1
  have bB12_1 := B12_1.2.1
  clear lB11_0 bB11_0 lB11_1 bB11_1
  go_wp2_with fail
  refine (eqRationalS_any (by omega) (r7.toExt (trans_ext (trans_ext (trans_ext (trans_ext (trans_ext hx8 (alloc_ext w8 (.cells #[.int .i64 ((dotR x0 x1).getD (0, 0)).1, .int .i64 ((dotR x0 x1).getD (0, 0)).2] 25))) hx9) hx10) hx11) hx12)) (by omega) r12).mono ?_
  rintro e w13 ⟨rfl, hx13⟩
  have B13_0 : BoxAt w13 (w5.heap.size) #[.int .i64 ((dotR x0 x1).getD (0, 0)).1, .int .i64 ((dotR x0 x1).getD (0, 0)).2] := (B12_0.toExt hx13)
  have B13_1 : BoxAt w13 (w8.heap.size) #[.int .i64 ((dotR x0 x1).getD (0, 0)).1, .int .i64 ((dotR x0 x1).getD (0, 0)).2] := (B12_1.toExt hx13)
  have lB13_0 := B13_0.1
  have bB13_0 := B13_0.2.1
  have lB13_1 := B13_1.1
  have bB13_1 := B13_1.2.1
  clear lB12_0 bB12_0 lB12_1 bB12_1
  go_wp2
  go_ret
  exact ⟨rfl, (trans_ext (trans_ext (trans_ext (trans_ext (trans_ext (trans_ext (trans_ext (trans_ext (trans_ext (trans_ext (trans_ext (trans_ext (trans_ext (trans_ext hx1 hx2) hx3) hx4) hx5) (alloc_ext w5 (.cells #[.int .i64 ((dotR x0 x1).getD (0, 0)).1, .int .i64 ((dotR x0 x1).getD (0, 0)).2] 25))) hx6) hx7) hx8) (alloc_ext w8 (.cells #[.int .i64 ((dotR x0 x1).getD (0, 0)).1, .int .i64 ((dotR x0 x1).getD (0, 0)).2] 25))) hx9) hx10) hx11) hx12) hx13)⟩

theorem law_DotProduct (A0 : Option Addr) (c0 : Nat) (x0 : List (Int × Int)) (A1 : Option Addr) (c1 : Nat) (x1 : List (Int × Int)) (w : World) (l0 : x0.length ≤ 9223372036854775807) (r0 : RR w A0 x0) (l1 : x1.length ≤ 9223372036854775807) (r1 : RR w A1 x1) : Calls Try.prog 6 #[.slice A0 x0.length c0, .slice A1 x1.length c1] w fun e w' => e = .returned (.bool true) ∧ ∃ y, w' = ext w y := by
  by_cases hz0 : 0 ≤ szL (1048576) x0.length
  · have hy0 : szL (1048576) x0.length ≤ 1048576 := szL_le hz0
    by_cases hz1 : 0 ≤ szL (szL (1048576) x0.length) x1.length
    · have hy1 : szL (szL (1048576) x0.length) x1.length ≤ 1048576 := Int.le_trans (szL_le hz1) hy0
      have q0 := szL_small hz0
      have q1 := szL_small hz1
      exact law_DotProduct_m _ _ _ _ _ _ w l0 r0 l1 r1 hz0 hy0 hz1 hy1 (by omega) (by omega)
    · exact law_DotProduct_z1 _ _ _ _ _ _ w l0 l1 hz0 hy0 (by omega)
  · exact law_DotProduct_z0 _ _ _ _ _ _ w l0 (by omega)

set_option maxRecDepth 100000 in
theorem lifted_FnExactDotProduct (os : Os) (started : os.Started) (H : Type) (enc : TypeId × Value → H) :
    ReturnsInHanded {} Try.checked os 6 .any (Rows.fnExactDotProductSpec.pre6 enc Try.prog Try.f6 Rows.fnExactDotProductRow.domain false) (Rows.fnExactDotProductSpec.post enc Try.prog Try.f6 false true false false) := by
  refine returnsInHanded_of_change (C := Try.checked) Try.own started (by kernel_rfl) Try.func6 (ChangeSpec.witness6 (enc := enc) (C := Try.checked) false ⟨#[], #[.slice none 0 0, .slice none 0 0], []⟩ 8 (by kernel_rfl) (by kernel_rfl) (by kernel_rfl) (by kernel_rfl)) ?_
  intro W base args ds gs before hval0 hW hcnd _
  have hval : ∀ (j : Nat) t v, Try.f6.params[j]? = some t → args[j]? = some v → Value.okWide Try.prog W .any base t v := hval0
  clear hval0 hcnd
  obtain ⟨_, _, hA0, hV0, _, _, _⟩ := id hW
  have hA : DataW.TrodAll enc Try.prog W 0 (fun _ => true) true Try.f6.params.toList args.toList ds _ := hA0
  clear hA0
  rw [Try.params6] at hA hval
  obtain ⟨v0, v1, d0, d1, p0, p1, rfl, rfl, e9, h0, h1⟩ := trodAll_two hA
  obtain ⟨x0, ⟨A0, c0, hc0, r0⟩, l0, _⟩ := openArg oRats h0
  obtain rfl := one1 hc0 (okWide_slice Try.underlying22 (hval 0 _ v0 rfl rfl))
  obtain ⟨x1, ⟨A1, c1, hc1, r1⟩, l1, _⟩ := openArg oRats h1
  obtain rfl := one1 hc1 (okWide_slice Try.underlying22 (hval 1 _ v1 rfl rfl))
  refine (law_DotProduct A0 c0 x0 A1 c1 x1 W (le_maxLen l0) r0 (le_maxLen l1) r1).mono fun e W' ⟨he, hw⟩ => ?_
  exact ⟨_, he, law_post Try.laidOut hW rfl rfl rfl Try.underlying4 (by kernel_rfl) hw⟩

theorem fnExactDotProduct_holds : Rows.FnExactDotProductSaid :=
  OpenClaim.holds_of_wide 6 Try.f6 rfl rfl rfl rfl rfl rfl rfl ⟨rfl, rfl, rfl, rfl, rfl⟩ rfl rfl rfl rfl rfl (by kernel_rfl) Try.func6 (by kernel_rfl)
    (of_decide_eq_true (by kernel_rfl)) (by unfold Func.isWrapper; rw [if_neg (of_decide_eq_false (by kernel_rfl))]; exact ⟨rfl, rfl⟩)
    (fun os started H enc _ => lifted_FnExactDotProduct os started H enc)

end Go.Proofs.Ytnchebfemacebaa
