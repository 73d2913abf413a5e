/- For all arguments the program's SolveLinearSystem and the reference's give the same, the arguments are left alone, and what is handed back shares no memory with them. -/
import Derived.Test.YtbjpkfgkmilkdaaS01
import Derived.Test.YtbjpkfgkmilkdaaS13
namespace Go.Proofs.Ytbjpkfgkmilkdaa
open Go.ChangeShapes Go.WideShapes Go.ChangeAt Go.RowKit
set_option maxRecDepth 100000 in
set_option maxHeartbeats 4000000 in
theorem law_SolveLinearSystem_z0 (A0 : Option Addr) (c0 : Nat) (d0 : List (List (Int × Int))) (A1 : Option Addr) (c1 : Nat) (x1 : List (Int × Int)) (w : World) (q0 : QSS d0) (r0 : vRR w [.slice A0 d0.length c0] d0) (hz0 : szN szR (1048576) d0 < 0) : Calls Try.prog 3 #[.slice A0 d0.length c0, .slice A1 x1.length c1] w fun e w' => e = .returned (.bool true) ∧ ∃ y, w' = ext w y := by
  go_enter Try.func3, Try.ntmps3
  go_wp2_with fail
  refine (szRationalSS_d q0 r0 (by omega) (by omega)).mono ?_
  rintro e w1 ⟨rfl, hx1⟩
  go_wp2_with fail
  go_ret
  exact ⟨rfl, hx1⟩
set_option maxRecDepth 100000 in
set_option maxHeartbeats 4000000 in
theorem law_SolveLinearSystem_z1 (A0 : Option Addr) (c0 : Nat) (d0 : List (List (Int × Int))) (A1 : Option Addr) (c1 : Nat) (x1 : List (Int × Int)) (w : World) (q0 : QSS d0) (r0 : vRR w [.slice A0 d0.length c0] d0) (l1 : x1.length ≤ 9223372036854775807) (hz0 : 0 ≤ szN szR (1048576) d0) (hy0 : szN szR (1048576) d0 ≤ 1048576) (hz1 : szL (szN szR (1048576) d0) x1.length < 0) : Calls Try.prog 3 #[.slice A0 d0.length c0, .slice A1 x1.length c1] w fun e w' => e = .returned (.bool true) ∧ ∃ y, w' = ext w y := by
  go_enter Try.func3, Try.ntmps3
  go_wp2_with fail
  refine (szRationalSS_d q0 r0 (by omega) (by omega)).mono ?_
  rintro e w1 ⟨rfl, hx1⟩
  go_wp2_with fail
  refine (szRationalS_any l1 (by omega) (by omega)).mono ?_
  rintro e w2 ⟨rfl, hx2⟩
  go_wp2_with fail
  go_ret
  exact ⟨rfl, (trans_ext hx1 hx2)⟩
set_option maxRecDepth 100000 in
set_option maxHeartbeats 4000000 in
theorem law_SolveLinearSystem_m (A0 : Option Addr) (c0 : Nat) (d0 : List (List (Int × Int))) (A1 : Option Addr) (c1 : Nat) (x1 : List (Int × Int)) (w : World) (q0 : QSS d0) (r0 : vRR w [.slice A0 d0.length c0] d0) (l1 : x1.length ≤ 9223372036854775807) (r1 : RR w A1 x1) (hz0 : 0 ≤ szN szR (1048576) d0) (hy0 : szN szR (1048576) d0 ≤ 1048576) (hz1 : 0 ≤ szL (szN szR (1048576) d0) x1.length) (hy1 : szL (szN szR (1048576) d0) x1.length ≤ 1048576) (s0 : BSS d0) (s1 : x1.length ≤ 1048576) : Calls Try.prog 3 #[.slice A0 d0.length c0, .slice A1 x1.length c1] w fun e w' => e = .returned (.bool true) ∧ ∃ y, w' = ext w y := by
  have hb9 : ((solR d0 x1).getD []).length ≤ 1048576 := Nat.le_trans (sol_len d0 x1) s1
  go_enter Try.func3, Try.ntmps3
  go_wp2_with fail
  refine (szRationalSS_d q0 r0 (by omega) (by omega)).mono ?_
  rintro e w1 ⟨rfl, hx1⟩
  go_wp2_with fail
  refine (szRationalS_any l1 (by omega) (by omega)).mono ?_
  rintro e w2 ⟨rfl, hx2⟩
  go_wp2_with fail
  refine (toRationalSS_d s0 (VD.toExt r0 (trans_ext hx1 hx2))).mono ?_
  rintro e w3 ⟨v3, F3, rfl, hx3, hS3, hN3, hF3⟩
  obtain ⟨A3, c3, rfl⟩ := sRR_form hS3
  go_wp2_with fail
  refine (toRationalS_any s1 (r1.toExt (trans_ext (trans_ext hx1 hx2) hx3))).mono ?_
  rintro e w4 ⟨v4, F4, rfl, hx4, hS4, hF4⟩
  obtain ⟨A4, c4, rfl, _, _, r4⟩ := hS4.view sR_v
  go_wp2_with fail
  refine (specSolveLinearSystem_any (Nat.le_trans (s0).1 (by omega)) (vRR_get (sRR_v _ _ _ (OD.toExt hS3 hx4))).2 (s0).big (by omega) r4).mono ?_
  rintro e w5 ⟨v5, F5, rfl, hx5, hS5, hF5⟩
  obtain ⟨A5, c5, rfl, _, _, r5⟩ := hS5.view sR_v
  go_wp2_with fail
  refine (toRationalSS_d s0 (VD.toExt r0 (trans_ext (trans_ext (trans_ext (trans_ext hx1 hx2) hx3) hx4) hx5))).mono ?_
  rintro e w6 ⟨v6, F6, rfl, hx6, hS6, hN6, hF6⟩
  obtain ⟨A6, c6, rfl⟩ := sRR_form hS6
  go_wp2_with fail
  refine (toRationalS_any s1 (r1.toExt (trans_ext (trans_ext (trans_ext (trans_ext (trans_ext hx1 hx2) hx3) hx4) hx5) hx6))).mono ?_
  rintro e w7 ⟨v7, F7, rfl, hx7, hS7, hF7⟩
  obtain ⟨A7, c7, rfl, _, _, r7⟩ := hS7.view sR_v
  go_wp2_with fail
  refine (SolveLinearSystem_any (Nat.le_trans (s0).1 (by omega)) (vRR_get (sRR_v _ _ _ (OD.toExt hS6 hx7))).2 (s0).big (by omega) r7).mono ?_
  rintro e w8 ⟨v8, F8, rfl, hx8, hS8, hF8⟩
  obtain ⟨A8, c8, rfl, _, _, r8⟩ := hS8.view sR_v
  go_wp2_with fail
  refine (eqRationalS_any (by omega) r8 (by omega) (r5.toExt (trans_ext (trans_ext hx6 hx7) hx8))).mono ?_
  rintro e w9 ⟨rfl, hx9⟩
  go_wp2_with fail
  refine (toRationalSS_d s0 (VD.toExt r0 (trans_ext (trans_ext (trans_ext (trans_ext (trans_ext (trans_ext (trans_ext (trans_ext hx1 hx2) hx3) hx4) hx5) hx6) hx7) hx8) hx9))).mono ?_
  rintro e w10 ⟨v10, F10, rfl, hx10, hS10, hN10, hF10⟩
  obtain ⟨A10, c10, rfl⟩ := sRR_form hS10
  go_wp2_with fail
  refine (eqRationalSS_d s0 (sRR_v _ _ _ (OD.toExt (OD.toExt (OD.toExt (OD.toExt hS6 hx7) hx8) hx9) hx10)) s0 (sRR_v _ _ _ hS10)).mono ?_
  rintro e w11 ⟨rfl, hx11⟩
  go_wp2_with fail
  refine (toRationalS_any s1 (r1.toExt (trans_ext (trans_ext (trans_ext (trans_ext (trans_ext (trans_ext (trans_ext (trans_ext (trans_ext (trans_ext hx1 hx2) hx3) hx4) hx5) hx6) hx7) hx8) hx9) hx10) hx11))).mono ?_
  rintro e w12 ⟨v12, F12, rfl, hx12, hS12, hF12⟩
  obtain ⟨A12, c12, rfl, _, _, r12⟩ := hS12.view sR_v
  go_wp2_with fail
  refine (eqRationalS_any (by omega) (r7.toExt (trans_ext (trans_ext (trans_ext (trans_ext hx8 hx9) hx10) hx11) hx12)) (by omega) r12).mono ?_
  rintro e w13 ⟨rfl, hx13⟩
  go_wp2_with fail
  refine (markRationalSS_d s0 (OD.toExt (OD.toExt (OD.toExt (OD.toExt (OD.toExt (OD.toExt (OD.toExt hS6 hx7) hx8) hx9) hx10) hx11) hx12) hx13) hN6 (by omega) (by omega)).mono ?_
  rintro e w14 ⟨kk14, rfl, HK14, kl14, ku14, hS14, hC14⟩
  go_wp2_with fail
  refine (markRationalS_any (by omega) (((((((hS7.toExt hx8).toExt hx9).toExt hx10).toExt hx11).toExt hx12).toExt hx13).chg hC14 (fun x ha hb => by have h1 := hF7 x ha; have h2 := (SMono.lt hS6) x hb; have h3 := size_of_ext (refl_ext w6); omega)) (by omega) (by omega)).mono ?_
  rintro e w15 ⟨rfl, hS15, hC15⟩
  go_wp2_with fail
  refine (eqRationalS_any (by omega) (SV.toView (((((((hS8.toExt hx9).toExt hx10).toExt hx11).toExt hx12).toExt hx13).chg hC14 (fun x ha hb => by have h1 := hF8 x ha; have h2 := (SMono.lt hS6) x hb; have h3 := size_of_ext hx7; omega)).chg hC15 (fun x ha hb => by have h1 := hF8 x ha; have h2 := hS7.lt x hb; have h3 := size_of_ext (refl_ext w7); omega)) sR_v) (by omega) (r5.toExt (hC15.isExt (hC14.isExt (trans_ext (trans_ext (trans_ext (trans_ext (trans_ext (trans_ext (trans_ext hx6 hx7) hx8) hx9) hx10) hx11) hx12) hx13) (fun b hb => Nat.le_trans (size_of_ext (refl_ext w5)) (hF6 b hb))) (fun b hb => Nat.le_trans (size_of_ext hx6) (hF7 b hb))))).mono ?_
  rintro e w16 ⟨rfl, hx16⟩
  go_wp2_with fail
  refine (markRationalS_any (by omega) ((((((((hS8.toExt hx9).toExt hx10).toExt hx11).toExt hx12).toExt hx13).chg hC14 (fun x ha hb => by have h1 := hF8 x ha; have h2 := (SMono.lt hS6) x hb; have h3 := size_of_ext hx7; omega)).chg hC15 (fun x ha hb => by have h1 := hF8 x ha; have h2 := hS7.lt x hb; have h3 := size_of_ext (refl_ext w7); omega)).toExt hx16) (by omega) (by omega)).mono ?_
  rintro e w17 ⟨rfl, hS17, hC17⟩
  go_wp2_with fail
  refine (heldRationalS_any (by omega) (SV.toView hS17 sR_v) (by omega) (by omega)).mono ?_
  rintro e w18 ⟨rfl, hx18⟩
  go_wp2_with fail
  refine (toRationalSS_d s0 (VD.toExt r0 (trans_ext (hC17.isExt (trans_ext (hC15.isExt (hC14.isExt (trans_ext (trans_ext (trans_ext (trans_ext (trans_ext (trans_ext (trans_ext (trans_ext (trans_ext (trans_ext (trans_ext (trans_ext hx1 hx2) hx3) hx4) hx5) hx6) hx7) hx8) hx9) hx10) hx11) hx12) hx13) (fun b hb => Nat.le_trans (size_of_ext (trans_ext (trans_ext (trans_ext (trans_ext hx1 hx2) hx3) hx4) hx5)) (hF6 b hb))) (fun b hb => Nat.le_trans (size_of_ext (trans_ext (trans_ext (trans_ext (trans_ext (trans_ext hx1 hx2) hx3) hx4) hx5) hx6)) (hF7 b hb))) hx16) (fun b hb => Nat.le_trans (size_of_ext (trans_ext (trans_ext (trans_ext (trans_ext (trans_ext (trans_ext hx1 hx2) hx3) hx4) hx5) hx6) hx7)) (hF8 b hb))) hx18))).mono ?_
  rintro e w19 ⟨v19, F19, rfl, hx19, hS19, hN19, hF19⟩
  obtain ⟨A19, c19, rfl⟩ := sRR_form hS19
  go_wp2_with fail
  refine (toRationalS_any s1 (r1.toExt (trans_ext (trans_ext (hC17.isExt (trans_ext (hC15.isExt (hC14.isExt (trans_ext (trans_ext (trans_ext (trans_ext (trans_ext (trans_ext (trans_ext (trans_ext (trans_ext (trans_ext (trans_ext (trans_ext hx1 hx2) hx3) hx4) hx5) hx6) hx7) hx8) hx9) hx10) hx11) hx12) hx13) (fun b hb => Nat.le_trans (size_of_ext (trans_ext (trans_ext (trans_ext (trans_ext hx1 hx2) hx3) hx4) hx5)) (hF6 b hb))) (fun b hb => Nat.le_trans (size_of_ext (trans_ext (trans_ext (trans_ext (trans_ext (trans_ext hx1 hx2) hx3) hx4) hx5) hx6)) (hF7 b hb))) hx16) (fun b hb => Nat.le_trans (size_of_ext (trans_ext (trans_ext (trans_ext (trans_ext (trans_ext (trans_ext hx1 hx2) hx3) hx4) hx5) hx6) hx7)) (hF8 b hb))) hx18) hx19))).mono ?_
  rintro e w20 ⟨v20, F20, rfl, hx20, hS20, hF20⟩
  obtain ⟨A20, c20, rfl, _, _, r20⟩ := hS20.view sR_v
  go_wp2_with fail
  refine (SolveLinearSystem_any (Nat.le_trans (s0).1 (by omega)) (vRR_get (sRR_v _ _ _ (OD.toExt hS19 hx20))).2 (s0).big (by omega) r20).mono ?_
  rintro e w21 ⟨v21, F21, rfl, hx21, hS21, hF21⟩
  obtain ⟨A21, c21, rfl, _, _, r21⟩ := hS21.view sR_v
  go_wp2_with fail
  refine (eqRationalS_any (by omega) r21 (by omega) (r5.toExt (trans_ext (trans_ext (trans_ext (trans_ext (hC17.isExt (trans_ext (hC15.isExt (hC14.isExt (trans_ext (trans_ext (trans_ext (trans_ext (trans_ext (trans_ext (trans_ext hx6 hx7) hx8) hx9) hx10) hx11) hx12) hx13) (fun b hb => Nat.le_trans (size_of_ext (refl_ext w5)) (hF6 b hb))) (fun b hb => Nat.le_trans (size_of_ext hx6) (hF7 b hb))) hx16) (fun b hb => Nat.le_trans (size_of_ext (trans_ext hx6 hx7)) (hF8 b hb))) hx18) hx19) hx20) hx21))).mono ?_
  rintro e w22 ⟨rfl, hx22⟩
  go_wp2_with fail
  refine (heldRationalS_any (by omega) (SV.toView (((((hS17.toExt hx18).toExt hx19).toExt hx20).toExt hx21).toExt hx22) sR_v) (by omega) (by omega)).mono ?_
  rintro e w23 ⟨rfl, hx23⟩
  go_wp2
  go_ret
  exact ⟨rfl, (trans_ext (trans_ext (trans_ext (trans_ext (trans_ext (trans_ext (hC17.isExt (trans_ext (hC15.isExt (hC14.isExt (trans_ext (trans_ext (trans_ext (trans_ext (trans_ext (trans_ext (trans_ext (trans_ext (trans_ext (trans_ext (trans_ext (trans_ext hx1 hx2) hx3) hx4) hx5) hx6) hx7) hx8) hx9) hx10) hx11) hx12) hx13) (fun b hb => Nat.le_trans (size_of_ext (trans_ext (trans_ext (trans_ext (trans_ext hx1 hx2) hx3) hx4) hx5)) (hF6 b hb))) (fun b hb => Nat.le_trans (size_of_ext (trans_ext (trans_ext (trans_ext (trans_ext (trans_ext hx1 hx2) hx3) hx4) hx5) hx6)) (hF7 b hb))) hx16) (fun b hb => Nat.le_trans (size_of_ext (trans_ext (trans_ext (trans_ext (trans_ext (trans_ext (trans_ext hx1 hx2) hx3) hx4) hx5) hx6) hx7)) (hF8 b hb))) hx18) hx19) hx20) hx21) hx22) hx23)⟩
theorem law_SolveLinearSystem (A0 : Option Addr) (c0 : Nat) (d0 : List (List (Int × Int))) (A1 : Option Addr) (c1 : Nat) (x1 : List (Int × Int)) (w : World) (q0 : QSS d0) (r0 : vRR w [.slice A0 d0.length c0] d0) (l1 : x1.length ≤ 9223372036854775807) (r1 : RR w A1 x1) : Calls Try.prog 3 #[.slice A0 d0.length c0, .slice A1 x1.length c1] w fun e w' => e = .returned (.bool true) ∧ ∃ y, w' = ext w y := by
  by_cases hz0 : 0 ≤ szN szR (1048576) d0
  · have hy0 : szN szR (1048576) d0 ≤ 1048576 := szRR_le hz0
    by_cases hz1 : 0 ≤ szL (szN szR (1048576) d0) x1.length
    · have hy1 : szL (szN szR (1048576) d0) x1.length ≤ 1048576 := Int.le_trans (szL_le hz1) hy0
      have b09 := szRR_small  hz0 (by omega)
      have q1 := szL_small hz1
      exact law_SolveLinearSystem_m _ _ _ _ _ _ w q0 r0 l1 r1 hz0 hy0 hz1 hy1 (b09) (by omega)
    · exact law_SolveLinearSystem_z1 _ _ _ _ _ _ w q0 r0 l1 hz0 hy0 (by omega)
  · exact law_SolveLinearSystem_z0 _ _ _ _ _ _ w q0 r0 (by omega)
set_option maxRecDepth 100000 in
theorem lifted_FnExactSolveLinearSystem (os : Os) (started : os.Started) (H : Type) (enc : TypeId × Value → H) :
    ReturnsInHanded {} Try.checked os 3 .any (Rows.fnExactSolveLinearSystemSpec.pre6 enc Try.prog Try.f3 Rows.fnExactSolveLinearSystemRow.domain false) (Rows.fnExactSolveLinearSystemSpec.post enc Try.prog Try.f3 false true false false) := by
  refine returnsInHanded_of_change (C := Try.checked) Try.own started (by kernel_rfl) Try.func3 (ChangeSpec.witness6 (enc := enc) (C := Try.checked) false ⟨#[], #[.slice none 0 0, .slice none 0 0], []⟩ 8 (by kernel_rfl) (by kernel_rfl) (by kernel_rfl) (by kernel_rfl)) ?_
  intro W base args ds gs before hval0 hW hcnd _
  have hval : ∀ (j : Nat) t v, Try.f3.params[j]? = some t → args[j]? = some v → Value.okWide Try.prog W .any base t v := hval0
  clear hval0 hcnd
  obtain ⟨_, _, hA0, hV0, _, _, _⟩ := id hW
  have hA : DataW.TrodAll enc Try.prog W 0 (fun _ => true) true Try.f3.params.toList args.toList ds _ := hA0
  clear hA0
  rw [Try.params3] at hA hval
  obtain ⟨v0, v1, d0, d1, p0, p1, rfl, rfl, e9, h0, h1⟩ := trodAll_two hA
  obtain ⟨d0, ⟨A0, c0, hc0, r0⟩, qq0⟩ := openArg oRatss h0
  obtain rfl := one1 hc0 (okWide_slice Try.underlying22 (hval 0 _ v0 rfl rfl))
  have r0 : vRR W [.slice A0 d0.length (d0.length + c0)] d0 := ⟨A0, c0, rfl, r0⟩
  obtain ⟨x1, ⟨A1, c1, hc1, r1⟩, l1, _⟩ := openArg oRats h1
  obtain rfl := one1 hc1 (okWide_slice Try.underlying23 (hval 1 _ v1 rfl rfl))
  refine (law_SolveLinearSystem A0 (d0.length + c0) d0 A1 (x1.length + c1) x1 W qq0 r0 (le_maxLen l1) r1).mono fun e W' ⟨he, hw⟩ => ?_
  exact ⟨_, he, law_post Try.laidOut hW rfl rfl rfl Try.underlying4 (by kernel_rfl) hw⟩
theorem fnExactSolveLinearSystem_and {a b : Bool} (ha : a = true) (hb : b = true) : (a && b) = true := by rw [ha, hb]; rfl
set_option maxHeartbeats 16000000 in
theorem fnExactSolveLinearSystem_closed : joinedFacts Try.checked.prog 3 Try.f3 Rows.fnExactSolveLinearSystemSpec Rows.fnExactSolveLinearSystemRow = true := by
  unfold joinedFacts
  repeat' (with_reducible refine fnExactSolveLinearSystem_and ?_ ?_)
  all_goals (as_aux_lemma => kernel_rfl)
theorem fnExactSolveLinearSystem_holds : Rows.FnExactSolveLinearSystemSaid :=
  OpenClaim.holds_of_wide 3 Try.f3 rfl rfl rfl rfl rfl rfl rfl ⟨rfl, rfl, rfl, rfl, rfl⟩ rfl rfl rfl rfl rfl (by kernel_rfl) Try.func3 fnExactSolveLinearSystem_closed
    (of_decide_eq_true (by kernel_rfl)) (by unfold Func.isWrapper; rw [if_neg (of_decide_eq_false (by kernel_rfl))]; exact ⟨rfl, rfl⟩)
    (fun os started H enc _ => lifted_FnExactSolveLinearSystem os started H enc)
end Go.Proofs.Ytbjpkfgkmilkdaa
