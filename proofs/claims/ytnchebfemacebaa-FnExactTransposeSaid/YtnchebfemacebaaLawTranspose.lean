/- For all arguments the program's Transpose and the reference's give the same, the arguments are left alone, and what is handed back shares no memory with them. -/
import Derived.Test.YtnchebfemacebaaTypes
import Derived.Test.YtnchebfemacebaaRowsD
import Derived.Test.YtnchebfemacebaaTrans
namespace Go.Proofs.Ytnchebfemacebaa
open Go.ChangeShapes Go.WideShapes Go.ChangeAt Go.RowKit

set_option maxHeartbeats 2000000 in
theorem law_Transpose_z0 (A0 : Option Addr) (c0 : Nat) (d0 : List (List (Int × Int))) (w : World) (q0 : QSS d0) (r0 : vRR w [.slice A0 d0.length c0] d0) (hz0 : szN szR (1048576) d0 < 0) : Calls Try.prog 8 #[.slice A0 d0.length c0] w fun e w' => e = .returned (.bool true) ∧ ∃ y, w' = ext w y := by
  go_enter Try.func8, Try.ntmps8
  go_wp2_with fail
  refine (szRationalSS_d q0 r0 (by omega) (by omega)).mono ?_
  rintro e w1 ⟨rfl, hx1⟩
  go_wp2_with fail
  go_ret
  exact ⟨rfl, hx1⟩

set_option maxHeartbeats 2000000 in
theorem law_Transpose_m (A0 : Option Addr) (c0 : Nat) (d0 : List (List (Int × Int))) (w : World) (q0 : QSS d0) (r0 : vRR w [.slice A0 d0.length c0] d0) (hz0 : 0 ≤ szN szR (1048576) d0) (hy0 : szN szR (1048576) d0 ≤ 1048576) (s0 : BSS d0) : Calls Try.prog 8 #[.slice A0 d0.length c0] w fun e w' => e = .returned (.bool true) ∧ ∃ y, w' = ext w y := by
  have hb9 := trR_bd s0.1 s0.2
  go_enter Try.func8, Try.ntmps8
  go_wp2_with fail
  refine (szRationalSS_d q0 r0 (by omega) (by omega)).mono ?_
  rintro e w1 ⟨rfl, hx1⟩
  go_wp2_with fail
  refine (toRationalSS_d s0 (VD.toExt r0 hx1)).mono ?_
  rintro e w2 ⟨v2, F2, rfl, hx2, hS2, hN2, hF2⟩
  obtain ⟨A2, c2, rfl⟩ := sRR_form hS2
  go_wp2_with fail
  refine (specTranspose_any (Nat.le_trans (s0).1 (by omega)) (vRR_get (sRR_v _ _ _ hS2)).2 (s0).big).mono ?_
  rintro e w3 ⟨v3, F3, rfl, hx3, hS3, hN3, hF3⟩
  have hS3 : sRR w3 [v3] ((trR d0).getD []) F3 := ⟨_, rfl, hS3⟩
  obtain ⟨A3, c3, rfl⟩ := sRR_form hS3
  go_wp2_with fail
  refine (toRationalSS_d s0 (VD.toExt r0 (trans_ext (trans_ext hx1 hx2) hx3))).mono ?_
  rintro e w4 ⟨v4, F4, rfl, hx4, hS4, hN4, hF4⟩
  obtain ⟨A4, c4, rfl⟩ := sRR_form hS4
  go_wp2_with fail
  refine (Transpose_any (Nat.le_trans (s0).1 (by omega)) (vRR_get (sRR_v _ _ _ hS4)).2 (s0).big).mono ?_
  rintro e w5 ⟨v5, F5, rfl, hx5, hS5, hN5, hF5⟩
  have hS5 : sRR w5 [v5] ((trR d0).getD []) F5 := ⟨_, rfl, hS5⟩
  obtain ⟨A5, c5, rfl⟩ := sRR_form hS5
  go_wp2_with fail
  refine (eqRationalSS_d hb9 (sRR_v _ _ _ hS5) hb9 (sRR_v _ _ _ (OD.toExt (OD.toExt hS3 hx4) hx5))).mono ?_
  rintro e w6 ⟨rfl, hx6⟩
  go_wp2_with fail
  refine (toRationalSS_d s0 (VD.toExt r0 (trans_ext (trans_ext (trans_ext (trans_ext (trans_ext hx1 hx2) hx3) hx4) hx5) hx6))).mono ?_
  rintro e w7 ⟨v7, F7, rfl, hx7, hS7, hN7, hF7⟩
  obtain ⟨A7, c7, rfl⟩ := sRR_form hS7
  go_wp2_with fail
  refine (eqRationalSS_d s0 (sRR_v _ _ _ (OD.toExt (OD.toExt (OD.toExt hS4 hx5) hx6) hx7)) s0 (sRR_v _ _ _ hS7)).mono ?_
  rintro e w8 ⟨rfl, hx8⟩
  go_wp2_with fail
  refine (markRationalSS_d s0 (OD.toExt (OD.toExt (OD.toExt (OD.toExt hS4 hx5) hx6) hx7) hx8) hN4 (by omega) (by omega)).mono ?_
  rintro e w9 ⟨kk9, rfl, HK9, kl9, ku9, hS9, hC9⟩
  go_wp2_with fail
  refine (eqRationalSS_d hb9 (sRR_v _ _ _ (OD.chg (OD.toExt (OD.toExt (OD.toExt hS5 hx6) hx7) hx8) hC9 (fun x ha hb => by have h1 := hF5 x ha; have h2 := (SMono.lt hS4) x hb; have h3 := size_of_ext (refl_ext w4); omega))) hb9 (sRR_v _ _ _ (OD.chg (OD.toExt (OD.toExt (OD.toExt (OD.toExt (OD.toExt hS3 hx4) hx5) hx6) hx7) hx8) hC9 (fun x ha hb => by have h1 := hF4 x hb; have h2 := (SMono.lt hS3) x ha; have h3 := size_of_ext (refl_ext w3); omega)))).mono ?_
  rintro e w10 ⟨rfl, hx10⟩
  go_wp2_with fail
  refine (markRationalSS_d hb9 (OD.toExt (OD.chg (OD.toExt (OD.toExt (OD.toExt hS5 hx6) hx7) hx8) hC9 (fun x ha hb => by have h1 := hF5 x ha; have h2 := (SMono.lt hS4) x hb; have h3 := size_of_ext (refl_ext w4); omega)) hx10) hN5 (by omega) (by omega)).mono ?_
  rintro e w11 ⟨kk11, rfl, HK11, kl11, ku11, hS11, hC11⟩
  go_wp2_with fail
  refine (heldRationalSS_d hb9 HK11 (sRR_v _ _ _ hS11) (by omega) (by omega)).mono ?_
  rintro e w12 ⟨rfl, hx12⟩
  go_wp2_with fail
  refine (toRationalSS_d s0 (VD.toExt r0 (trans_ext (hC11.isExt (trans_ext (hC9.isExt (trans_ext (trans_ext (trans_ext (trans_ext (trans_ext (trans_ext (trans_ext hx1 hx2) hx3) hx4) hx5) hx6) hx7) hx8) (fun b hb => Nat.le_trans (size_of_ext (trans_ext (trans_ext hx1 hx2) hx3)) (hF4 b hb))) hx10) (fun b hb => Nat.le_trans (size_of_ext (trans_ext (trans_ext (trans_ext hx1 hx2) hx3) hx4)) (hF5 b hb))) hx12))).mono ?_
  rintro e w13 ⟨v13, F13, rfl, hx13, hS13, hN13, hF13⟩
  obtain ⟨A13, c13, rfl⟩ := sRR_form hS13
  go_wp2_with fail
  refine (Transpose_any (Nat.le_trans (s0).1 (by omega)) (vRR_get (sRR_v _ _ _ hS13)).2 (s0).big).mono ?_
  rintro e w14 ⟨v14, F14, rfl, hx14, hS14, hN14, hF14⟩
  have hS14 : sRR w14 [v14] ((trR d0).getD []) F14 := ⟨_, rfl, hS14⟩
  obtain ⟨A14, c14, rfl⟩ := sRR_form hS14
  go_wp2_with fail
  refine (eqRationalSS_d hb9 (sRR_v _ _ _ hS14) hb9 (sRR_v _ _ _ (OD.toExt (OD.toExt (OD.toExt (OD.chg (OD.toExt (OD.chg (OD.toExt (OD.toExt (OD.toExt (OD.toExt (OD.toExt hS3 hx4) hx5) hx6) hx7) hx8) hC9 (fun x ha hb => by have h1 := hF4 x hb; have h2 := (SMono.lt hS3) x ha; have h3 := size_of_ext (refl_ext w3); omega)) hx10) hC11 (fun x ha hb => by have h1 := hF5 x hb; have h2 := (SMono.lt hS3) x ha; have h3 := size_of_ext hx4; omega)) hx12) hx13) hx14))).mono ?_
  rintro e w15 ⟨rfl, hx15⟩
  go_wp2_with fail
  refine (heldRationalSS_d hb9 HK11 (sRR_v _ _ _ (OD.toExt (OD.toExt (OD.toExt (OD.toExt hS11 hx12) hx13) hx14) hx15)) (by omega) (by omega)).mono ?_
  rintro e w16 ⟨rfl, hx16⟩
  go_wp2
  go_ret
  exact ⟨rfl, (trans_ext (trans_ext (trans_ext (trans_ext (trans_ext (hC11.isExt (trans_ext (hC9.isExt (trans_ext (trans_ext (trans_ext (trans_ext (trans_ext (trans_ext (trans_ext hx1 hx2) hx3) hx4) hx5) hx6) hx7) hx8) (fun b hb => Nat.le_trans (size_of_ext (trans_ext (trans_ext hx1 hx2) hx3)) (hF4 b hb))) hx10) (fun b hb => Nat.le_trans (size_of_ext (trans_ext (trans_ext (trans_ext hx1 hx2) hx3) hx4)) (hF5 b hb))) hx12) hx13) hx14) hx15) hx16)⟩

theorem law_Transpose (A0 : Option Addr) (c0 : Nat) (d0 : List (List (Int × Int))) (w : World) (q0 : QSS d0) (r0 : vRR w [.slice A0 d0.length c0] d0) : Calls Try.prog 8 #[.slice A0 d0.length c0] w fun e w' => e = .returned (.bool true) ∧ ∃ y, w' = ext w y := by
  by_cases hz0 : 0 ≤ szN szR (1048576) d0
  · have hy0 : szN szR (1048576) d0 ≤ 1048576 := szRR_le hz0
    have b09 := szRR_small hz0 (by omega)
    exact law_Transpose_m _ _ _ w q0 r0 hz0 hy0 (b09)
  · exact law_Transpose_z0 _ _ _ w q0 r0 (by omega)

set_option maxRecDepth 100000 in
theorem lifted_FnExactTranspose (os : Os) (started : os.Started) (H : Type) (enc : TypeId × Value → H) :
    ReturnsInHanded {} Try.checked os 8 .any (Rows.fnExactTransposeSpec.pre6 enc Try.prog Try.f8 Rows.fnExactTransposeRow.domain false) (Rows.fnExactTransposeSpec.post enc Try.prog Try.f8 false true false false) := by
  refine returnsInHanded_of_change (C := Try.checked) Try.own started (by kernel_rfl) Try.func8 (ChangeSpec.witness6 (enc := enc) (C := Try.checked) false ⟨#[], #[.slice none 0 0], []⟩ 8 (by kernel_rfl) (by kernel_rfl) (by kernel_rfl) (by kernel_rfl)) ?_
  intro W base args ds gs before hval0 hW hcnd _
  have hval : ∀ (j : Nat) t v, Try.f8.params[j]? = some t → args[j]? = some v → Value.okWide Try.prog W .any base t v := hval0
  clear hval0 hcnd
  obtain ⟨_, _, hA0, hV0, _, _, _⟩ := id hW
  have hA : DataW.TrodAll enc Try.prog W 0 (fun _ => true) true Try.f8.params.toList args.toList ds _ := hA0
  clear hA0
  rw [Try.params8] at hA hval
  obtain ⟨v0, d0, rfl, rfl, h0⟩ := trodAll_one hA
  obtain ⟨d0, ⟨A0, c0, hc0, r0⟩, qq0⟩ := openArg oRatss h0
  obtain rfl := one1 hc0 (okWide_slice Try.underlying42 (hval 0 _ v0 rfl rfl))
  have r0 : vRR W [.slice A0 d0.length c0] d0 := ⟨A0, c0, rfl, r0⟩
  refine (law_Transpose A0 c0 d0 W qq0 r0).mono fun e W' ⟨he, hw⟩ => ?_
  exact ⟨_, he, law_post Try.laidOut hW rfl rfl rfl Try.underlying4 (by kernel_rfl) hw⟩

theorem fnExactTranspose_holds : Rows.FnExactTransposeSaid :=
  OpenClaim.holds_of_wide 8 Try.f8 rfl rfl rfl rfl rfl rfl rfl ⟨rfl, rfl, rfl, rfl, rfl⟩ rfl rfl rfl rfl rfl (by kernel_rfl) Try.func8 (by kernel_rfl)
    (of_decide_eq_true (by kernel_rfl)) (by unfold Func.isWrapper; rw [if_neg (of_decide_eq_false (by kernel_rfl))]; exact ⟨rfl, rfl⟩)
    (fun os started H enc _ => lifted_FnExactTranspose os started H enc)

end Go.Proofs.Ytnchebfemacebaa
