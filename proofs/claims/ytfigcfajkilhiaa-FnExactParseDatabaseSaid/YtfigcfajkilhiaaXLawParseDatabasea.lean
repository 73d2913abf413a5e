/- The walk of the law on ParseDatabase. -/
import Derived.Test.YtfigcfajkilhiaaM01
import Derived.Test.YtfigcfajkilhiaaM02
import Derived.Test.YtfigcfajkilhiaaM10
namespace Go.Proofs.Ytfigcfajkilhiaa
open Go.ChangeShapes Go.WideShapes Go.ChangeAt Go.RowKit

set_option maxRecDepth 100000 in
set_option maxHeartbeats 4000000 in
theorem law_ParseDatabase_g0 (t0 : ByteArray) (w : World)  (hg0 : 1048576 < t0.size) : Calls Try.prog 5 #[.string t0] w fun e w' => e = .returned (.bool true) ∧ ∃ y, w' = ext w y := by
  go_enter Try.func5, Try.ntmps5
  go_wp2_with fail
  go_ret
  exact ⟨rfl, (refl_ext w)⟩

set_option maxRecDepth 100000 in
set_option maxHeartbeats 4000000 in
theorem law_ParseDatabase_m (t0 : ByteArray) (w : World)  (k0 : t0.size ≤ 1048576) : Calls Try.prog 5 #[.string t0] w fun e w' => e = .returned (.bool true) ∧ ∃ y, w' = ext w y := by
  have hb9 := pDb_bd t0
  go_enter Try.func5, Try.ntmps5
  go_wp2_with fail
  refine (specParseDatabase_any (by omega)).mono ?_
  rintro e w1 ⟨v1, F1, rfl, hx1, hS1, hN1, hF1⟩
  obtain ⟨A1, c1, rfl⟩ := sDb_form hS1
  go_wp2_with fail
  refine (ParseDatabase_any (by omega)).mono ?_
  rintro e w2 ⟨v2, F2, rfl, hx2, hS2, hN2, hF2⟩
  obtain ⟨A2, c2, rfl⟩ := sDb_form hS2
  have B2_0 : BoxAt w2 (w1.heap.size) #[.slice A1 ((pDb t0).getD []).length c1] := ((BoxAt.new _ _ _).toExt hx2)
  have lB2_0 := B2_0.1
  have bB2_0 := B2_0.2.1
  go_wp2_with fail
  refine (eqDatabase_d hb9 (sDb_v _ _ _ (OD.toExt hS2 (alloc_ext w2 (.cells #[.slice A2 ((pDb t0).getD []).length c2] 29)))) hb9 (sDb_v _ _ _ (OD.toExt (OD.toExt (OD.toExt hS1 (alloc_ext w1 (.cells #[.slice A1 ((pDb t0).getD []).length c1] 29))) hx2) (alloc_ext w2 (.cells #[.slice A2 ((pDb t0).getD []).length c2] 29))))).mono ?_
  rintro e w3 ⟨rfl, hx3⟩
  have B3_0 : BoxAt w3 (w1.heap.size) #[.slice A1 ((pDb t0).getD []).length c1] := ((B2_0.toExt (alloc_ext w2 (.cells #[.slice A2 ((pDb t0).getD []).length c2] 29))).toExt hx3)
  have B3_1 : BoxAt w3 (w2.heap.size) #[.slice A2 ((pDb t0).getD []).length c2] := ((BoxAt.new _ _ _).toExt hx3)
  have lB3_0 := B3_0.1
  have bB3_0 := B3_0.2.1
  have lB3_1 := B3_1.1
  have bB3_1 := B3_1.2.1
  clear lB2_0 bB2_0
  go_wp2_with fail
  refine (markDatabase_d hb9 (OD.toExt (OD.toExt hS2 (alloc_ext w2 (.cells #[.slice A2 ((pDb t0).getD []).length c2] 29))) hx3) hN2 (by omega) (by omega)).mono ?_
  rintro e w4 ⟨kk4, rfl, HK4, kl4, ku4, hS4, hC4⟩
  have B4_0 : BoxAt w4 (w1.heap.size) #[.slice A1 ((pDb t0).getD []).length c1] := (B3_0.chg hC4 (fun hb => by have h1 := hF2 _ hb; have h2 := (BoxAt.new w1 #[.slice A1 ((pDb t0).getD []).length c1] 29).1; omega))
  have B4_1 : BoxAt w4 (w2.heap.size) #[.slice A2 ((pDb t0).getD []).length c2] := (B3_1.chg hC4 (fun hb => by have h1 := (SMono.lt hS2) _ hb; have h2 := size_of_ext (refl_ext w2); omega))
  have lB4_0 := B4_0.1
  have bB4_0 := B4_0.2.1
  have lB4_1 := B4_1.1
  have bB4_1 := B4_1.2.1
  clear lB3_0 bB3_0 lB3_1 bB3_1
  go_wp2_with fail
  refine (heldDatabase_d hb9 HK4 (sDb_v _ _ _ hS4) (by omega) (by omega)).mono ?_
  rintro e w5 ⟨rfl, hx5⟩
  have B5_0 : BoxAt w5 (w1.heap.size) #[.slice A1 ((pDb t0).getD []).length c1] := (B4_0.toExt hx5)
  have B5_1 : BoxAt w5 (w2.heap.size) #[.slice A2 ((pDb t0).getD []).length c2] := (B4_1.toExt hx5)
  have lB5_0 := B5_0.1
  have bB5_0 := B5_0.2.1
  have lB5_1 := B5_1.1
  have bB5_1 := B5_1.2.1
  clear lB4_0 bB4_0 lB4_1 bB4_1
  go_wp2_with fail
  refine (ParseDatabase_any (by omega)).mono ?_
  rintro e w6 ⟨v6, F6, rfl, hx6, hS6, hN6, hF6⟩
  obtain ⟨A6, c6, rfl⟩ := sDb_form hS6
  have B6_0 : BoxAt w6 (w1.heap.size) #[.slice A1 ((pDb t0).getD []).length c1] := (B5_0.toExt hx6)
  have B6_1 : BoxAt w6 (w2.heap.size) #[.slice A2 ((pDb t0).getD []).length c2] := (B5_1.toExt hx6)
  have lB6_0 := B6_0.1
  have bB6_0 := B6_0.2.1
  have lB6_1 := B6_1.1
  have bB6_1 := B6_1.2.1
  clear lB5_0 bB5_0 lB5_1 bB5_1
  go_wp2_with fail
  refine (eqDatabase_d hb9 (sDb_v _ _ _ (OD.toExt hS6 (alloc_ext w6 (.cells #[.slice A6 ((pDb t0).getD []).length c6] 29)))) hb9 (sDb_v _ _ _ (OD.toExt (OD.toExt (OD.toExt (OD.chg (OD.toExt (OD.toExt (OD.toExt (OD.toExt hS1 (alloc_ext w1 (.cells #[.slice A1 ((pDb t0).getD []).length c1] 29))) hx2) (alloc_ext w2 (.cells #[.slice A2 ((pDb t0).getD []).length c2] 29))) hx3) hC4 (fun x ha hb => by have h1 := hF2 x hb; have h2 := (SMono.lt hS1) x ha; have h3 := size_of_ext (alloc_ext w1 (.cells #[.slice A1 ((pDb t0).getD []).length c1] 29)); omega)) hx5) hx6) (alloc_ext w6 (.cells #[.slice A6 ((pDb t0).getD []).length c6] 29))))).mono ?_
  rintro e w7 ⟨rfl, hx7⟩
  have B7_0 : BoxAt w7 (w1.heap.size) #[.slice A1 ((pDb t0).getD []).length c1] := ((B6_0.toExt (alloc_ext w6 (.cells #[.slice A6 ((pDb t0).getD []).length c6] 29))).toExt hx7)
  have B7_1 : BoxAt w7 (w2.heap.size) #[.slice A2 ((pDb t0).getD []).length c2] := ((B6_1.toExt (alloc_ext w6 (.cells #[.slice A6 ((pDb t0).getD []).length c6] 29))).toExt hx7)
  have B7_2 : BoxAt w7 (w6.heap.size) #[.slice A6 ((pDb t0).getD []).length c6] := ((BoxAt.new _ _ _).toExt hx7)
  have lB7_0 := B7_0.1
  have bB7_0 := B7_0.2.1
  have lB7_1 := B7_1.1
  have bB7_1 := B7_1.2.1
  have lB7_2 := B7_2.1
  have bB7_2 := B7_2.2.1
  clear lB6_0 bB6_0 lB6_1 bB6_1
  go_wp2_with fail
  refine (heldDatabase_d hb9 HK4 (sDb_v _ _ _ (OD.toExt (OD.toExt (OD.toExt (OD.toExt hS4 hx5) hx6) (alloc_ext w6 (.cells #[.slice A6 ((pDb t0).getD []).length c6] 29))) hx7)) (by omega) (by omega)).mono ?_
  rintro e w8 ⟨rfl, hx8⟩
  have B8_0 : BoxAt w8 (w1.heap.size) #[.slice A1 ((pDb t0).getD []).length c1] := (B7_0.toExt hx8)
  have B8_1 : BoxAt w8 (w2.heap.size) #[.slice A2 ((pDb t0).getD []).length c2] := (B7_1.toExt hx8)
  have B8_2 : BoxAt w8 (w6.heap.size) #[.slice A6 ((pDb t0).getD []).length c6] := (B7_2.toExt hx8)
  have lB8_0 := B8_0.1
  have bB8_0 := B8_0.2.1
  have lB8_1 := B8_1.1
  have bB8_1 := B8_1.2.1
  have lB8_2 := B8_2.1
  have bB8_2 := B8_2.2.1
  clear lB7_0 bB7_0 lB7_1 bB7_1 lB7_2 bB7_2
  go_wp2
  go_ret
  exact ⟨rfl, (trans_ext (trans_ext (trans_ext (trans_ext (trans_ext (hC4.isExt (trans_ext (trans_ext (trans_ext (trans_ext hx1 (alloc_ext w1 (.cells #[.slice A1 ((pDb t0).getD []).length c1] 29))) hx2) (alloc_ext w2 (.cells #[.slice A2 ((pDb t0).getD []).length c2] 29))) hx3) (fun b hb => Nat.le_trans (size_of_ext (trans_ext hx1 (alloc_ext w1 (.cells #[.slice A1 ((pDb t0).getD []).length c1] 29)))) (hF2 b hb))) hx5) hx6) (alloc_ext w6 (.cells #[.slice A6 ((pDb t0).getD []).length c6] 29))) hx7) hx8)⟩

theorem law_ParseDatabase (t0 : ByteArray) (w : World)  : Calls Try.prog 5 #[.string t0] w fun e w' => e = .returned (.bool true) ∧ ∃ y, w' = ext w y := by
  by_cases hg0 : 1048576 < t0.size
  · exact law_ParseDatabase_g0 _ w hg0
  exact law_ParseDatabase_m _ w (by omega)

end Go.Proofs.Ytfigcfajkilhiaa
