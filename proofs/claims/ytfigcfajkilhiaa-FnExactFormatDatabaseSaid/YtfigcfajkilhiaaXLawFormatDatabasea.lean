/- The walk of the law on FormatDatabase. -/
import Derived.Test.YtfigcfajkilhiaaM01
import Derived.Test.YtfigcfajkilhiaaM02
import Derived.Test.YtfigcfajkilhiaaM09
namespace Go.Proofs.Ytfigcfajkilhiaa
open Go.ChangeShapes Go.WideShapes Go.ChangeAt Go.RowKit

set_option maxRecDepth 100000 in
set_option maxHeartbeats 4000000 in
theorem law_FormatDatabase_z0 (A0 : Option Addr) (c0 : Nat) (d0 : Dbd) (w : World) (q0 : QDb d0) (r0 : vDb w [.slice A0 d0.length c0] d0) (hz0 : szN szTb (1048576) d0 < 0) : Calls Try.prog 3 #[.agg #[.slice A0 d0.length c0]] w fun e w' => e = .returned (.bool true) ∧ ∃ y, w' = ext w y := by
  go_enter Try.func3, Try.ntmps3
  go_wp2_with fail
  refine (szDatabase_d q0 (VD.toExt r0 (alloc_ext w (.cells #[.slice A0 d0.length c0] 24))) (by omega) (by omega)).mono ?_
  rintro e w1 ⟨rfl, hx1⟩
  have B1_0 : BoxAt w1 (w.heap.size) #[.slice A0 d0.length c0] := by obtain ⟨y, e⟩ := hx1; rw [e]; refine ⟨?_, fun j => ?_, fun j => ?_⟩ <;> go_simp
  have lB1_0 := B1_0.1
  have bB1_0 := B1_0.2.1
  go_wp2_with fail
  go_ret
  exact ⟨rfl, (trans_ext (alloc_ext w (.cells #[.slice A0 d0.length c0] 24)) hx1)⟩

set_option maxRecDepth 100000 in
set_option maxHeartbeats 4000000 in
theorem law_FormatDatabase_m (A0 : Option Addr) (c0 : Nat) (d0 : Dbd) (w : World) (q0 : QDb d0) (r0 : vDb w [.slice A0 d0.length c0] d0) (hz0 : 0 ≤ szN szTb (1048576) d0) (hy0 : szN szTb (1048576) d0 ≤ 1048576) (s0 : BDb d0) : Calls Try.prog 3 #[.agg #[.slice A0 d0.length c0]] w fun e w' => e = .returned (.bool true) ∧ ∃ y, w' = ext w y := by
  go_enter Try.func3, Try.ntmps3
  go_wp2_with fail
  refine (szDatabase_d q0 (VD.toExt r0 (alloc_ext w (.cells #[.slice A0 d0.length c0] 24))) (by omega) (by omega)).mono ?_
  rintro e w1 ⟨rfl, hx1⟩
  have B1_0 : BoxAt w1 (w.heap.size) #[.slice A0 d0.length c0] := by obtain ⟨y, e⟩ := hx1; rw [e]; refine ⟨?_, fun j => ?_, fun j => ?_⟩ <;> go_simp
  have lB1_0 := B1_0.1
  have bB1_0 := B1_0.2.1
  go_wp2_with fail
  refine (toDatabase_d s0 (VD.toExt r0 (trans_ext (alloc_ext w (.cells #[.slice A0 d0.length c0] 24)) hx1))).mono ?_
  rintro e w2 ⟨v2, F2, rfl, hx2, hS2, hN2, hF2⟩
  obtain ⟨A2, c2, rfl⟩ := sDb_form hS2
  have B2_0 : BoxAt w2 (w.heap.size) #[.slice A0 d0.length c0] := (B1_0.toExt hx2)
  have lB2_0 := B2_0.1
  have bB2_0 := B2_0.2.1
  clear lB1_0 bB1_0
  go_wp2_with fail
  refine (specFormatDatabase_any (BDb.w s0) (vDb_get (sDb_v _ _ _ hS2)).2.1).mono ?_
  rintro e w3 ⟨rfl, hx3⟩
  have B3_0 : BoxAt w3 (w.heap.size) #[.slice A0 d0.length c0] := (B2_0.toExt hx3)
  have lB3_0 := B3_0.1
  have bB3_0 := B3_0.2.1
  clear lB2_0 bB2_0
  go_wp2_with fail
  refine (toDatabase_d s0 (VD.toExt r0 (trans_ext (trans_ext (trans_ext (alloc_ext w (.cells #[.slice A0 d0.length c0] 24)) hx1) hx2) hx3))).mono ?_
  rintro e w4 ⟨v4, F4, rfl, hx4, hS4, hN4, hF4⟩
  obtain ⟨A4, c4, rfl⟩ := sDb_form hS4
  have B4_0 : BoxAt w4 (w.heap.size) #[.slice A0 d0.length c0] := (B3_0.toExt hx4)
  have lB4_0 := B4_0.1
  have bB4_0 := B4_0.2.1
  clear lB3_0 bB3_0
  go_wp2_with fail
  refine (FormatDatabase_any (BDb.w s0) (vDb_get (sDb_v _ _ _ (OD.toExt hS4 (alloc_ext w4 (.cells #[.slice A4 d0.length c4] 29))))).2.1).mono ?_
  rintro e w5 ⟨rfl, hx5⟩
  have B5_0 : BoxAt w5 (w.heap.size) #[.slice A0 d0.length c0] := ((B4_0.toExt (alloc_ext w4 (.cells #[.slice A4 d0.length c4] 29))).toExt hx5)
  have B5_1 : BoxAt w5 (w4.heap.size) #[.slice A4 d0.length c4] := ((BoxAt.new _ _ _).toExt hx5)
  have lB5_0 := B5_0.1
  have bB5_0 := B5_0.2.1
  have lB5_1 := B5_1.1
  have bB5_1 := B5_1.2.1
  clear lB4_0 bB4_0
  go_wp2_with fail
  go_region_held3 (fun w' => (∀ a : Addr, a.block < w5.heap.size → w'.cell? a = w5.cell? a) ∧ ∃ y, w' = ext w5 y) (first | exact heldE (drew_ext w5) | exact heldE (trans_ext (drew_ext w5) hx6) | exact heldE (trans_ext (trans_ext (drew_ext w5) hx6) hx7)) (first | (go_at_call_of 17 (A0); refine (toDatabase_d s0 (VD.toExt r0 (trans_ext (trans_ext (trans_ext (trans_ext (trans_ext (trans_ext (trans_ext (alloc_ext w (.cells #[.slice A0 d0.length c0] 24)) hx1) hx2) hx3) hx4) (alloc_ext w4 (.cells #[.slice A4 d0.length c4] 29))) hx5) (drew_ext w5)))).mono ?_; rintro e w6 ⟨v6, F6, rfl, hx6, hS6, hN6, hF6⟩; obtain ⟨A6, c6, rfl⟩ := sDb_form hS6) | (go_at_call 19; refine (eqDatabase_d s0 (sDb_v _ _ _ (OD.toExt (OD.toExt (OD.toExt (OD.toExt hS4 (alloc_ext w4 (.cells #[.slice A4 d0.length c4] 29))) hx5) (drew_ext w5)) hx6)) s0 (sDb_v _ _ _ hS6)).mono ?_; rintro e w7 ⟨rfl, hx7⟩))
  have B7_0 : BoxAt w7 (w.heap.size) #[.slice A0 d0.length c0] := B5_0.toExt (trans_ext (trans_ext (drew_ext w5) hx6) hx7)
  have B7_1 : BoxAt w7 (w4.heap.size) #[.slice A4 d0.length c4] := B5_1.toExt (trans_ext (trans_ext (drew_ext w5) hx6) hx7)
  have lB7_0 := B7_0.1
  have bB7_0 := B7_0.2.1
  have lB7_1 := B7_1.1
  have bB7_1 := B7_1.2.1
  clear lB5_0 bB5_0 lB5_1 bB5_1
  go_wp2
  go_ret
  exact ⟨rfl, (trans_ext (trans_ext (trans_ext (trans_ext (trans_ext (trans_ext (trans_ext (trans_ext (trans_ext (alloc_ext w (.cells #[.slice A0 d0.length c0] 24)) hx1) hx2) hx3) hx4) (alloc_ext w4 (.cells #[.slice A4 d0.length c4] 29))) hx5) (drew_ext w5)) hx6) hx7)⟩

theorem law_FormatDatabase (A0 : Option Addr) (c0 : Nat) (d0 : Dbd) (w : World) (q0 : QDb d0) (r0 : vDb w [.slice A0 d0.length c0] d0) : Calls Try.prog 3 #[.agg #[.slice A0 d0.length c0]] w fun e w' => e = .returned (.bool true) ∧ ∃ y, w' = ext w y := by
  by_cases hz0 : 0 ≤ szN szTb (1048576) d0
  · have hy0 : szN szTb (1048576) d0 ≤ 1048576 := szDb_le hz0
    have b09 := szDb_small q0 hz0 (by omega)
    exact law_FormatDatabase_m _ _ _ w q0 r0 hz0 hy0 (b09)
  · exact law_FormatDatabase_z0 _ _ _ w q0 r0 (by omega)

end Go.Proofs.Ytfigcfajkilhiaa
