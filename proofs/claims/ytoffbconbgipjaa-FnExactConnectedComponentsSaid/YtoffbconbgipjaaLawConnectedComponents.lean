/- For all arguments the program's ConnectedComponents and the reference's give the same, the arguments are left alone, and what is handed back shares no memory with them. -/
import Derived.Test.YtoffbconbgipjaaTypes
import Derived.Test.YtoffbconbgipjaaQuery
import Derived.Test.YtoffbconbgipjaaMarkQ
import Derived.Test.YtoffbconbgipjaaRowsD
import Derived.Test.YtoffbconbgipjaaCcBd
namespace Go.Proofs.Ytoffbconbgipjaa
open Go.ChangeShapes Go.WideShapes Go.ChangeAt Go.RowKit

set_option maxHeartbeats 2000000 in
theorem law_ConnectedComponents_z0 (A0 : Option Addr) (c0 : Nat) (B0 : Option Addr) (e0 : Nat) (d0 : Qd) (w : World) (q0 : QQ d0) (r0 : vQ w [.int .i64 d0.1, .slice A0 d0.2.1.length c0, .slice B0 d0.2.2.length e0] d0) (hz0 : szQ (1048576) d0 < 0) : Calls Try.prog 12 #[.agg #[.int .i64 d0.1, .slice A0 d0.2.1.length c0, .slice B0 d0.2.2.length e0]] w fun e w' => e = .returned (.bool true) ∧ ∃ y, w' = ext w y := by
  go_enter Try.func12, Try.ntmps12
  go_wp2_with fail
  refine (szQuery_d q0 (VD.toExt r0 (alloc_ext w (.cells #[.int .i64 d0.1, .slice A0 d0.2.1.length c0, .slice B0 d0.2.2.length e0] 36))) (by omega) (by omega)).mono ?_
  rintro e w1 ⟨rfl, hx1⟩
  have B1_0 : BoxAt w1 (w.heap.size) #[.int .i64 d0.1, .slice A0 d0.2.1.length c0, .slice B0 d0.2.2.length e0] := by obtain ⟨y, e⟩ := hx1; rw [e]; refine ⟨?_, fun j => ?_, fun j => ?_⟩ <;> go_simp
  have lB1_0 := B1_0.1
  have bB1_0 := B1_0.2.1
  go_wp2_with fail
  go_ret
  exact ⟨rfl, (trans_ext (alloc_ext w (.cells #[.int .i64 d0.1, .slice A0 d0.2.1.length c0, .slice B0 d0.2.2.length e0] 36)) hx1)⟩

set_option maxHeartbeats 2000000 in
theorem law_ConnectedComponents_m (A0 : Option Addr) (c0 : Nat) (B0 : Option Addr) (e0 : Nat) (d0 : Qd) (w : World) (q0 : QQ d0) (r0 : vQ w [.int .i64 d0.1, .slice A0 d0.2.1.length c0, .slice B0 d0.2.2.length e0] d0) (hz0 : 0 ≤ szQ (1048576) d0) (hy0 : szQ (1048576) d0 ≤ 1048576) (s0 : BQ d0) : Calls Try.prog 12 #[.agg #[.int .i64 d0.1, .slice A0 d0.2.1.length c0, .slice B0 d0.2.2.length e0]] w fun e w' => e = .returned (.bool true) ∧ ∃ y, w' = ext w y := by
  have hb9 := ccQ_bd d0
  go_enter Try.func12, Try.ntmps12
  go_wp2_with fail
  refine (szQuery_d q0 (VD.toExt r0 (alloc_ext w (.cells #[.int .i64 d0.1, .slice A0 d0.2.1.length c0, .slice B0 d0.2.2.length e0] 36))) (by omega) (by omega)).mono ?_
  rintro e w1 ⟨rfl, hx1⟩
  have B1_0 : BoxAt w1 (w.heap.size) #[.int .i64 d0.1, .slice A0 d0.2.1.length c0, .slice B0 d0.2.2.length e0] := by obtain ⟨y, e⟩ := hx1; rw [e]; refine ⟨?_, fun j => ?_, fun j => ?_⟩ <;> go_simp
  have lB1_0 := B1_0.1
  have bB1_0 := B1_0.2.1
  go_wp2_with fail
  refine (toQuery_d s0 (VD.toExt r0 (trans_ext (alloc_ext w (.cells #[.int .i64 d0.1, .slice A0 d0.2.1.length c0, .slice B0 d0.2.2.length e0] 36)) hx1))).mono ?_
  rintro e w2 ⟨v2, u2, t2, F2, rfl, hx2, hS2, hN2, hF2⟩
  obtain ⟨A2, c2, B2, e2, rfl, rfl, rfl⟩ := sQ_form hS2
  have B2_0 : BoxAt w2 (w.heap.size) #[.int .i64 d0.1, .slice A0 d0.2.1.length c0, .slice B0 d0.2.2.length e0] := (B1_0.toExt hx2)
  have lB2_0 := B2_0.1
  have bB2_0 := B2_0.2.1
  clear lB1_0 bB1_0
  go_wp2_with fail
  refine (specConnectedComponents_any s0 (sQ_v _ _ _ hS2)).mono ?_
  rintro e w3 ⟨v3, F3, rfl, hx3, hS3, hN3, hF3⟩
  have hS3 : sII w3 [v3] (ccQ d0) F3 := ⟨_, rfl, hS3⟩
  obtain ⟨A3, c3, rfl⟩ := sII_form hS3
  have B3_0 : BoxAt w3 (w.heap.size) #[.int .i64 d0.1, .slice A0 d0.2.1.length c0, .slice B0 d0.2.2.length e0] := (B2_0.toExt hx3)
  have lB3_0 := B3_0.1
  have bB3_0 := B3_0.2.1
  clear lB2_0 bB2_0
  go_wp2_with fail
  refine (toQuery_d s0 (VD.toExt r0 (trans_ext (trans_ext (trans_ext (alloc_ext w (.cells #[.int .i64 d0.1, .slice A0 d0.2.1.length c0, .slice B0 d0.2.2.length e0] 36)) hx1) hx2) hx3))).mono ?_
  rintro e w4 ⟨v4, u4, t4, F4, rfl, hx4, hS4, hN4, hF4⟩
  obtain ⟨A4, c4, B4, e4, rfl, rfl, rfl⟩ := sQ_form hS4
  have B4_0 : BoxAt w4 (w.heap.size) #[.int .i64 d0.1, .slice A0 d0.2.1.length c0, .slice B0 d0.2.2.length e0] := (B3_0.toExt hx4)
  have lB4_0 := B4_0.1
  have bB4_0 := B4_0.2.1
  clear lB3_0 bB3_0
  go_wp2_with fail
  refine (ConnectedComponents_any s0 (sQ_v _ _ _ (OD.toExt hS4 (alloc_ext w4 (.cells #[.int .i64 d0.1, .slice A4 d0.2.1.length c4, .slice B4 d0.2.2.length e4] 41))))).mono ?_
  rintro e w5 ⟨v5, F5, rfl, hx5, hS5, hN5, hF5⟩
  have hS5 : sII w5 [v5] (ccQ d0) F5 := ⟨_, rfl, hS5⟩
  obtain ⟨A5, c5, rfl⟩ := sII_form hS5
  have B5_0 : BoxAt w5 (w.heap.size) #[.int .i64 d0.1, .slice A0 d0.2.1.length c0, .slice B0 d0.2.2.length e0] := ((B4_0.toExt (alloc_ext w4 (.cells #[.int .i64 d0.1, .slice A4 d0.2.1.length c4, .slice B4 d0.2.2.length e4] 41))).toExt hx5)
  have B5_1 : BoxAt w5 (w4.heap.size) #[.int .i64 d0.1, .slice A4 d0.2.1.length c4, .slice B4 d0.2.2.length e4] := ((BoxAt.new _ _ _).toExt hx5)
  have lB5_0 := B5_0.1
  have bB5_0 := B5_0.2.1
  have lB5_1 := B5_1.1
  have bB5_1 := B5_1.2.1
  clear lB4_0 bB4_0
  go_wp2_with fail
  refine (eqIntSS_d hb9 (sII_v _ _ _ hS5) hb9 (sII_v _ _ _ (OD.toExt (OD.toExt (OD.toExt hS3 hx4) (alloc_ext w4 (.cells #[.int .i64 d0.1, .slice A4 d0.2.1.length c4, .slice B4 d0.2.2.length e4] 41))) hx5))).mono ?_
  rintro e w6 ⟨rfl, hx6⟩
  have B6_0 : BoxAt w6 (w.heap.size) #[.int .i64 d0.1, .slice A0 d0.2.1.length c0, .slice B0 d0.2.2.length e0] := (B5_0.toExt hx6)
  have B6_1 : BoxAt w6 (w4.heap.size) #[.int .i64 d0.1, .slice A4 d0.2.1.length c4, .slice B4 d0.2.2.length e4] := (B5_1.toExt hx6)
  have lB6_0 := B6_0.1
  have bB6_0 := B6_0.2.1
  have lB6_1 := B6_1.1
  have bB6_1 := B6_1.2.1
  clear lB5_0 bB5_0 lB5_1 bB5_1
  go_wp2_with fail
  go_region_held3 (fun w' => (∀ a : Addr, a.block < w6.heap.size → w'.cell? a = w6.cell? a) ∧ ∃ y, w' = ext w6 y) (first | exact heldE (drew_ext w6) | exact heldE (trans_ext (drew_ext w6) hx7) | exact heldE (trans_ext (trans_ext (drew_ext w6) hx7) hx8)) (first | (go_at_call_of 24 (A0); refine (toQuery_d s0 (VD.toExt r0 (trans_ext (trans_ext (trans_ext (trans_ext (trans_ext (trans_ext (trans_ext (trans_ext (alloc_ext w (.cells #[.int .i64 d0.1, .slice A0 d0.2.1.length c0, .slice B0 d0.2.2.length e0] 36)) hx1) hx2) hx3) hx4) (alloc_ext w4 (.cells #[.int .i64 d0.1, .slice A4 d0.2.1.length c4, .slice B4 d0.2.2.length e4] 41))) hx5) hx6) (drew_ext w6)))).mono ?_; rintro e w7 ⟨v7, u7, t7, F7, rfl, hx7, hS7, hN7, hF7⟩; obtain ⟨A7, c7, B7, e7, rfl, rfl, rfl⟩ := sQ_form hS7) | (go_at_call 26; refine (eqQuery_d s0 (sQ_v _ _ _ (OD.toExt (OD.toExt (OD.toExt (OD.toExt (OD.toExt hS4 (alloc_ext w4 (.cells #[.int .i64 d0.1, .slice A4 d0.2.1.length c4, .slice B4 d0.2.2.length e4] 41))) hx5) hx6) (drew_ext w6)) hx7)) s0 (sQ_v _ _ _ hS7)).mono ?_; rintro e w8 ⟨rfl, hx8⟩))
  have B8_0 : BoxAt w8 (w.heap.size) #[.int .i64 d0.1, .slice A0 d0.2.1.length c0, .slice B0 d0.2.2.length e0] := B6_0.toExt (trans_ext (trans_ext (drew_ext w6) hx7) hx8)
  have B8_1 : BoxAt w8 (w4.heap.size) #[.int .i64 d0.1, .slice A4 d0.2.1.length c4, .slice B4 d0.2.2.length e4] := B6_1.toExt (trans_ext (trans_ext (drew_ext w6) hx7) hx8)
  have lB8_0 := B8_0.1
  have bB8_0 := B8_0.2.1
  have lB8_1 := B8_1.1
  have bB8_1 := B8_1.2.1
  clear lB6_0 bB6_0 lB6_1 bB6_1
  go_wp2_with fail
  refine (markQuery_d s0 (OD.toExt (OD.toExt (OD.toExt (OD.toExt (OD.toExt (OD.toExt hS4 (alloc_ext w4 (.cells #[.int .i64 d0.1, .slice A4 d0.2.1.length c4, .slice B4 d0.2.2.length e4] 41))) hx5) hx6) (drew_ext w6)) hx7) hx8) hN4 (by omega) (by omega)).mono ?_
  rintro e w9 ⟨kk9, rfl, HK9, kl9, ku9, hS9, hC9⟩
  have B9_0 : BoxAt w9 (w.heap.size) #[.int .i64 d0.1, .slice A0 d0.2.1.length c0, .slice B0 d0.2.2.length e0] := (B8_0.chg hC9 (fun hb => by have h1 := hF4 _ hb; have h2 := size_of_ext (trans_ext hx2 hx3); have h3 := B1_0.1; omega))
  have B9_1 : BoxAt w9 (w4.heap.size) #[.int .i64 d0.1, .slice A4 d0.2.1.length c4, .slice B4 d0.2.2.length e4] := (B8_1.chg hC9 (fun hb => by have h1 := (SMono.lt hS4) _ hb; have h2 := size_of_ext (refl_ext w4); omega))
  have lB9_0 := B9_0.1
  have bB9_0 := B9_0.2.1
  have lB9_1 := B9_1.1
  have bB9_1 := B9_1.2.1
  clear lB8_0 bB8_0 lB8_1 bB8_1
  go_wp2_with fail
  refine (eqIntSS_d hb9 (sII_v _ _ _ (OD.chg (OD.toExt (OD.toExt (OD.toExt (OD.toExt hS5 hx6) (drew_ext w6)) hx7) hx8) hC9 (fun x ha hb => by have h1 := hF5 x ha; have h2 := (SMono.lt hS4) x hb; have h3 := size_of_ext (alloc_ext w4 (.cells #[.int .i64 d0.1, .slice A4 d0.2.1.length c4, .slice B4 d0.2.2.length e4] 41)); omega))) hb9 (sII_v _ _ _ (OD.chg (OD.toExt (OD.toExt (OD.toExt (OD.toExt (OD.toExt (OD.toExt (OD.toExt hS3 hx4) (alloc_ext w4 (.cells #[.int .i64 d0.1, .slice A4 d0.2.1.length c4, .slice B4 d0.2.2.length e4] 41))) hx5) hx6) (drew_ext w6)) hx7) hx8) hC9 (fun x ha hb => by have h1 := hF4 x hb; have h2 := (SMono.lt hS3) x ha; have h3 := size_of_ext (refl_ext w3); omega)))).mono ?_
  rintro e w10 ⟨rfl, hx10⟩
  have B10_0 : BoxAt w10 (w.heap.size) #[.int .i64 d0.1, .slice A0 d0.2.1.length c0, .slice B0 d0.2.2.length e0] := (B9_0.toExt hx10)
  have B10_1 : BoxAt w10 (w4.heap.size) #[.int .i64 d0.1, .slice A4 d0.2.1.length c4, .slice B4 d0.2.2.length e4] := (B9_1.toExt hx10)
  have lB10_0 := B10_0.1
  have bB10_0 := B10_0.2.1
  have lB10_1 := B10_1.1
  have bB10_1 := B10_1.2.1
  clear lB9_0 bB9_0 lB9_1 bB9_1
  go_wp2_with fail
  refine (markIntSS_d hb9 (OD.toExt (OD.chg (OD.toExt (OD.toExt (OD.toExt (OD.toExt hS5 hx6) (drew_ext w6)) hx7) hx8) hC9 (fun x ha hb => by have h1 := hF5 x ha; have h2 := (SMono.lt hS4) x hb; have h3 := size_of_ext (alloc_ext w4 (.cells #[.int .i64 d0.1, .slice A4 d0.2.1.length c4, .slice B4 d0.2.2.length e4] 41)); omega)) hx10) hN5 (by omega) (by omega)).mono ?_
  rintro e w11 ⟨kk11, rfl, HK11, kl11, ku11, hS11, hC11⟩
  have B11_0 : BoxAt w11 (w.heap.size) #[.int .i64 d0.1, .slice A0 d0.2.1.length c0, .slice B0 d0.2.2.length e0] := (B10_0.chg hC11 (fun hb => by have h1 := hF5 _ hb; have h2 := size_of_ext (trans_ext (trans_ext (trans_ext hx2 hx3) hx4) (alloc_ext w4 (.cells #[.int .i64 d0.1, .slice A4 d0.2.1.length c4, .slice B4 d0.2.2.length e4] 41))); have h3 := B1_0.1; omega))
  have B11_1 : BoxAt w11 (w4.heap.size) #[.int .i64 d0.1, .slice A4 d0.2.1.length c4, .slice B4 d0.2.2.length e4] := (B10_1.chg hC11 (fun hb => by have h1 := hF5 _ hb; have h2 := (BoxAt.new w4 #[.int .i64 d0.1, .slice A4 d0.2.1.length c4, .slice B4 d0.2.2.length e4] 41).1; omega))
  have lB11_0 := B11_0.1
  have bB11_0 := B11_0.2.1
  have lB11_1 := B11_1.1
  have bB11_1 := B11_1.2.1
  clear lB10_0 bB10_0 lB10_1 bB10_1
  go_wp2_with fail
  refine (heldIntSS_d hb9 HK11 (sII_v _ _ _ hS11) (by omega) (by omega)).mono ?_
  rintro e w12 ⟨rfl, hx12⟩
  have B12_0 : BoxAt w12 (w.heap.size) #[.int .i64 d0.1, .slice A0 d0.2.1.length c0, .slice B0 d0.2.2.length e0] := (B11_0.toExt hx12)
  have B12_1 : BoxAt w12 (w4.heap.size) #[.int .i64 d0.1, .slice A4 d0.2.1.length c4, .slice B4 d0.2.2.length e4] := (B11_1.toExt hx12)
  have lB12_0 := B12_0.1
  have bB12_0 := B12_0.2.1
  have lB12_1 := B12_1.1
  have bB12_1 := B12_1.2.1
  clear lB11_0 bB11_0 lB11_1 bB11_1
  go_wp2_with fail
  refine (toQuery_d s0 (VD.toExt r0 (trans_ext (hC11.isExt (trans_ext (hC9.isExt (trans_ext (trans_ext (trans_ext (trans_ext (trans_ext (trans_ext (trans_ext (trans_ext (trans_ext (trans_ext (alloc_ext w (.cells #[.int .i64 d0.1, .slice A0 d0.2.1.length c0, .slice B0 d0.2.2.length e0] 36)) hx1) hx2) hx3) hx4) (alloc_ext w4 (.cells #[.int .i64 d0.1, .slice A4 d0.2.1.length c4, .slice B4 d0.2.2.length e4] 41))) hx5) hx6) (drew_ext w6)) hx7) hx8) (fun b hb => Nat.le_trans (size_of_ext (trans_ext (trans_ext (trans_ext (alloc_ext w (.cells #[.int .i64 d0.1, .slice A0 d0.2.1.length c0, .slice B0 d0.2.2.length e0] 36)) hx1) hx2) hx3)) (hF4 b hb))) hx10) (fun b hb => Nat.le_trans (size_of_ext (trans_ext (trans_ext (trans_ext (trans_ext (trans_ext (alloc_ext w (.cells #[.int .i64 d0.1, .slice A0 d0.2.1.length c0, .slice B0 d0.2.2.length e0] 36)) hx1) hx2) hx3) hx4) (alloc_ext w4 (.cells #[.int .i64 d0.1, .slice A4 d0.2.1.length c4, .slice B4 d0.2.2.length e4] 41)))) (hF5 b hb))) hx12))).mono ?_
  rintro e w13 ⟨v13, u13, t13, F13, rfl, hx13, hS13, hN13, hF13⟩
  obtain ⟨A13, c13, B13, e13, rfl, rfl, rfl⟩ := sQ_form hS13
  have B13_0 : BoxAt w13 (w.heap.size) #[.int .i64 d0.1, .slice A0 d0.2.1.length c0, .slice B0 d0.2.2.length e0] := (B12_0.toExt hx13)
  have B13_1 : BoxAt w13 (w4.heap.size) #[.int .i64 d0.1, .slice A4 d0.2.1.length c4, .slice B4 d0.2.2.length e4] := (B12_1.toExt hx13)
  have lB13_0 := B13_0.1
  have bB13_0 := B13_0.2.1
  have lB13_1 := B13_1.1
  have bB13_1 := B13_1.2.1
  clear lB12_0 bB12_0 lB12_1 bB12_1
  go_wp2_with fail
  refine (ConnectedComponents_any s0 (sQ_v _ _ _ hS13)).mono ?_
  rintro e w14 ⟨v14, F14, rfl, hx14, hS14, hN14, hF14⟩
  have hS14 : sII w14 [v14] (ccQ d0) F14 := ⟨_, rfl, hS14⟩
  obtain ⟨A14, c14, rfl⟩ := sII_form hS14
  have B14_0 : BoxAt w14 (w.heap.size) #[.int .i64 d0.1, .slice A0 d0.2.1.length c0, .slice B0 d0.2.2.length e0] := (B13_0.toExt hx14)
  have B14_1 : BoxAt w14 (w4.heap.size) #[.int .i64 d0.1, .slice A4 d0.2.1.length c4, .slice B4 d0.2.2.length e4] := (B13_1.toExt hx14)
  have lB14_0 := B14_0.1
  have bB14_0 := B14_0.2.1
  have lB14_1 := B14_1.1
  have bB14_1 := B14_1.2.1
  clear lB13_0 bB13_0 lB13_1 bB13_1
  go_wp2_with fail
  refine (eqIntSS_d hb9 (sII_v _ _ _ hS14) hb9 (sII_v _ _ _ (OD.toExt (OD.toExt (OD.toExt (OD.chg (OD.toExt (OD.chg (OD.toExt (OD.toExt (OD.toExt (OD.toExt (OD.toExt (OD.toExt (OD.toExt hS3 hx4) (alloc_ext w4 (.cells #[.int .i64 d0.1, .slice A4 d0.2.1.length c4, .slice B4 d0.2.2.length e4] 41))) hx5) hx6) (drew_ext w6)) hx7) hx8) hC9 (fun x ha hb => by have h1 := hF4 x hb; have h2 := (SMono.lt hS3) x ha; have h3 := size_of_ext (refl_ext w3); omega)) hx10) hC11 (fun x ha hb => by have h1 := hF5 x hb; have h2 := (SMono.lt hS3) x ha; have h3 := size_of_ext (trans_ext hx4 (alloc_ext w4 (.cells #[.int .i64 d0.1, .slice A4 d0.2.1.length c4, .slice B4 d0.2.2.length e4] 41))); omega)) hx12) hx13) hx14))).mono ?_
  rintro e w15 ⟨rfl, hx15⟩
  have B15_0 : BoxAt w15 (w.heap.size) #[.int .i64 d0.1, .slice A0 d0.2.1.length c0, .slice B0 d0.2.2.length e0] := (B14_0.toExt hx15)
  have B15_1 : BoxAt w15 (w4.heap.size) #[.int .i64 d0.1, .slice A4 d0.2.1.length c4, .slice B4 d0.2.2.length e4] := (B14_1.toExt hx15)
  have lB15_0 := B15_0.1
  have bB15_0 := B15_0.2.1
  have lB15_1 := B15_1.1
  have bB15_1 := B15_1.2.1
  clear lB14_0 bB14_0 lB14_1 bB14_1
  go_wp2_with fail
  refine (heldIntSS_d hb9 HK11 (sII_v _ _ _ (OD.toExt (OD.toExt (OD.toExt (OD.toExt hS11 hx12) hx13) hx14) hx15)) (by omega) (by omega)).mono ?_
  rintro e w16 ⟨rfl, hx16⟩
  have B16_0 : BoxAt w16 (w.heap.size) #[.int .i64 d0.1, .slice A0 d0.2.1.length c0, .slice B0 d0.2.2.length e0] := (B15_0.toExt hx16)
  have B16_1 : BoxAt w16 (w4.heap.size) #[.int .i64 d0.1, .slice A4 d0.2.1.length c4, .slice B4 d0.2.2.length e4] := (B15_1.toExt hx16)
  have lB16_0 := B16_0.1
  have bB16_0 := B16_0.2.1
  have lB16_1 := B16_1.1
  have bB16_1 := B16_1.2.1
  clear lB15_0 bB15_0 lB15_1 bB15_1
  go_wp2
  go_ret
  exact ⟨rfl, (trans_ext (trans_ext (trans_ext (trans_ext (trans_ext (hC11.isExt (trans_ext (hC9.isExt (trans_ext (trans_ext (trans_ext (trans_ext (trans_ext (trans_ext (trans_ext (trans_ext (trans_ext (trans_ext (alloc_ext w (.cells #[.int .i64 d0.1, .slice A0 d0.2.1.length c0, .slice B0 d0.2.2.length e0] 36)) hx1) hx2) hx3) hx4) (alloc_ext w4 (.cells #[.int .i64 d0.1, .slice A4 d0.2.1.length c4, .slice B4 d0.2.2.length e4] 41))) hx5) hx6) (drew_ext w6)) hx7) hx8) (fun b hb => Nat.le_trans (size_of_ext (trans_ext (trans_ext (trans_ext (alloc_ext w (.cells #[.int .i64 d0.1, .slice A0 d0.2.1.length c0, .slice B0 d0.2.2.length e0] 36)) hx1) hx2) hx3)) (hF4 b hb))) hx10) (fun b hb => Nat.le_trans (size_of_ext (trans_ext (trans_ext (trans_ext (trans_ext (trans_ext (alloc_ext w (.cells #[.int .i64 d0.1, .slice A0 d0.2.1.length c0, .slice B0 d0.2.2.length e0] 36)) hx1) hx2) hx3) hx4) (alloc_ext w4 (.cells #[.int .i64 d0.1, .slice A4 d0.2.1.length c4, .slice B4 d0.2.2.length e4] 41)))) (hF5 b hb))) hx12) hx13) hx14) hx15) hx16)⟩

theorem law_ConnectedComponents (A0 : Option Addr) (c0 : Nat) (B0 : Option Addr) (e0 : Nat) (d0 : Qd) (w : World) (q0 : QQ d0) (r0 : vQ w [.int .i64 d0.1, .slice A0 d0.2.1.length c0, .slice B0 d0.2.2.length e0] d0) : Calls Try.prog 12 #[.agg #[.int .i64 d0.1, .slice A0 d0.2.1.length c0, .slice B0 d0.2.2.length e0]] w fun e w' => e = .returned (.bool true) ∧ ∃ y, w' = ext w y := by
  by_cases hz0 : 0 ≤ szQ (1048576) d0
  · have hy0 : szQ (1048576) d0 ≤ 1048576 := szQ_le hz0
    have b09 := szQ_small q0.1 hz0 (by omega)
    exact law_ConnectedComponents_m _ _ _ _ _ w q0 r0 hz0 hy0 (b09)
  · exact law_ConnectedComponents_z0 _ _ _ _ _ w q0 r0 (by omega)

set_option maxRecDepth 100000 in
theorem lifted_FnExactConnectedComponents (os : Os) (started : os.Started) (H : Type) (enc : TypeId × Value → H) :
    ReturnsInHanded {} Try.checked os 12 .any (Rows.fnExactConnectedComponentsSpec.pre6 enc Try.prog Try.f12 Rows.fnExactConnectedComponentsRow.domain false) (Rows.fnExactConnectedComponentsSpec.post enc Try.prog Try.f12 false true false false) := by
  refine returnsInHanded_of_change (C := Try.checked) Try.own started (by kernel_rfl) Try.func12 (ChangeSpec.witness6 (enc := enc) (C := Try.checked) false ⟨#[], #[.agg #[.int .i64 0, .slice none 0 0, .slice none 0 0]], []⟩ 8 (by kernel_rfl) (by kernel_rfl) (by kernel_rfl) (by kernel_rfl)) ?_
  intro W base args ds gs before hval0 hW hcnd _
  have hval : ∀ (j : Nat) t v, Try.f12.params[j]? = some t → args[j]? = some v → Value.okWide Try.prog W .any base t v := hval0
  clear hval0 hcnd
  obtain ⟨_, _, hA0, hV0, _, _, _⟩ := id hW
  have hA : DataW.TrodAll enc Try.prog W 0 (fun _ => true) true Try.f12.params.toList args.toList ds _ := hA0
  clear hA0
  rw [Try.params12] at hA hval
  obtain ⟨v0, d0, rfl, rfl, h0⟩ := trodAll_one hA
  obtain ⟨cs0, rfl, _⟩ := okWide_struct Try.underlying36 (hval 0 _ v0 rfl rfl)
  obtain ⟨d0, r0, qq0⟩ := openArg oQ h0
  obtain ⟨A0, c0, B0, e0, hc0⟩ := vQ_shape r0
  obtain rfl := agg3 hc0
  refine (law_ConnectedComponents A0 c0 B0 e0 d0 W qq0 r0).mono fun e W' ⟨he, hw⟩ => ?_
  exact ⟨_, he, law_post Try.laidOut hW rfl rfl rfl Try.underlying4 (by kernel_rfl) hw⟩

theorem fnExactConnectedComponents_holds : Rows.FnExactConnectedComponentsSaid :=
  OpenClaim.holds_of_wide 12 Try.f12 rfl rfl rfl rfl rfl rfl rfl ⟨rfl, rfl, rfl, rfl, rfl⟩ rfl rfl rfl rfl rfl (by kernel_rfl) Try.func12 (by kernel_rfl)
    (of_decide_eq_true (by kernel_rfl)) (by unfold Func.isWrapper; rw [if_neg (of_decide_eq_false (by kernel_rfl))]; exact ⟨rfl, rfl⟩)
    (fun os started H enc _ => lifted_FnExactConnectedComponents os started H enc)

end Go.Proofs.Ytoffbconbgipjaa
