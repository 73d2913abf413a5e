/- For all arguments the program's IsQueryFor and the reference's give the same, the arguments are left alone, and what is handed back shares no memory with them. -/
import Derived.Test.YtgoleefkbjjidaaM01
import Derived.Test.YtgoleefkbjjidaaM02
import Derived.Test.YtgoleefkbjjidaaM07
namespace Go.Proofs.Ytgoleefkbjjidaa
open Go.ChangeShapes Go.WideShapes Go.ChangeAt Go.RowKit

set_option maxRecDepth 100000 in
set_option maxHeartbeats 4000000 in
theorem law_IsQueryFor_z0 (A0 : Option Addr) (c0 : Nat) (d0 : Dbd) (A1 : Option Addr) (c1 : Nat) (B1 : Option Addr) (e1 : Nat) (d1 : Qd) (w : World) (q0 : QDb d0) (r0 : vDb w [.slice A0 d0.length c0] d0) (hz0 : szN szTb (1048576) d0 < 0) : Calls Try.prog 8 #[.agg #[.slice A0 d0.length c0], .agg #[.int .i64 d1.1, .slice A1 d1.2.1.length c1, .slice B1 d1.2.2.length e1]] w fun e w' => e = .returned (.bool true) ∧ ∃ y, w' = ext w y := by
  go_enter Try.func8, Try.ntmps8
  go_wp2_with fail
  refine (szDatabase_d q0 (VD.toExt r0 (trans_ext (alloc_ext w (.cells #[.slice A0 d0.length c0] 40)) (alloc_ext (w.alloc (.cells #[.slice A0 d0.length c0] 40)) (.cells #[.int .i64 d1.1, .slice A1 d1.2.1.length c1, .slice B1 d1.2.2.length e1] 61)))) (by omega) (by omega)).mono ?_
  rintro e w1 ⟨rfl, hx1⟩
  have B1_0 : BoxAt w1 (w.heap.size) #[.slice A0 d0.length c0] := by obtain ⟨y, e⟩ := hx1; rw [e]; refine ⟨?_, fun j => ?_, fun j => ?_⟩ <;> go_simp
  have B1_1 : BoxAt w1 (w.heap.size + 1) #[.int .i64 d1.1, .slice A1 d1.2.1.length c1, .slice B1 d1.2.2.length e1] := by obtain ⟨y, e⟩ := hx1; rw [e]; refine ⟨?_, fun j => ?_, fun j => ?_⟩ <;> go_simp
  have lB1_0 := B1_0.1
  have bB1_0 := B1_0.2.1
  have lB1_1 := B1_1.1
  have bB1_1 := B1_1.2.1
  go_wp2_with fail
  go_ret
  exact ⟨rfl, (trans_ext (trans_ext (alloc_ext w (.cells #[.slice A0 d0.length c0] 40)) (alloc_ext (w.alloc (.cells #[.slice A0 d0.length c0] 40)) (.cells #[.int .i64 d1.1, .slice A1 d1.2.1.length c1, .slice B1 d1.2.2.length e1] 61))) hx1)⟩

set_option maxRecDepth 100000 in
set_option maxHeartbeats 4000000 in
theorem law_IsQueryFor_z1 (A0 : Option Addr) (c0 : Nat) (d0 : Dbd) (A1 : Option Addr) (c1 : Nat) (B1 : Option Addr) (e1 : Nat) (d1 : Qd) (w : World) (q0 : QDb d0) (r0 : vDb w [.slice A0 d0.length c0] d0) (q1 : QQ d1) (r1 : vQ w [.int .i64 d1.1, .slice A1 d1.2.1.length c1, .slice B1 d1.2.2.length e1] d1) (hz0 : 0 ≤ szN szTb (1048576) d0) (hy0 : szN szTb (1048576) d0 ≤ 1048576) (hz1 : szQ (szN szTb (1048576) d0) d1 < 0) : Calls Try.prog 8 #[.agg #[.slice A0 d0.length c0], .agg #[.int .i64 d1.1, .slice A1 d1.2.1.length c1, .slice B1 d1.2.2.length e1]] w fun e w' => e = .returned (.bool true) ∧ ∃ y, w' = ext w y := by
  go_enter Try.func8, Try.ntmps8
  go_wp2_with fail
  refine (szDatabase_d q0 (VD.toExt r0 (trans_ext (alloc_ext w (.cells #[.slice A0 d0.length c0] 40)) (alloc_ext (w.alloc (.cells #[.slice A0 d0.length c0] 40)) (.cells #[.int .i64 d1.1, .slice A1 d1.2.1.length c1, .slice B1 d1.2.2.length e1] 61)))) (by omega) (by omega)).mono ?_
  rintro e w1 ⟨rfl, hx1⟩
  have B1_0 : BoxAt w1 (w.heap.size) #[.slice A0 d0.length c0] := by obtain ⟨y, e⟩ := hx1; rw [e]; refine ⟨?_, fun j => ?_, fun j => ?_⟩ <;> go_simp
  have B1_1 : BoxAt w1 (w.heap.size + 1) #[.int .i64 d1.1, .slice A1 d1.2.1.length c1, .slice B1 d1.2.2.length e1] := by obtain ⟨y, e⟩ := hx1; rw [e]; refine ⟨?_, fun j => ?_, fun j => ?_⟩ <;> go_simp
  have lB1_0 := B1_0.1
  have bB1_0 := B1_0.2.1
  have lB1_1 := B1_1.1
  have bB1_1 := B1_1.2.1
  go_wp2_with fail
  refine (szQuery_d q1 (VD.toExt r1 (trans_ext (trans_ext (alloc_ext w (.cells #[.slice A0 d0.length c0] 40)) (alloc_ext (w.alloc (.cells #[.slice A0 d0.length c0] 40)) (.cells #[.int .i64 d1.1, .slice A1 d1.2.1.length c1, .slice B1 d1.2.2.length e1] 61))) hx1)) (by omega) (by omega)).mono ?_
  rintro e w2 ⟨rfl, hx2⟩
  have B2_0 : BoxAt w2 (w.heap.size) #[.slice A0 d0.length c0] := (B1_0.toExt hx2)
  have B2_1 : BoxAt w2 (w.heap.size + 1) #[.int .i64 d1.1, .slice A1 d1.2.1.length c1, .slice B1 d1.2.2.length e1] := (B1_1.toExt hx2)
  have lB2_0 := B2_0.1
  have bB2_0 := B2_0.2.1
  have lB2_1 := B2_1.1
  have bB2_1 := B2_1.2.1
  clear lB1_0 bB1_0 lB1_1 bB1_1
  go_wp2_with fail
  go_ret
  exact ⟨rfl, (trans_ext (trans_ext (trans_ext (alloc_ext w (.cells #[.slice A0 d0.length c0] 40)) (alloc_ext (w.alloc (.cells #[.slice A0 d0.length c0] 40)) (.cells #[.int .i64 d1.1, .slice A1 d1.2.1.length c1, .slice B1 d1.2.2.length e1] 61))) hx1) hx2)⟩

set_option maxRecDepth 100000 in
set_option maxHeartbeats 4000000 in
theorem law_IsQueryFor_m (A0 : Option Addr) (c0 : Nat) (d0 : Dbd) (A1 : Option Addr) (c1 : Nat) (B1 : Option Addr) (e1 : Nat) (d1 : Qd) (w : World) (q0 : QDb d0) (r0 : vDb w [.slice A0 d0.length c0] d0) (q1 : QQ d1) (r1 : vQ w [.int .i64 d1.1, .slice A1 d1.2.1.length c1, .slice B1 d1.2.2.length e1] d1) (hz0 : 0 ≤ szN szTb (1048576) d0) (hy0 : szN szTb (1048576) d0 ≤ 1048576) (hz1 : 0 ≤ szQ (szN szTb (1048576) d0) d1) (hy1 : szQ (szN szTb (1048576) d0) d1 ≤ 1048576) (s0 : BDb d0) (s1 : BQ d1) : Calls Try.prog 8 #[.agg #[.slice A0 d0.length c0], .agg #[.int .i64 d1.1, .slice A1 d1.2.1.length c1, .slice B1 d1.2.2.length e1]] w fun e w' => e = .returned (.bool true) ∧ ∃ y, w' = ext w y := by
  go_enter Try.func8, Try.ntmps8
  go_wp2_with fail
  refine (szDatabase_d q0 (VD.toExt r0 (trans_ext (alloc_ext w (.cells #[.slice A0 d0.length c0] 40)) (alloc_ext (w.alloc (.cells #[.slice A0 d0.length c0] 40)) (.cells #[.int .i64 d1.1, .slice A1 d1.2.1.length c1, .slice B1 d1.2.2.length e1] 61)))) (by omega) (by omega)).mono ?_
  rintro e w1 ⟨rfl, hx1⟩
  have B1_0 : BoxAt w1 (w.heap.size) #[.slice A0 d0.length c0] := by obtain ⟨y, e⟩ := hx1; rw [e]; refine ⟨?_, fun j => ?_, fun j => ?_⟩ <;> go_simp
  have B1_1 : BoxAt w1 (w.heap.size + 1) #[.int .i64 d1.1, .slice A1 d1.2.1.length c1, .slice B1 d1.2.2.length e1] := by obtain ⟨y, e⟩ := hx1; rw [e]; refine ⟨?_, fun j => ?_, fun j => ?_⟩ <;> go_simp
  have lB1_0 := B1_0.1
  have bB1_0 := B1_0.2.1
  have lB1_1 := B1_1.1
  have bB1_1 := B1_1.2.1
  go_wp2_with fail
  refine (szQuery_d q1 (VD.toExt r1 (trans_ext (trans_ext (alloc_ext w (.cells #[.slice A0 d0.length c0] 40)) (alloc_ext (w.alloc (.cells #[.slice A0 d0.length c0] 40)) (.cells #[.int .i64 d1.1, .slice A1 d1.2.1.length c1, .slice B1 d1.2.2.length e1] 61))) hx1)) (by omega) (by omega)).mono ?_
  rintro e w2 ⟨rfl, hx2⟩
  have B2_0 : BoxAt w2 (w.heap.size) #[.slice A0 d0.length c0] := (B1_0.toExt hx2)
  have B2_1 : BoxAt w2 (w.heap.size + 1) #[.int .i64 d1.1, .slice A1 d1.2.1.length c1, .slice B1 d1.2.2.length e1] := (B1_1.toExt hx2)
  have lB2_0 := B2_0.1
  have bB2_0 := B2_0.2.1
  have lB2_1 := B2_1.1
  have bB2_1 := B2_1.2.1
  clear lB1_0 bB1_0 lB1_1 bB1_1
  go_wp2_with fail
  go_region_held3 (fun w' => (∀ a : Addr, a.block < w2.heap.size → w'.cell? a = w2.cell? a) ∧ ∃ y, w' = ext w2 y) (first | exact heldE (drew_ext w2) | exact heldE (trans_ext (drew_ext w2) hx3) | exact heldE (trans_ext (trans_ext (drew_ext w2) hx3) hx4) | exact heldE (trans_ext (trans_ext (trans_ext (drew_ext w2) hx3) hx4) hx5)) (first | (go_at_call_of 25 (A0); refine (toDatabase_d s0 (VD.toExt r0 (trans_ext (trans_ext (trans_ext (trans_ext (alloc_ext w (.cells #[.slice A0 d0.length c0] 40)) (alloc_ext (w.alloc (.cells #[.slice A0 d0.length c0] 40)) (.cells #[.int .i64 d1.1, .slice A1 d1.2.1.length c1, .slice B1 d1.2.2.length e1] 61))) hx1) hx2) (drew_ext w2)))).mono ?_; rintro e w3 ⟨v3, F3, rfl, hx3, hS3, hN3, hF3⟩; obtain ⟨A3, c3, rfl⟩ := sDb_form hS3) | (go_at_call_of 40 (A1); refine (toQuery_d s1 (VD.toExt r1 (trans_ext (trans_ext (trans_ext (trans_ext (trans_ext (alloc_ext w (.cells #[.slice A0 d0.length c0] 40)) (alloc_ext (w.alloc (.cells #[.slice A0 d0.length c0] 40)) (.cells #[.int .i64 d1.1, .slice A1 d1.2.1.length c1, .slice B1 d1.2.2.length e1] 61))) hx1) hx2) (drew_ext w2)) hx3))).mono ?_; rintro e w4 ⟨v4, u4, t4, F4, rfl, hx4, hS4, hN4, hF4⟩; obtain ⟨A4, c4, B4, e4, rfl, rfl, rfl⟩ := sQ_form hS4) | (go_at_call 39; refine (specIsQueryFor_any (BDb.w s0) (vDb_get (sDb_v _ _ _ (OD.toExt hS3 hx4))).2.1 s1 (sQ_v _ _ _ hS4)).mono ?_; rintro e w5 ⟨rfl, hx5⟩))
  have B5_0 : BoxAt w5 (w.heap.size) #[.slice A0 d0.length c0] := B2_0.toExt (trans_ext (trans_ext (trans_ext (drew_ext w2) hx3) hx4) hx5)
  have B5_1 : BoxAt w5 (w.heap.size + 1) #[.int .i64 d1.1, .slice A1 d1.2.1.length c1, .slice B1 d1.2.2.length e1] := B2_1.toExt (trans_ext (trans_ext (trans_ext (drew_ext w2) hx3) hx4) hx5)
  have lB5_0 := B5_0.1
  have bB5_0 := B5_0.2.1
  have lB5_1 := B5_1.1
  have bB5_1 := B5_1.2.1
  clear lB2_0 bB2_0 lB2_1 bB2_1
  go_wp2_with fail
  refine (toDatabase_d s0 (VD.toExt r0 (trans_ext (trans_ext (trans_ext (trans_ext (trans_ext (trans_ext (trans_ext (alloc_ext w (.cells #[.slice A0 d0.length c0] 40)) (alloc_ext (w.alloc (.cells #[.slice A0 d0.length c0] 40)) (.cells #[.int .i64 d1.1, .slice A1 d1.2.1.length c1, .slice B1 d1.2.2.length e1] 61))) hx1) hx2) (drew_ext w2)) hx3) hx4) hx5))).mono ?_
  rintro e w6 ⟨v6, F6, rfl, hx6, hS6, hN6, hF6⟩
  obtain ⟨A6, c6, rfl⟩ := sDb_form hS6
  have B6_0 : BoxAt w6 (w.heap.size) #[.slice A0 d0.length c0] := (B5_0.toExt hx6)
  have B6_1 : BoxAt w6 (w.heap.size + 1) #[.int .i64 d1.1, .slice A1 d1.2.1.length c1, .slice B1 d1.2.2.length e1] := (B5_1.toExt hx6)
  have lB6_0 := B6_0.1
  have bB6_0 := B6_0.2.1
  have lB6_1 := B6_1.1
  have bB6_1 := B6_1.2.1
  clear lB5_0 bB5_0 lB5_1 bB5_1
  go_wp2_with fail
  refine (toQuery_d s1 (VD.toExt r1 (trans_ext (trans_ext (trans_ext (trans_ext (trans_ext (trans_ext (trans_ext (trans_ext (trans_ext (alloc_ext w (.cells #[.slice A0 d0.length c0] 40)) (alloc_ext (w.alloc (.cells #[.slice A0 d0.length c0] 40)) (.cells #[.int .i64 d1.1, .slice A1 d1.2.1.length c1, .slice B1 d1.2.2.length e1] 61))) hx1) hx2) (drew_ext w2)) hx3) hx4) hx5) hx6) (alloc_ext w6 (.cells #[.slice A6 d0.length c6] 45))))).mono ?_
  rintro e w7 ⟨v7, u7, t7, F7, rfl, hx7, hS7, hN7, hF7⟩
  obtain ⟨A7, c7, B7, e7, rfl, rfl, rfl⟩ := sQ_form hS7
  have B7_0 : BoxAt w7 (w.heap.size) #[.slice A0 d0.length c0] := ((B6_0.toExt (alloc_ext w6 (.cells #[.slice A6 d0.length c6] 45))).toExt hx7)
  have B7_1 : BoxAt w7 (w.heap.size + 1) #[.int .i64 d1.1, .slice A1 d1.2.1.length c1, .slice B1 d1.2.2.length e1] := ((B6_1.toExt (alloc_ext w6 (.cells #[.slice A6 d0.length c6] 45))).toExt hx7)
  have B7_2 : BoxAt w7 (w6.heap.size) #[.slice A6 d0.length c6] := ((BoxAt.new _ _ _).toExt hx7)
  have lB7_0 := B7_0.1
  have bB7_0 := B7_0.2.1
  have lB7_1 := B7_1.1
  have bB7_1 := B7_1.2.1
  have lB7_2 := B7_2.1
  have bB7_2 := B7_2.2.1
  clear lB6_0 bB6_0 lB6_1 bB6_1
  go_wp2_with fail
  refine (IsQueryFor_any (BDb.w s0) (vDb_get (sDb_v _ _ _ (OD.toExt (OD.toExt (OD.toExt hS6 (alloc_ext w6 (.cells #[.slice A6 d0.length c6] 45))) hx7) (alloc_ext w7 (.cells #[.int .i64 d1.1, .slice A7 d1.2.1.length c7, .slice B7 d1.2.2.length e7] 66))))).2.1 s1 (sQ_v _ _ _ (OD.toExt hS7 (alloc_ext w7 (.cells #[.int .i64 d1.1, .slice A7 d1.2.1.length c7, .slice B7 d1.2.2.length e7] 66))))).mono ?_
  rintro e w8 ⟨rfl, hx8⟩
  have B8_0 : BoxAt w8 (w.heap.size) #[.slice A0 d0.length c0] := ((B7_0.toExt (alloc_ext w7 (.cells #[.int .i64 d1.1, .slice A7 d1.2.1.length c7, .slice B7 d1.2.2.length e7] 66))).toExt hx8)
  have B8_1 : BoxAt w8 (w.heap.size + 1) #[.int .i64 d1.1, .slice A1 d1.2.1.length c1, .slice B1 d1.2.2.length e1] := ((B7_1.toExt (alloc_ext w7 (.cells #[.int .i64 d1.1, .slice A7 d1.2.1.length c7, .slice B7 d1.2.2.length e7] 66))).toExt hx8)
  have B8_2 : BoxAt w8 (w6.heap.size) #[.slice A6 d0.length c6] := ((B7_2.toExt (alloc_ext w7 (.cells #[.int .i64 d1.1, .slice A7 d1.2.1.length c7, .slice B7 d1.2.2.length e7] 66))).toExt hx8)
  have B8_3 : BoxAt w8 (w7.heap.size) #[.int .i64 d1.1, .slice A7 d1.2.1.length c7, .slice B7 d1.2.2.length e7] := ((BoxAt.new _ _ _).toExt hx8)
  have lB8_0 := B8_0.1
  have bB8_0 := B8_0.2.1
  have lB8_1 := B8_1.1
  have bB8_1 := B8_1.2.1
  have lB8_2 := B8_2.1
  have bB8_2 := B8_2.2.1
  have lB8_3 := B8_3.1
  have bB8_3 := B8_3.2.1
  clear lB7_0 bB7_0 lB7_1 bB7_1 lB7_2 bB7_2
  go_wp2_with fail
  go_region_held3 (fun w' => (∀ a : Addr, a.block < w8.heap.size → w'.cell? a = w8.cell? a) ∧ ∃ y, w' = ext w8 y) (first | exact heldE (drew_ext w8) | exact heldE (trans_ext (drew_ext w8) hx9) | exact heldE (trans_ext (trans_ext (drew_ext w8) hx9) hx10)) (first | (go_at_call_of 25 (A0); refine (toDatabase_d s0 (VD.toExt r0 (trans_ext (trans_ext (trans_ext (trans_ext (trans_ext (trans_ext (trans_ext (trans_ext (trans_ext (trans_ext (trans_ext (trans_ext (trans_ext (alloc_ext w (.cells #[.slice A0 d0.length c0] 40)) (alloc_ext (w.alloc (.cells #[.slice A0 d0.length c0] 40)) (.cells #[.int .i64 d1.1, .slice A1 d1.2.1.length c1, .slice B1 d1.2.2.length e1] 61))) hx1) hx2) (drew_ext w2)) hx3) hx4) hx5) hx6) (alloc_ext w6 (.cells #[.slice A6 d0.length c6] 45))) hx7) (alloc_ext w7 (.cells #[.int .i64 d1.1, .slice A7 d1.2.1.length c7, .slice B7 d1.2.2.length e7] 66))) hx8) (drew_ext w8)))).mono ?_; rintro e w9 ⟨v9, F9, rfl, hx9, hS9, hN9, hF9⟩; obtain ⟨A9, c9, rfl⟩ := sDb_form hS9) | (go_at_call 27; refine (eqDatabase_d s0 (sDb_v _ _ _ (OD.toExt (OD.toExt (OD.toExt (OD.toExt (OD.toExt (OD.toExt hS6 (alloc_ext w6 (.cells #[.slice A6 d0.length c6] 45))) hx7) (alloc_ext w7 (.cells #[.int .i64 d1.1, .slice A7 d1.2.1.length c7, .slice B7 d1.2.2.length e7] 66))) hx8) (drew_ext w8)) hx9)) s0 (sDb_v _ _ _ hS9)).mono ?_; rintro e w10 ⟨rfl, hx10⟩))
  have B10_0 : BoxAt w10 (w.heap.size) #[.slice A0 d0.length c0] := B8_0.toExt (trans_ext (trans_ext (drew_ext w8) hx9) hx10)
  have B10_1 : BoxAt w10 (w.heap.size + 1) #[.int .i64 d1.1, .slice A1 d1.2.1.length c1, .slice B1 d1.2.2.length e1] := B8_1.toExt (trans_ext (trans_ext (drew_ext w8) hx9) hx10)
  have B10_2 : BoxAt w10 (w6.heap.size) #[.slice A6 d0.length c6] := B8_2.toExt (trans_ext (trans_ext (drew_ext w8) hx9) hx10)
  have B10_3 : BoxAt w10 (w7.heap.size) #[.int .i64 d1.1, .slice A7 d1.2.1.length c7, .slice B7 d1.2.2.length e7] := B8_3.toExt (trans_ext (trans_ext (drew_ext w8) hx9) hx10)
  have lB10_0 := B10_0.1
  have bB10_0 := B10_0.2.1
  have lB10_1 := B10_1.1
  have bB10_1 := B10_1.2.1
  have lB10_2 := B10_2.1
  have bB10_2 := B10_2.2.1
  have lB10_3 := B10_3.1
  have bB10_3 := B10_3.2.1
  clear lB8_0 bB8_0 lB8_1 bB8_1 lB8_2 bB8_2 lB8_3 bB8_3
  go_wp2_with fail
  go_region_held3 (fun w' => (∀ a : Addr, a.block < w10.heap.size → w'.cell? a = w10.cell? a) ∧ ∃ y, w' = ext w10 y) (first | exact heldE (drew_ext w10) | exact heldE (trans_ext (drew_ext w10) hx11) | exact heldE (trans_ext (trans_ext (drew_ext w10) hx11) hx12)) (first | (go_at_call_of 40 (A1); refine (toQuery_d s1 (VD.toExt r1 (trans_ext (trans_ext (trans_ext (trans_ext (trans_ext (trans_ext (trans_ext (trans_ext (trans_ext (trans_ext (trans_ext (trans_ext (trans_ext (trans_ext (trans_ext (trans_ext (alloc_ext w (.cells #[.slice A0 d0.length c0] 40)) (alloc_ext (w.alloc (.cells #[.slice A0 d0.length c0] 40)) (.cells #[.int .i64 d1.1, .slice A1 d1.2.1.length c1, .slice B1 d1.2.2.length e1] 61))) hx1) hx2) (drew_ext w2)) hx3) hx4) hx5) hx6) (alloc_ext w6 (.cells #[.slice A6 d0.length c6] 45))) hx7) (alloc_ext w7 (.cells #[.int .i64 d1.1, .slice A7 d1.2.1.length c7, .slice B7 d1.2.2.length e7] 66))) hx8) (drew_ext w8)) hx9) hx10) (drew_ext w10)))).mono ?_; rintro e w11 ⟨v11, u11, t11, F11, rfl, hx11, hS11, hN11, hF11⟩; obtain ⟨A11, c11, B11, e11, rfl, rfl, rfl⟩ := sQ_form hS11) | (go_at_call 42; refine (eqQuery_d s1 (sQ_v _ _ _ (OD.toExt (OD.toExt (OD.toExt (OD.toExt (OD.toExt (OD.toExt (OD.toExt hS7 (alloc_ext w7 (.cells #[.int .i64 d1.1, .slice A7 d1.2.1.length c7, .slice B7 d1.2.2.length e7] 66))) hx8) (drew_ext w8)) hx9) hx10) (drew_ext w10)) hx11)) s1 (sQ_v _ _ _ hS11)).mono ?_; rintro e w12 ⟨rfl, hx12⟩))
  have B12_0 : BoxAt w12 (w.heap.size) #[.slice A0 d0.length c0] := B10_0.toExt (trans_ext (trans_ext (drew_ext w10) hx11) hx12)
  have B12_1 : BoxAt w12 (w.heap.size + 1) #[.int .i64 d1.1, .slice A1 d1.2.1.length c1, .slice B1 d1.2.2.length e1] := B10_1.toExt (trans_ext (trans_ext (drew_ext w10) hx11) hx12)
  have B12_2 : BoxAt w12 (w6.heap.size) #[.slice A6 d0.length c6] := B10_2.toExt (trans_ext (trans_ext (drew_ext w10) hx11) hx12)
  have B12_3 : BoxAt w12 (w7.heap.size) #[.int .i64 d1.1, .slice A7 d1.2.1.length c7, .slice B7 d1.2.2.length e7] := B10_3.toExt (trans_ext (trans_ext (drew_ext w10) hx11) hx12)
  have lB12_0 := B12_0.1
  have bB12_0 := B12_0.2.1
  have lB12_1 := B12_1.1
  have bB12_1 := B12_1.2.1
  have lB12_2 := B12_2.1
  have bB12_2 := B12_2.2.1
  have lB12_3 := B12_3.1
  have bB12_3 := B12_3.2.1
  clear lB10_0 bB10_0 lB10_1 bB10_1 lB10_2 bB10_2 lB10_3 bB10_3
  go_wp2
  go_ret
  exact ⟨rfl, (trans_ext (trans_ext (trans_ext (trans_ext (trans_ext (trans_ext (trans_ext (trans_ext (trans_ext (trans_ext (trans_ext (trans_ext (trans_ext (trans_ext (trans_ext (trans_ext (trans_ext (trans_ext (alloc_ext w (.cells #[.slice A0 d0.length c0] 40)) (alloc_ext (w.alloc (.cells #[.slice A0 d0.length c0] 40)) (.cells #[.int .i64 d1.1, .slice A1 d1.2.1.length c1, .slice B1 d1.2.2.length e1] 61))) hx1) hx2) (drew_ext w2)) hx3) hx4) hx5) hx6) (alloc_ext w6 (.cells #[.slice A6 d0.length c6] 45))) hx7) (alloc_ext w7 (.cells #[.int .i64 d1.1, .slice A7 d1.2.1.length c7, .slice B7 d1.2.2.length e7] 66))) hx8) (drew_ext w8)) hx9) hx10) (drew_ext w10)) hx11) hx12)⟩

theorem law_IsQueryFor (A0 : Option Addr) (c0 : Nat) (d0 : Dbd) (A1 : Option Addr) (c1 : Nat) (B1 : Option Addr) (e1 : Nat) (d1 : Qd) (w : World) (q0 : QDb d0) (r0 : vDb w [.slice A0 d0.length c0] d0) (q1 : QQ d1) (r1 : vQ w [.int .i64 d1.1, .slice A1 d1.2.1.length c1, .slice B1 d1.2.2.length e1] d1) : Calls Try.prog 8 #[.agg #[.slice A0 d0.length c0], .agg #[.int .i64 d1.1, .slice A1 d1.2.1.length c1, .slice B1 d1.2.2.length e1]] w fun e w' => e = .returned (.bool true) ∧ ∃ y, w' = ext w y := by
  by_cases hz0 : 0 ≤ szN szTb (1048576) d0
  · have hy0 : szN szTb (1048576) d0 ≤ 1048576 := szDb_le hz0
    by_cases hz1 : 0 ≤ szQ (szN szTb (1048576) d0) d1
    · have hy1 : szQ (szN szTb (1048576) d0) d1 ≤ 1048576 := Int.le_trans (szQ_le hz1) hy0
      have b09 := szDb_small q0 hz0 (by omega)
      have b19 := szQ_small q1.1 hz1 (by omega)
      exact law_IsQueryFor_m _ _ _ _ _ _ _ _ w q0 r0 q1 r1 hz0 hy0 hz1 hy1 (b09) (b19)
    · exact law_IsQueryFor_z1 _ _ _ _ _ _ _ _ w q0 r0 q1 r1 hz0 hy0 (by omega)
  · exact law_IsQueryFor_z0 _ _ _ _ _ _ _ _ w q0 r0 (by omega)

set_option maxRecDepth 100000 in
theorem lifted_FnExactIsQueryFor (os : Os) (started : os.Started) (H : Type) (enc : TypeId × Value → H) :
    ReturnsInHanded {} Try.checked os 8 .any (Rows.fnExactIsQueryForSpec.pre6 enc Try.prog Try.f8 Rows.fnExactIsQueryForRow.domain false) (Rows.fnExactIsQueryForSpec.post enc Try.prog Try.f8 false true false false) := by
  refine returnsInHanded_of_change (C := Try.checked) Try.own started (by kernel_rfl) Try.func8 (ChangeSpec.witness6 (enc := enc) (C := Try.checked) false ⟨#[], #[.agg #[.slice none 0 0], .agg #[.int .i64 0, .slice none 0 0, .slice none 0 0]], []⟩ 8 (by kernel_rfl) (by kernel_rfl) (by kernel_rfl) (by kernel_rfl)) ?_
  intro W base args ds gs before hval0 hW hcnd _
  have hval : ∀ (j : Nat) t v, Try.f8.params[j]? = some t → args[j]? = some v → Value.okWide Try.prog W .any base t v := hval0
  clear hval0 hcnd
  obtain ⟨_, _, hA0, hV0, _, _, _⟩ := id hW
  have hA : DataW.TrodAll enc Try.prog W 0 (fun _ => true) true Try.f8.params.toList args.toList ds _ := hA0
  clear hA0
  rw [Try.params8] at hA hval
  obtain ⟨v0, v1, d0, d1, p0, p1, rfl, rfl, e9, h0, h1⟩ := trodAll_two hA
  obtain ⟨cs0, rfl, _⟩ := okWide_struct Try.underlying40 (hval 0 _ v0 rfl rfl)
  obtain ⟨d0, r0, qq0⟩ := openArg oDb h0
  obtain ⟨A0, c0, hc0⟩ := vDb_shape r0
  obtain rfl := agg1 hc0
  obtain ⟨cs1, rfl, _⟩ := okWide_struct Try.underlying61 (hval 1 _ v1 rfl rfl)
  obtain ⟨d1, r1, qq1⟩ := openArg oQ h1
  obtain ⟨A1, c1, B1, e1, hc1⟩ := vQ_shape r1
  obtain rfl := agg3 hc1
  refine (law_IsQueryFor A0 c0 d0 A1 c1 B1 e1 d1 W qq0 r0 qq1 r1).mono fun e W' ⟨he, hw⟩ => ?_
  exact ⟨_, he, law_post Try.laidOut hW rfl rfl rfl Try.underlying4 (by kernel_rfl) hw⟩

theorem fnExactIsQueryFor_holds : Rows.FnExactIsQueryForSaid :=
  OpenClaim.holds_of_wide 8 Try.f8 rfl rfl rfl rfl rfl rfl rfl ⟨rfl, rfl, rfl, rfl, rfl⟩ rfl rfl rfl rfl rfl (by kernel_rfl) Try.func8 (by kernel_rfl)
    (of_decide_eq_true (by kernel_rfl)) (by unfold Func.isWrapper; rw [if_neg (of_decide_eq_false (by kernel_rfl))]; exact ⟨rfl, rfl⟩)
    (fun os started H enc _ => lifted_FnExactIsQueryFor os started H enc)

end Go.Proofs.Ytgoleefkbjjidaa
