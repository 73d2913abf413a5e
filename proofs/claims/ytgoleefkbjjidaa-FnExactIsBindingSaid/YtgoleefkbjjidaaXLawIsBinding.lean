/- For all arguments the program's IsBinding and the reference's give the same, the arguments are left alone, and what is handed back shares no memory with them. -/
import Derived.Test.YtgoleefkbjjidaaM01
import Derived.Test.YtgoleefkbjjidaaM02
import Derived.Test.YtgoleefkbjjidaaM07
namespace Go.Proofs.Ytgoleefkbjjidaa
open Go.ChangeShapes Go.WideShapes Go.ChangeAt Go.RowKit

set_option maxRecDepth 100000 in
set_option maxHeartbeats 4000000 in
theorem law_IsBinding_g0 (A0 : Option Addr) (c0 : Nat) (d0 : Dbd) (A1 : Option Addr) (c1 : Nat) (B1 : Option Addr) (e1 : Nat) (d1 : Qd) (A2 : Option Addr) (c2 : Nat) (x2 : List Int) (w : World)  (hg0 : 1048576 < x2.length) : Calls Try.prog 9 #[.agg #[.slice A0 d0.length c0], .agg #[.int .i64 d1.1, .slice A1 d1.2.1.length c1, .slice B1 d1.2.2.length e1], .slice A2 x2.length c2] w fun e w' => e = .returned (.bool true) ∧ ∃ y, w' = ext w y := by
  go_enter Try.func9, Try.ntmps9
  go_wp2_with fail
  go_ret
  exact ⟨rfl, (trans_ext (alloc_ext w (.cells #[.slice A0 d0.length c0] 40)) (alloc_ext (w.alloc (.cells #[.slice A0 d0.length c0] 40)) (.cells #[.int .i64 d1.1, .slice A1 d1.2.1.length c1, .slice B1 d1.2.2.length e1] 61)))⟩

set_option maxRecDepth 100000 in
set_option maxHeartbeats 4000000 in
theorem law_IsBinding_z0 (A0 : Option Addr) (c0 : Nat) (d0 : Dbd) (A1 : Option Addr) (c1 : Nat) (B1 : Option Addr) (e1 : Nat) (d1 : Qd) (A2 : Option Addr) (c2 : Nat) (x2 : List Int) (w : World) (q0 : QDb d0) (r0 : vDb w [.slice A0 d0.length c0] d0) (s2 : x2.length ≤ 1048576) (hz0 : szN szTb (1048576) d0 < 0) : Calls Try.prog 9 #[.agg #[.slice A0 d0.length c0], .agg #[.int .i64 d1.1, .slice A1 d1.2.1.length c1, .slice B1 d1.2.2.length e1], .slice A2 x2.length c2] w fun e w' => e = .returned (.bool true) ∧ ∃ y, w' = ext w y := by
  go_enter Try.func9, Try.ntmps9
  go_wp2_with fail
  refine (szDatabase_d q0 (VD.toExt r0 (trans_ext (alloc_ext w (.cells #[.slice A0 d0.length c0] 40)) (alloc_ext (w.alloc (.cells #[.slice A0 d0.length c0] 40)) (.cells #[.int .i64 d1.1, .slice A1 d1.2.1.length c1, .slice B1 d1.2.2.length e1] 61)))) (by omega) (by omega)).mono ?_
  rintro e w1 ⟨rfl, hx1⟩
  have B1_0 : BoxAt w1 (w.heap.size) #[.slice A0 d0.length c0] := by obtain ⟨y, e⟩ := hx1; rw [e]; refine ⟨?_, fun j => ?_, fun j => ?_⟩ <;> go_simp
  have B1_1 : BoxAt w1 (w.heap.size + 1) #[.int .i64 d1.1, .slice A1 d1.2.1.length c1, .slice B1 d1.2.2.length e1] := by obtain ⟨y, e⟩ := hx1; rw [e]; refine ⟨?_, fun j => ?_, fun j => ?_⟩ <;> go_simp
  have lB1_0 := B1_0.1
  have bB1_0 := B1_0.2.1
  have lB1_1 := B1_1.1
  have bB1_1 := B1_1.2.1
  go_wp2_with fail
  go_ret
  exact ⟨rfl, (trans_ext (trans_ext (alloc_ext w (.cells #[.slice A0 d0.length c0] 40)) (alloc_ext (w.alloc (.cells #[.slice A0 d0.length c0] 40)) (.cells #[.int .i64 d1.1, .slice A1 d1.2.1.length c1, .slice B1 d1.2.2.length e1] 61))) hx1)⟩

set_option maxRecDepth 100000 in
set_option maxHeartbeats 4000000 in
theorem law_IsBinding_z1 (A0 : Option Addr) (c0 : Nat) (d0 : Dbd) (A1 : Option Addr) (c1 : Nat) (B1 : Option Addr) (e1 : Nat) (d1 : Qd) (A2 : Option Addr) (c2 : Nat) (x2 : List Int) (w : World) (q0 : QDb d0) (r0 : vDb w [.slice A0 d0.length c0] d0) (q1 : QQ d1) (r1 : vQ w [.int .i64 d1.1, .slice A1 d1.2.1.length c1, .slice B1 d1.2.2.length e1] d1) (s2 : x2.length ≤ 1048576) (hz0 : 0 ≤ szN szTb (1048576) d0) (hy0 : szN szTb (1048576) d0 ≤ 1048576) (hz1 : szQ (szN szTb (1048576) d0) d1 < 0) : Calls Try.prog 9 #[.agg #[.slice A0 d0.length c0], .agg #[.int .i64 d1.1, .slice A1 d1.2.1.length c1, .slice B1 d1.2.2.length e1], .slice A2 x2.length c2] w fun e w' => e = .returned (.bool true) ∧ ∃ y, w' = ext w y := by
  go_enter Try.func9, Try.ntmps9
  go_wp2_with fail
  refine (szDatabase_d q0 (VD.toExt r0 (trans_ext (alloc_ext w (.cells #[.slice A0 d0.length c0] 40)) (alloc_ext (w.alloc (.cells #[.slice A0 d0.length c0] 40)) (.cells #[.int .i64 d1.1, .slice A1 d1.2.1.length c1, .slice B1 d1.2.2.length e1] 61)))) (by omega) (by omega)).mono ?_
  rintro e w1 ⟨rfl, hx1⟩
  have B1_0 : BoxAt w1 (w.heap.size) #[.slice A0 d0.length c0] := by obtain ⟨y, e⟩ := hx1; rw [e]; refine ⟨?_, fun j => ?_, fun j => ?_⟩ <;> go_simp
  have B1_1 : BoxAt w1 (w.heap.size + 1) #[.int .i64 d1.1, .slice A1 d1.2.1.length c1, .slice B1 d1.2.2.length e1] := by obtain ⟨y, e⟩ := hx1; rw [e]; refine ⟨?_, fun j => ?_, fun j => ?_⟩ <;> go_simp
  have lB1_0 := B1_0.1
  have bB1_0 := B1_0.2.1
  have lB1_1 := B1_1.1
  have bB1_1 := B1_1.2.1
  go_wp2_with fail
  refine (szQuery_d q1 (VD.toExt r1 (trans_ext (trans_ext (alloc_ext w (.cells #[.slice A0 d0.length c0] 40)) (alloc_ext (w.alloc (.cells #[.slice A0 d0.length c0] 40)) (.cells #[.int .i64 d1.1, .slice A1 d1.2.1.length c1, .slice B1 d1.2.2.length e1] 61))) hx1)) (by omega) (by omega)).mono ?_
  rintro e w2 ⟨rfl, hx2⟩
  have B2_0 : BoxAt w2 (w.heap.size) #[.slice A0 d0.length c0] := (B1_0.toExt hx2)
  have B2_1 : BoxAt w2 (w.heap.size + 1) #[.int .i64 d1.1, .slice A1 d1.2.1.length c1, .slice B1 d1.2.2.length e1] := (B1_1.toExt hx2)
  have lB2_0 := B2_0.1
  have bB2_0 := B2_0.2.1
  have lB2_1 := B2_1.1
  have bB2_1 := B2_1.2.1
  clear lB1_0 bB1_0 lB1_1 bB1_1
  go_wp2_with fail
  go_ret
  exact ⟨rfl, (trans_ext (trans_ext (trans_ext (alloc_ext w (.cells #[.slice A0 d0.length c0] 40)) (alloc_ext (w.alloc (.cells #[.slice A0 d0.length c0] 40)) (.cells #[.int .i64 d1.1, .slice A1 d1.2.1.length c1, .slice B1 d1.2.2.length e1] 61))) hx1) hx2)⟩

set_option maxRecDepth 100000 in
set_option maxHeartbeats 4000000 in
theorem law_IsBinding_m (A0 : Option Addr) (c0 : Nat) (d0 : Dbd) (A1 : Option Addr) (c1 : Nat) (B1 : Option Addr) (e1 : Nat) (d1 : Qd) (A2 : Option Addr) (c2 : Nat) (x2 : List Int) (w : World) (q0 : QDb d0) (r0 : vDb w [.slice A0 d0.length c0] d0) (q1 : QQ d1) (r1 : vQ w [.int .i64 d1.1, .slice A1 d1.2.1.length c1, .slice B1 d1.2.2.length e1] d1) (r2 : RI w A2 x2) (hz0 : 0 ≤ szN szTb (1048576) d0) (hy0 : szN szTb (1048576) d0 ≤ 1048576) (hz1 : 0 ≤ szQ (szN szTb (1048576) d0) d1) (hy1 : szQ (szN szTb (1048576) d0) d1 ≤ 1048576) (s0 : BDb d0) (s1 : BQ d1) (s2 : x2.length ≤ 1048576) : Calls Try.prog 9 #[.agg #[.slice A0 d0.length c0], .agg #[.int .i64 d1.1, .slice A1 d1.2.1.length c1, .slice B1 d1.2.2.length e1], .slice A2 x2.length c2] w fun e w' => e = .returned (.bool true) ∧ ∃ y, w' = ext w y := by
  go_enter Try.func9, Try.ntmps9
  go_wp2_with fail
  refine (szDatabase_d q0 (VD.toExt r0 (trans_ext (alloc_ext w (.cells #[.slice A0 d0.length c0] 40)) (alloc_ext (w.alloc (.cells #[.slice A0 d0.length c0] 40)) (.cells #[.int .i64 d1.1, .slice A1 d1.2.1.length c1, .slice B1 d1.2.2.length e1] 61)))) (by omega) (by omega)).mono ?_
  rintro e w1 ⟨rfl, hx1⟩
  have B1_0 : BoxAt w1 (w.heap.size) #[.slice A0 d0.length c0] := by obtain ⟨y, e⟩ := hx1; rw [e]; refine ⟨?_, fun j => ?_, fun j => ?_⟩ <;> go_simp
  have B1_1 : BoxAt w1 (w.heap.size + 1) #[.int .i64 d1.1, .slice A1 d1.2.1.length c1, .slice B1 d1.2.2.length e1] := by obtain ⟨y, e⟩ := hx1; rw [e]; refine ⟨?_, fun j => ?_, fun j => ?_⟩ <;> go_simp
  have lB1_0 := B1_0.1
  have bB1_0 := B1_0.2.1
  have lB1_1 := B1_1.1
  have bB1_1 := B1_1.2.1
  go_wp2_with fail
  refine (szQuery_d q1 (VD.toExt r1 (trans_ext (trans_ext (alloc_ext w (.cells #[.slice A0 d0.length c0] 40)) (alloc_ext (w.alloc (.cells #[.slice A0 d0.length c0] 40)) (.cells #[.int .i64 d1.1, .slice A1 d1.2.1.length c1, .slice B1 d1.2.2.length e1] 61))) hx1)) (by omega) (by omega)).mono ?_
  rintro e w2 ⟨rfl, hx2⟩
  have B2_0 : BoxAt w2 (w.heap.size) #[.slice A0 d0.length c0] := (B1_0.toExt hx2)
  have B2_1 : BoxAt w2 (w.heap.size + 1) #[.int .i64 d1.1, .slice A1 d1.2.1.length c1, .slice B1 d1.2.2.length e1] := (B1_1.toExt hx2)
  have lB2_0 := B2_0.1
  have bB2_0 := B2_0.2.1
  have lB2_1 := B2_1.1
  have bB2_1 := B2_1.2.1
  clear lB1_0 bB1_0 lB1_1 bB1_1
  go_wp2_with fail
  go_region_held3 (fun w' => (∀ a : Addr, a.block < w2.heap.size → w'.cell? a = w2.cell? a) ∧ ∃ y, w' = ext w2 y) (first | exact heldE (drew_ext w2) | exact heldE (trans_ext (drew_ext w2) hx3) | exact heldE (trans_ext (trans_ext (drew_ext w2) hx3) hx4) | exact heldE (trans_ext (trans_ext (trans_ext (drew_ext w2) hx3) hx4) hx5) | exact heldE (trans_ext (trans_ext (trans_ext (trans_ext (drew_ext w2) hx3) hx4) hx5) hx6)) (first | (go_at_call_of 25 (A0); refine (toDatabase_d s0 (VD.toExt r0 (trans_ext (trans_ext (trans_ext (trans_ext (alloc_ext w (.cells #[.slice A0 d0.length c0] 40)) (alloc_ext (w.alloc (.cells #[.slice A0 d0.length c0] 40)) (.cells #[.int .i64 d1.1, .slice A1 d1.2.1.length c1, .slice B1 d1.2.2.length e1] 61))) hx1) hx2) (drew_ext w2)))).mono ?_; rintro e w3 ⟨v3, F3, rfl, hx3, hS3, hN3, hF3⟩; obtain ⟨A3, c3, rfl⟩ := sDb_form hS3) | (go_at_call_of 40 (A1); refine (toQuery_d s1 (VD.toExt r1 (trans_ext (trans_ext (trans_ext (trans_ext (trans_ext (alloc_ext w (.cells #[.slice A0 d0.length c0] 40)) (alloc_ext (w.alloc (.cells #[.slice A0 d0.length c0] 40)) (.cells #[.int .i64 d1.1, .slice A1 d1.2.1.length c1, .slice B1 d1.2.2.length e1] 61))) hx1) hx2) (drew_ext w2)) hx3))).mono ?_; rintro e w4 ⟨v4, u4, t4, F4, rfl, hx4, hS4, hN4, hF4⟩; obtain ⟨A4, c4, B4, e4, rfl, rfl, rfl⟩ := sQ_form hS4) | (go_at_call_of 44 (A2); refine (toIntS_any s2 (r2.toExt (trans_ext (trans_ext (trans_ext (trans_ext (trans_ext (trans_ext (alloc_ext w (.cells #[.slice A0 d0.length c0] 40)) (alloc_ext (w.alloc (.cells #[.slice A0 d0.length c0] 40)) (.cells #[.int .i64 d1.1, .slice A1 d1.2.1.length c1, .slice B1 d1.2.2.length e1] 61))) hx1) hx2) (drew_ext w2)) hx3) hx4))).mono ?_; rintro e w5 ⟨v5, F5, rfl, hx5, hS5, hF5⟩; obtain ⟨A5, c5, rfl, _, _, r5⟩ := hS5.view sI_v) | (go_at_call 43; refine (specIsBinding_any (BDb.w s0) (vDb_get (sDb_v _ _ _ (OD.toExt (OD.toExt hS3 hx4) hx5))).2.1 s1 (sQ_v _ _ _ (OD.toExt hS4 hx5)) (by omega) r5).mono ?_; rintro e w6 ⟨rfl, hx6⟩))
  have B6_0 : BoxAt w6 (w.heap.size) #[.slice A0 d0.length c0] := B2_0.toExt (trans_ext (trans_ext (trans_ext (trans_ext (drew_ext w2) hx3) hx4) hx5) hx6)
  have B6_1 : BoxAt w6 (w.heap.size + 1) #[.int .i64 d1.1, .slice A1 d1.2.1.length c1, .slice B1 d1.2.2.length e1] := B2_1.toExt (trans_ext (trans_ext (trans_ext (trans_ext (drew_ext w2) hx3) hx4) hx5) hx6)
  have lB6_0 := B6_0.1
  have bB6_0 := B6_0.2.1
  have lB6_1 := B6_1.1
  have bB6_1 := B6_1.2.1
  clear lB2_0 bB2_0 lB2_1 bB2_1
  go_wp2_with fail
  refine (toDatabase_d s0 (VD.toExt r0 (trans_ext (trans_ext (trans_ext (trans_ext (trans_ext (trans_ext (trans_ext (trans_ext (alloc_ext w (.cells #[.slice A0 d0.length c0] 40)) (alloc_ext (w.alloc (.cells #[.slice A0 d0.length c0] 40)) (.cells #[.int .i64 d1.1, .slice A1 d1.2.1.length c1, .slice B1 d1.2.2.length e1] 61))) hx1) hx2) (drew_ext w2)) hx3) hx4) hx5) hx6))).mono ?_
  rintro e w7 ⟨v7, F7, rfl, hx7, hS7, hN7, hF7⟩
  obtain ⟨A7, c7, rfl⟩ := sDb_form hS7
  have B7_0 : BoxAt w7 (w.heap.size) #[.slice A0 d0.length c0] := (B6_0.toExt hx7)
  have B7_1 : BoxAt w7 (w.heap.size + 1) #[.int .i64 d1.1, .slice A1 d1.2.1.length c1, .slice B1 d1.2.2.length e1] := (B6_1.toExt hx7)
  have lB7_0 := B7_0.1
  have bB7_0 := B7_0.2.1
  have lB7_1 := B7_1.1
  have bB7_1 := B7_1.2.1
  clear lB6_0 bB6_0 lB6_1 bB6_1
  go_wp2_with fail
  refine (toQuery_d s1 (VD.toExt r1 (trans_ext (trans_ext (trans_ext (trans_ext (trans_ext (trans_ext (trans_ext (trans_ext (trans_ext (trans_ext (alloc_ext w (.cells #[.slice A0 d0.length c0] 40)) (alloc_ext (w.alloc (.cells #[.slice A0 d0.length c0] 40)) (.cells #[.int .i64 d1.1, .slice A1 d1.2.1.length c1, .slice B1 d1.2.2.length e1] 61))) hx1) hx2) (drew_ext w2)) hx3) hx4) hx5) hx6) hx7) (alloc_ext w7 (.cells #[.slice A7 d0.length c7] 45))))).mono ?_
  rintro e w8 ⟨v8, u8, t8, F8, rfl, hx8, hS8, hN8, hF8⟩
  obtain ⟨A8, c8, B8, e8, rfl, rfl, rfl⟩ := sQ_form hS8
  have B8_0 : BoxAt w8 (w.heap.size) #[.slice A0 d0.length c0] := ((B7_0.toExt (alloc_ext w7 (.cells #[.slice A7 d0.length c7] 45))).toExt hx8)
  have B8_1 : BoxAt w8 (w.heap.size + 1) #[.int .i64 d1.1, .slice A1 d1.2.1.length c1, .slice B1 d1.2.2.length e1] := ((B7_1.toExt (alloc_ext w7 (.cells #[.slice A7 d0.length c7] 45))).toExt hx8)
  have B8_2 : BoxAt w8 (w7.heap.size) #[.slice A7 d0.length c7] := ((BoxAt.new _ _ _).toExt hx8)
  have lB8_0 := B8_0.1
  have bB8_0 := B8_0.2.1
  have lB8_1 := B8_1.1
  have bB8_1 := B8_1.2.1
  have lB8_2 := B8_2.1
  have bB8_2 := B8_2.2.1
  clear lB7_0 bB7_0 lB7_1 bB7_1
  go_wp2_with fail
  refine (toIntS_any s2 (r2.toExt (trans_ext (trans_ext (trans_ext (trans_ext (trans_ext (trans_ext (trans_ext (trans_ext (trans_ext (trans_ext (trans_ext (trans_ext (alloc_ext w (.cells #[.slice A0 d0.length c0] 40)) (alloc_ext (w.alloc (.cells #[.slice A0 d0.length c0] 40)) (.cells #[.int .i64 d1.1, .slice A1 d1.2.1.length c1, .slice B1 d1.2.2.length e1] 61))) hx1) hx2) (drew_ext w2)) hx3) hx4) hx5) hx6) hx7) (alloc_ext w7 (.cells #[.slice A7 d0.length c7] 45))) hx8) (alloc_ext w8 (.cells #[.int .i64 d1.1, .slice A8 d1.2.1.length c8, .slice B8 d1.2.2.length e8] 66))))).mono ?_
  rintro e w9 ⟨v9, F9, rfl, hx9, hS9, hF9⟩
  obtain ⟨A9, c9, rfl, _, _, r9⟩ := hS9.view sI_v
  have B9_0 : BoxAt w9 (w.heap.size) #[.slice A0 d0.length c0] := ((B8_0.toExt (alloc_ext w8 (.cells #[.int .i64 d1.1, .slice A8 d1.2.1.length c8, .slice B8 d1.2.2.length e8] 66))).toExt hx9)
  have B9_1 : BoxAt w9 (w.heap.size + 1) #[.int .i64 d1.1, .slice A1 d1.2.1.length c1, .slice B1 d1.2.2.length e1] := ((B8_1.toExt (alloc_ext w8 (.cells #[.int .i64 d1.1, .slice A8 d1.2.1.length c8, .slice B8 d1.2.2.length e8] 66))).toExt hx9)
  have B9_2 : BoxAt w9 (w7.heap.size) #[.slice A7 d0.length c7] := ((B8_2.toExt (alloc_ext w8 (.cells #[.int .i64 d1.1, .slice A8 d1.2.1.length c8, .slice B8 d1.2.2.length e8] 66))).toExt hx9)
  have B9_3 : BoxAt w9 (w8.heap.size) #[.int .i64 d1.1, .slice A8 d1.2.1.length c8, .slice B8 d1.2.2.length e8] := ((BoxAt.new _ _ _).toExt hx9)
  have lB9_0 := B9_0.1
  have bB9_0 := B9_0.2.1
  have lB9_1 := B9_1.1
  have bB9_1 := B9_1.2.1
  have lB9_2 := B9_2.1
  have bB9_2 := B9_2.2.1
  have lB9_3 := B9_3.1
  have bB9_3 := B9_3.2.1
  clear lB8_0 bB8_0 lB8_1 bB8_1 lB8_2 bB8_2
  go_wp2_with fail
  refine (IsBinding_any (BDb.w s0) (vDb_get (sDb_v _ _ _ (OD.toExt (OD.toExt (OD.toExt (OD.toExt hS7 (alloc_ext w7 (.cells #[.slice A7 d0.length c7] 45))) hx8) (alloc_ext w8 (.cells #[.int .i64 d1.1, .slice A8 d1.2.1.length c8, .slice B8 d1.2.2.length e8] 66))) hx9))).2.1 s1 (sQ_v _ _ _ (OD.toExt (OD.toExt hS8 (alloc_ext w8 (.cells #[.int .i64 d1.1, .slice A8 d1.2.1.length c8, .slice B8 d1.2.2.length e8] 66))) hx9)) (by omega) r9).mono ?_
  rintro e w10 ⟨rfl, hx10⟩
  have B10_0 : BoxAt w10 (w.heap.size) #[.slice A0 d0.length c0] := (B9_0.toExt hx10)
  have B10_1 : BoxAt w10 (w.heap.size + 1) #[.int .i64 d1.1, .slice A1 d1.2.1.length c1, .slice B1 d1.2.2.length e1] := (B9_1.toExt hx10)
  have B10_2 : BoxAt w10 (w7.heap.size) #[.slice A7 d0.length c7] := (B9_2.toExt hx10)
  have B10_3 : BoxAt w10 (w8.heap.size) #[.int .i64 d1.1, .slice A8 d1.2.1.length c8, .slice B8 d1.2.2.length e8] := (B9_3.toExt hx10)
  have lB10_0 := B10_0.1
  have bB10_0 := B10_0.2.1
  have lB10_1 := B10_1.1
  have bB10_1 := B10_1.2.1
  have lB10_2 := B10_2.1
  have bB10_2 := B10_2.2.1
  have lB10_3 := B10_3.1
  have bB10_3 := B10_3.2.1
  clear lB9_0 bB9_0 lB9_1 bB9_1 lB9_2 bB9_2 lB9_3 bB9_3
  go_wp2_with fail
  go_region_held3 (fun w' => (∀ a : Addr, a.block < w10.heap.size → w'.cell? a = w10.cell? a) ∧ ∃ y, w' = ext w10 y) (first | exact heldE (drew_ext w10) | exact heldE (trans_ext (drew_ext w10) hx11) | exact heldE (trans_ext (trans_ext (drew_ext w10) hx11) hx12)) (first | (go_at_call_of 25 (A0); refine (toDatabase_d s0 (VD.toExt r0 (trans_ext (trans_ext (trans_ext (trans_ext (trans_ext (trans_ext (trans_ext (trans_ext (trans_ext (trans_ext (trans_ext (trans_ext (trans_ext (trans_ext (trans_ext (alloc_ext w (.cells #[.slice A0 d0.length c0] 40)) (alloc_ext (w.alloc (.cells #[.slice A0 d0.length c0] 40)) (.cells #[.int .i64 d1.1, .slice A1 d1.2.1.length c1, .slice B1 d1.2.2.length e1] 61))) hx1) hx2) (drew_ext w2)) hx3) hx4) hx5) hx6) hx7) (alloc_ext w7 (.cells #[.slice A7 d0.length c7] 45))) hx8) (alloc_ext w8 (.cells #[.int .i64 d1.1, .slice A8 d1.2.1.length c8, .slice B8 d1.2.2.length e8] 66))) hx9) hx10) (drew_ext w10)))).mono ?_; rintro e w11 ⟨v11, F11, rfl, hx11, hS11, hN11, hF11⟩; obtain ⟨A11, c11, rfl⟩ := sDb_form hS11) | (go_at_call 27; refine (eqDatabase_d s0 (sDb_v _ _ _ (OD.toExt (OD.toExt (OD.toExt (OD.toExt (OD.toExt (OD.toExt (OD.toExt hS7 (alloc_ext w7 (.cells #[.slice A7 d0.length c7] 45))) hx8) (alloc_ext w8 (.cells #[.int .i64 d1.1, .slice A8 d1.2.1.length c8, .slice B8 d1.2.2.length e8] 66))) hx9) hx10) (drew_ext w10)) hx11)) s0 (sDb_v _ _ _ hS11)).mono ?_; rintro e w12 ⟨rfl, hx12⟩))
  have B12_0 : BoxAt w12 (w.heap.size) #[.slice A0 d0.length c0] := B10_0.toExt (trans_ext (trans_ext (drew_ext w10) hx11) hx12)
  have B12_1 : BoxAt w12 (w.heap.size + 1) #[.int .i64 d1.1, .slice A1 d1.2.1.length c1, .slice B1 d1.2.2.length e1] := B10_1.toExt (trans_ext (trans_ext (drew_ext w10) hx11) hx12)
  have B12_2 : BoxAt w12 (w7.heap.size) #[.slice A7 d0.length c7] := B10_2.toExt (trans_ext (trans_ext (drew_ext w10) hx11) hx12)
  have B12_3 : BoxAt w12 (w8.heap.size) #[.int .i64 d1.1, .slice A8 d1.2.1.length c8, .slice B8 d1.2.2.length e8] := B10_3.toExt (trans_ext (trans_ext (drew_ext w10) hx11) hx12)
  have lB12_0 := B12_0.1
  have bB12_0 := B12_0.2.1
  have lB12_1 := B12_1.1
  have bB12_1 := B12_1.2.1
  have lB12_2 := B12_2.1
  have bB12_2 := B12_2.2.1
  have lB12_3 := B12_3.1
  have bB12_3 := B12_3.2.1
  clear lB10_0 bB10_0 lB10_1 bB10_1 lB10_2 bB10_2 lB10_3 bB10_3
  go_wp2_with fail
  go_region_held3 (fun w' => (∀ a : Addr, a.block < w12.heap.size → w'.cell? a = w12.cell? a) ∧ ∃ y, w' = ext w12 y) (first | exact heldE (drew_ext w12) | exact heldE (trans_ext (drew_ext w12) hx13) | exact heldE (trans_ext (trans_ext (drew_ext w12) hx13) hx14)) (first | (go_at_call_of 40 (A1); refine (toQuery_d s1 (VD.toExt r1 (trans_ext (trans_ext (trans_ext (trans_ext (trans_ext (trans_ext (trans_ext (trans_ext (trans_ext (trans_ext (trans_ext (trans_ext (trans_ext (trans_ext (trans_ext (trans_ext (trans_ext (trans_ext (alloc_ext w (.cells #[.slice A0 d0.length c0] 40)) (alloc_ext (w.alloc (.cells #[.slice A0 d0.length c0] 40)) (.cells #[.int .i64 d1.1, .slice A1 d1.2.1.length c1, .slice B1 d1.2.2.length e1] 61))) hx1) hx2) (drew_ext w2)) hx3) hx4) hx5) hx6) hx7) (alloc_ext w7 (.cells #[.slice A7 d0.length c7] 45))) hx8) (alloc_ext w8 (.cells #[.int .i64 d1.1, .slice A8 d1.2.1.length c8, .slice B8 d1.2.2.length e8] 66))) hx9) hx10) (drew_ext w10)) hx11) hx12) (drew_ext w12)))).mono ?_; rintro e w13 ⟨v13, u13, t13, F13, rfl, hx13, hS13, hN13, hF13⟩; obtain ⟨A13, c13, B13, e13, rfl, rfl, rfl⟩ := sQ_form hS13) | (go_at_call 42; refine (eqQuery_d s1 (sQ_v _ _ _ (OD.toExt (OD.toExt (OD.toExt (OD.toExt (OD.toExt (OD.toExt (OD.toExt (OD.toExt hS8 (alloc_ext w8 (.cells #[.int .i64 d1.1, .slice A8 d1.2.1.length c8, .slice B8 d1.2.2.length e8] 66))) hx9) hx10) (drew_ext w10)) hx11) hx12) (drew_ext w12)) hx13)) s1 (sQ_v _ _ _ hS13)).mono ?_; rintro e w14 ⟨rfl, hx14⟩))
  have B14_0 : BoxAt w14 (w.heap.size) #[.slice A0 d0.length c0] := B12_0.toExt (trans_ext (trans_ext (drew_ext w12) hx13) hx14)
  have B14_1 : BoxAt w14 (w.heap.size + 1) #[.int .i64 d1.1, .slice A1 d1.2.1.length c1, .slice B1 d1.2.2.length e1] := B12_1.toExt (trans_ext (trans_ext (drew_ext w12) hx13) hx14)
  have B14_2 : BoxAt w14 (w7.heap.size) #[.slice A7 d0.length c7] := B12_2.toExt (trans_ext (trans_ext (drew_ext w12) hx13) hx14)
  have B14_3 : BoxAt w14 (w8.heap.size) #[.int .i64 d1.1, .slice A8 d1.2.1.length c8, .slice B8 d1.2.2.length e8] := B12_3.toExt (trans_ext (trans_ext (drew_ext w12) hx13) hx14)
  have lB14_0 := B14_0.1
  have bB14_0 := B14_0.2.1
  have lB14_1 := B14_1.1
  have bB14_1 := B14_1.2.1
  have lB14_2 := B14_2.1
  have bB14_2 := B14_2.2.1
  have lB14_3 := B14_3.1
  have bB14_3 := B14_3.2.1
  clear lB12_0 bB12_0 lB12_1 bB12_1 lB12_2 bB12_2 lB12_3 bB12_3
  go_wp2_with fail
  refine (toIntS_any s2 (r2.toExt (trans_ext (trans_ext (trans_ext (trans_ext (trans_ext (trans_ext (trans_ext (trans_ext (trans_ext (trans_ext (trans_ext (trans_ext (trans_ext (trans_ext (trans_ext (trans_ext (trans_ext (trans_ext (trans_ext (trans_ext (alloc_ext w (.cells #[.slice A0 d0.length c0] 40)) (alloc_ext (w.alloc (.cells #[.slice A0 d0.length c0] 40)) (.cells #[.int .i64 d1.1, .slice A1 d1.2.1.length c1, .slice B1 d1.2.2.length e1] 61))) hx1) hx2) (drew_ext w2)) hx3) hx4) hx5) hx6) hx7) (alloc_ext w7 (.cells #[.slice A7 d0.length c7] 45))) hx8) (alloc_ext w8 (.cells #[.int .i64 d1.1, .slice A8 d1.2.1.length c8, .slice B8 d1.2.2.length e8] 66))) hx9) hx10) (drew_ext w10)) hx11) hx12) (drew_ext w12)) hx13) hx14))).mono ?_
  rintro e w15 ⟨v15, F15, rfl, hx15, hS15, hF15⟩
  obtain ⟨A15, c15, rfl, _, _, r15⟩ := hS15.view sI_v
  have B15_0 : BoxAt w15 (w.heap.size) #[.slice A0 d0.length c0] := (B14_0.toExt hx15)
  have B15_1 : BoxAt w15 (w.heap.size + 1) #[.int .i64 d1.1, .slice A1 d1.2.1.length c1, .slice B1 d1.2.2.length e1] := (B14_1.toExt hx15)
  have B15_2 : BoxAt w15 (w7.heap.size) #[.slice A7 d0.length c7] := (B14_2.toExt hx15)
  have B15_3 : BoxAt w15 (w8.heap.size) #[.int .i64 d1.1, .slice A8 d1.2.1.length c8, .slice B8 d1.2.2.length e8] := (B14_3.toExt hx15)
  have lB15_0 := B15_0.1
  have bB15_0 := B15_0.2.1
  have lB15_1 := B15_1.1
  have bB15_1 := B15_1.2.1
  have lB15_2 := B15_2.1
  have bB15_2 := B15_2.2.1
  have lB15_3 := B15_3.1
  have bB15_3 := B15_3.2.1
  clear lB14_0 bB14_0 lB14_1 bB14_1 lB14_2 bB14_2 lB14_3 bB14_3
  go_wp2_with fail
  refine (eqIntS_any (by omega) (r9.toExt (trans_ext (trans_ext (trans_ext (trans_ext (trans_ext (trans_ext (trans_ext hx10 (drew_ext w10)) hx11) hx12) (drew_ext w12)) hx13) hx14) hx15)) (by omega) r15).mono ?_
  rintro e w16 ⟨rfl, hx16⟩
  have B16_0 : BoxAt w16 (w.heap.size) #[.slice A0 d0.length c0] := (B15_0.toExt hx16)
  have B16_1 : BoxAt w16 (w.heap.size + 1) #[.int .i64 d1.1, .slice A1 d1.2.1.length c1, .slice B1 d1.2.2.length e1] := (B15_1.toExt hx16)
  have B16_2 : BoxAt w16 (w7.heap.size) #[.slice A7 d0.length c7] := (B15_2.toExt hx16)
  have B16_3 : BoxAt w16 (w8.heap.size) #[.int .i64 d1.1, .slice A8 d1.2.1.length c8, .slice B8 d1.2.2.length e8] := (B15_3.toExt hx16)
  have lB16_0 := B16_0.1
  have bB16_0 := B16_0.2.1
  have lB16_1 := B16_1.1
  have bB16_1 := B16_1.2.1
  have lB16_2 := B16_2.1
  have bB16_2 := B16_2.2.1
  have lB16_3 := B16_3.1
  have bB16_3 := B16_3.2.1
  clear lB15_0 bB15_0 lB15_1 bB15_1 lB15_2 bB15_2 lB15_3 bB15_3
  go_wp2
  go_ret
  exact ⟨rfl, (trans_ext (trans_ext (trans_ext (trans_ext (trans_ext (trans_ext (trans_ext (trans_ext (trans_ext (trans_ext (trans_ext (trans_ext (trans_ext (trans_ext (trans_ext (trans_ext (trans_ext (trans_ext (trans_ext (trans_ext (trans_ext (trans_ext (alloc_ext w (.cells #[.slice A0 d0.length c0] 40)) (alloc_ext (w.alloc (.cells #[.slice A0 d0.length c0] 40)) (.cells #[.int .i64 d1.1, .slice A1 d1.2.1.length c1, .slice B1 d1.2.2.length e1] 61))) hx1) hx2) (drew_ext w2)) hx3) hx4) hx5) hx6) hx7) (alloc_ext w7 (.cells #[.slice A7 d0.length c7] 45))) hx8) (alloc_ext w8 (.cells #[.int .i64 d1.1, .slice A8 d1.2.1.length c8, .slice B8 d1.2.2.length e8] 66))) hx9) hx10) (drew_ext w10)) hx11) hx12) (drew_ext w12)) hx13) hx14) hx15) hx16)⟩

theorem law_IsBinding (A0 : Option Addr) (c0 : Nat) (d0 : Dbd) (A1 : Option Addr) (c1 : Nat) (B1 : Option Addr) (e1 : Nat) (d1 : Qd) (A2 : Option Addr) (c2 : Nat) (x2 : List Int) (w : World) (q0 : QDb d0) (r0 : vDb w [.slice A0 d0.length c0] d0) (q1 : QQ d1) (r1 : vQ w [.int .i64 d1.1, .slice A1 d1.2.1.length c1, .slice B1 d1.2.2.length e1] d1) (r2 : RI w A2 x2) : Calls Try.prog 9 #[.agg #[.slice A0 d0.length c0], .agg #[.int .i64 d1.1, .slice A1 d1.2.1.length c1, .slice B1 d1.2.2.length e1], .slice A2 x2.length c2] w fun e w' => e = .returned (.bool true) ∧ ∃ y, w' = ext w y := by
  by_cases hg0 : 1048576 < x2.length
  · exact law_IsBinding_g0 _ _ _ _ _ _ _ _ _ _ _ w hg0
  by_cases hz0 : 0 ≤ szN szTb (1048576) d0
  · have hy0 : szN szTb (1048576) d0 ≤ 1048576 := szDb_le hz0
    by_cases hz1 : 0 ≤ szQ (szN szTb (1048576) d0) d1
    · have hy1 : szQ (szN szTb (1048576) d0) d1 ≤ 1048576 := Int.le_trans (szQ_le hz1) hy0
      have b09 := szDb_small q0 hz0 (by omega)
      have b19 := szQ_small q1.1 hz1 (by omega)
      exact law_IsBinding_m _ _ _ _ _ _ _ _ _ _ _ w q0 r0 q1 r1 r2 hz0 hy0 hz1 hy1 (b09) (b19) (by omega)
    · exact law_IsBinding_z1 _ _ _ _ _ _ _ _ _ _ _ w q0 r0 q1 r1 (by omega) hz0 hy0 (by omega)
  · exact law_IsBinding_z0 _ _ _ _ _ _ _ _ _ _ _ w q0 r0 (by omega) (by omega)

set_option maxRecDepth 100000 in
theorem lifted_FnExactIsBinding (os : Os) (started : os.Started) (H : Type) (enc : TypeId × Value → H) :
    ReturnsInHanded {} Try.checked os 9 .any (Rows.fnExactIsBindingSpec.pre6 enc Try.prog Try.f9 Rows.fnExactIsBindingRow.domain false) (Rows.fnExactIsBindingSpec.post enc Try.prog Try.f9 false true false false) := by
  refine returnsInHanded_of_change (C := Try.checked) Try.own started (by kernel_rfl) Try.func9 (ChangeSpec.witness6 (enc := enc) (C := Try.checked) false ⟨#[], #[.agg #[.slice none 0 0], .agg #[.int .i64 0, .slice none 0 0, .slice none 0 0], .slice none 0 0], []⟩ 8 (by kernel_rfl) (by kernel_rfl) (by kernel_rfl) (by kernel_rfl)) ?_
  intro W base args ds gs before hval0 hW hcnd _
  have hval : ∀ (j : Nat) t v, Try.f9.params[j]? = some t → args[j]? = some v → Value.okWide Try.prog W .any base t v := hval0
  clear hval0 hcnd
  obtain ⟨_, _, hA0, hV0, _, _, _⟩ := id hW
  have hA : DataW.TrodAll enc Try.prog W 0 (fun _ => true) true Try.f9.params.toList args.toList ds _ := hA0
  clear hA0
  rw [Try.params9] at hA hval
  obtain ⟨v0, v1, v2, d0, d1, d2, p0, p1, p2, rfl, rfl, e9, h0, h1, h2⟩ := trodAll_three hA
  obtain ⟨cs0, rfl, _⟩ := okWide_struct Try.underlying40 (hval 0 _ v0 rfl rfl)
  obtain ⟨d0, r0, qq0⟩ := openArg oDb h0
  obtain ⟨A0, c0, hc0⟩ := vDb_shape r0
  obtain rfl := agg1 hc0
  obtain ⟨cs1, rfl, _⟩ := okWide_struct Try.underlying61 (hval 1 _ v1 rfl rfl)
  obtain ⟨d1, r1, qq1⟩ := openArg oQ h1
  obtain ⟨A1, c1, B1, e1, hc1⟩ := vQ_shape r1
  obtain rfl := agg3 hc1
  obtain ⟨x2, ⟨A2, c2, hc2, r2⟩, l2, _⟩ := openArg oInts h2
  obtain rfl := one1 hc2 (okWide_slice Try.underlying22 (hval 2 _ v2 rfl rfl))
  refine (law_IsBinding A0 c0 d0 A1 c1 B1 e1 d1 A2 (x2.length + c2) x2 W qq0 r0 qq1 r1 r2).mono fun e W' ⟨he, hw⟩ => ?_
  exact ⟨_, he, law_post Try.laidOut hW rfl rfl rfl Try.underlying4 (by kernel_rfl) hw⟩

theorem fnExactIsBinding_holds : Rows.FnExactIsBindingSaid :=
  OpenClaim.holds_of_wide 9 Try.f9 rfl rfl rfl rfl rfl rfl rfl ⟨rfl, rfl, rfl, rfl, rfl⟩ rfl rfl rfl rfl rfl (by kernel_rfl) Try.func9 (by kernel_rfl)
    (of_decide_eq_true (by kernel_rfl)) (by unfold Func.isWrapper; rw [if_neg (of_decide_eq_false (by kernel_rfl))]; exact ⟨rfl, rfl⟩)
    (fun os started H enc _ => lifted_FnExactIsBinding os started H enc)

end Go.Proofs.Ytgoleefkbjjidaa
