/- For all arguments the program's CommonVariables and the reference's give the same, the arguments are left alone, and what is handed back shares no memory with them. -/
import Derived.Test.YtoffbconbgipjaaTypes
import Derived.Test.YtoffbconbgipjaaAtom
import Derived.Test.YtoffbconbgipjaaCommon
namespace Go.Proofs.Ytoffbconbgipjaa
open Go.ChangeShapes Go.WideShapes Go.ChangeAt Go.RowKit

set_option maxHeartbeats 2000000 in
theorem law_CommonVariables_z0 (t0 : ByteArray) (A0 : Option Addr) (c0 : Nat) (x0 : List Int) (t1 : ByteArray) (A1 : Option Addr) (c1 : Nat) (x1 : List Int) (w : World) (k0 : t0.size ≤ 9223372036854775807) (l0 : x0.length ≤ 9223372036854775807) (hz0 : szA (1048576) t0.size x0.length < 0) : Calls Try.prog 3 #[.agg #[.string t0, .slice A0 x0.length c0], .agg #[.string t1, .slice A1 x1.length c1]] w fun e w' => e = .returned (.bool true) ∧ ∃ y, w' = ext w y := by
  go_enter Try.func3, Try.ntmps3
  go_wp2_with fail
  refine (szAtom_any k0 l0 (by omega) (by omega)).mono ?_
  rintro e w1 ⟨rfl, hx1⟩
  have B1_0 : BoxAt w1 (w.heap.size) #[.string t0, .slice A0 x0.length c0] := by obtain ⟨y, e⟩ := hx1; rw [e]; refine ⟨?_, fun j => ?_, fun j => ?_⟩ <;> go_simp
  have B1_1 : BoxAt w1 (w.heap.size + 1) #[.string t1, .slice A1 x1.length c1] := by obtain ⟨y, e⟩ := hx1; rw [e]; refine ⟨?_, fun j => ?_, fun j => ?_⟩ <;> go_simp
  have lB1_0 := B1_0.1
  have bB1_0 := B1_0.2.1
  have lB1_1 := B1_1.1
  have bB1_1 := B1_1.2.1
  go_wp2_with fail
  go_ret
  exact ⟨rfl, (trans_ext (trans_ext (alloc_ext w (.cells #[.string t0, .slice A0 x0.length c0] 24)) (alloc_ext (w.alloc (.cells #[.string t0, .slice A0 x0.length c0] 24)) (.cells #[.string t1, .slice A1 x1.length c1] 24))) hx1)⟩

set_option maxHeartbeats 2000000 in
theorem law_CommonVariables_z1 (t0 : ByteArray) (A0 : Option Addr) (c0 : Nat) (x0 : List Int) (t1 : ByteArray) (A1 : Option Addr) (c1 : Nat) (x1 : List Int) (w : World) (k0 : t0.size ≤ 9223372036854775807) (l0 : x0.length ≤ 9223372036854775807) (k1 : t1.size ≤ 9223372036854775807) (l1 : x1.length ≤ 9223372036854775807) (hz0 : 0 ≤ szA (1048576) t0.size x0.length) (hy0 : szA (1048576) t0.size x0.length ≤ 1048576) (hz1 : szA (szA (1048576) t0.size x0.length) t1.size x1.length < 0) : Calls Try.prog 3 #[.agg #[.string t0, .slice A0 x0.length c0], .agg #[.string t1, .slice A1 x1.length c1]] w fun e w' => e = .returned (.bool true) ∧ ∃ y, w' = ext w y := by
  go_enter Try.func3, Try.ntmps3
  go_wp2_with fail
  refine (szAtom_any k0 l0 (by omega) (by omega)).mono ?_
  rintro e w1 ⟨rfl, hx1⟩
  have B1_0 : BoxAt w1 (w.heap.size) #[.string t0, .slice A0 x0.length c0] := by obtain ⟨y, e⟩ := hx1; rw [e]; refine ⟨?_, fun j => ?_, fun j => ?_⟩ <;> go_simp
  have B1_1 : BoxAt w1 (w.heap.size + 1) #[.string t1, .slice A1 x1.length c1] := by obtain ⟨y, e⟩ := hx1; rw [e]; refine ⟨?_, fun j => ?_, fun j => ?_⟩ <;> go_simp
  have lB1_0 := B1_0.1
  have bB1_0 := B1_0.2.1
  have lB1_1 := B1_1.1
  have bB1_1 := B1_1.2.1
  go_wp2_with fail
  refine (szAtom_any k1 l1 (by omega) (by omega)).mono ?_
  rintro e w2 ⟨rfl, hx2⟩
  have B2_0 : BoxAt w2 (w.heap.size) #[.string t0, .slice A0 x0.length c0] := (B1_0.toExt hx2)
  have B2_1 : BoxAt w2 (w.heap.size + 1) #[.string t1, .slice A1 x1.length c1] := (B1_1.toExt hx2)
  have lB2_0 := B2_0.1
  have bB2_0 := B2_0.2.1
  have lB2_1 := B2_1.1
  have bB2_1 := B2_1.2.1
  clear lB1_0 bB1_0 lB1_1 bB1_1
  go_wp2_with fail
  go_ret
  exact ⟨rfl, (trans_ext (trans_ext (trans_ext (alloc_ext w (.cells #[.string t0, .slice A0 x0.length c0] 24)) (alloc_ext (w.alloc (.cells #[.string t0, .slice A0 x0.length c0] 24)) (.cells #[.string t1, .slice A1 x1.length c1] 24))) hx1) hx2)⟩

set_option maxHeartbeats 2000000 in
theorem law_CommonVariables_m (t0 : ByteArray) (A0 : Option Addr) (c0 : Nat) (x0 : List Int) (t1 : ByteArray) (A1 : Option Addr) (c1 : Nat) (x1 : List Int) (w : World) (k0 : t0.size ≤ 9223372036854775807) (l0 : x0.length ≤ 9223372036854775807) (r0 : RI w A0 x0) (k1 : t1.size ≤ 9223372036854775807) (l1 : x1.length ≤ 9223372036854775807) (r1 : RI w A1 x1) (hz0 : 0 ≤ szA (1048576) t0.size x0.length) (hy0 : szA (1048576) t0.size x0.length ≤ 1048576) (hz1 : 0 ≤ szA (szA (1048576) t0.size x0.length) t1.size x1.length) (hy1 : szA (szA (1048576) t0.size x0.length) t1.size x1.length ≤ 1048576) (s0 : x0.length ≤ 1048576) (s1 : x1.length ≤ 1048576) : Calls Try.prog 3 #[.agg #[.string t0, .slice A0 x0.length c0], .agg #[.string t1, .slice A1 x1.length c1]] w fun e w' => e = .returned (.bool true) ∧ ∃ y, w' = ext w y := by
  have hb9 := cvars_length x0 x1
  go_enter Try.func3, Try.ntmps3
  go_wp2_with fail
  refine (szAtom_any k0 l0 (by omega) (by omega)).mono ?_
  rintro e w1 ⟨rfl, hx1⟩
  have B1_0 : BoxAt w1 (w.heap.size) #[.string t0, .slice A0 x0.length c0] := by obtain ⟨y, e⟩ := hx1; rw [e]; refine ⟨?_, fun j => ?_, fun j => ?_⟩ <;> go_simp
  have B1_1 : BoxAt w1 (w.heap.size + 1) #[.string t1, .slice A1 x1.length c1] := by obtain ⟨y, e⟩ := hx1; rw [e]; refine ⟨?_, fun j => ?_, fun j => ?_⟩ <;> go_simp
  have lB1_0 := B1_0.1
  have bB1_0 := B1_0.2.1
  have lB1_1 := B1_1.1
  have bB1_1 := B1_1.2.1
  go_wp2_with fail
  refine (szAtom_any k1 l1 (by omega) (by omega)).mono ?_
  rintro e w2 ⟨rfl, hx2⟩
  have B2_0 : BoxAt w2 (w.heap.size) #[.string t0, .slice A0 x0.length c0] := (B1_0.toExt hx2)
  have B2_1 : BoxAt w2 (w.heap.size + 1) #[.string t1, .slice A1 x1.length c1] := (B1_1.toExt hx2)
  have lB2_0 := B2_0.1
  have bB2_0 := B2_0.2.1
  have lB2_1 := B2_1.1
  have bB2_1 := B2_1.2.1
  clear lB1_0 bB1_0 lB1_1 bB1_1
  go_wp2_with fail
  go_region_held3 (fun w' => (∀ a : Addr, a.block < w2.heap.size → w'.cell? a = w2.cell? a) ∧ ∃ y, w' = ext w2 y) (first | exact heldE (drew_ext w2) | exact heldE (trans_ext (drew_ext w2) hx3) | exact heldE (trans_ext (trans_ext (drew_ext w2) hx3) hx4) | exact heldE (trans_ext (trans_ext (trans_ext (drew_ext w2) hx3) hx4) hx5)) (first | (go_at_call_of 15 (A0); refine (toAtom_any s0 (r0.toExt (trans_ext (trans_ext (trans_ext (trans_ext (alloc_ext w (.cells #[.string t0, .slice A0 x0.length c0] 24)) (alloc_ext (w.alloc (.cells #[.string t0, .slice A0 x0.length c0] 24)) (.cells #[.string t1, .slice A1 x1.length c1] 24))) hx1) hx2) (drew_ext w2)))).mono ?_; rintro e w3 ⟨v3, F3, rfl, hx3, hS3, hF3⟩; obtain ⟨A3, c3, rfl, _, _, r3⟩ := hS3.view sI_v) | (go_at_call_of 15 (A1); refine (toAtom_any s1 (r1.toExt (trans_ext (trans_ext (trans_ext (trans_ext (trans_ext (alloc_ext w (.cells #[.string t0, .slice A0 x0.length c0] 24)) (alloc_ext (w.alloc (.cells #[.string t0, .slice A0 x0.length c0] 24)) (.cells #[.string t1, .slice A1 x1.length c1] 24))) hx1) hx2) (drew_ext w2)) hx3))).mono ?_; rintro e w4 ⟨v4, F4, rfl, hx4, hS4, hF4⟩; obtain ⟨A4, c4, rfl, _, _, r4⟩ := hS4.view sI_v) | (go_at_call 14; refine (specCommonVariables_any (by omega) (r3.toExt hx4) (by omega) r4).mono ?_; rintro e w5 ⟨v5, F5, rfl, hx5, hS5, hF5⟩; obtain ⟨A5, c5, rfl, _, _, r5⟩ := hS5.view sI_v))
  have B5_0 : BoxAt w5 (w.heap.size) #[.string t0, .slice A0 x0.length c0] := B2_0.toExt (trans_ext (trans_ext (trans_ext (drew_ext w2) hx3) hx4) hx5)
  have B5_1 : BoxAt w5 (w.heap.size + 1) #[.string t1, .slice A1 x1.length c1] := B2_1.toExt (trans_ext (trans_ext (trans_ext (drew_ext w2) hx3) hx4) hx5)
  have lB5_0 := B5_0.1
  have bB5_0 := B5_0.2.1
  have lB5_1 := B5_1.1
  have bB5_1 := B5_1.2.1
  clear lB2_0 bB2_0 lB2_1 bB2_1
  go_wp2_with fail
  refine (toAtom_any s0 (r0.toExt (trans_ext (trans_ext (trans_ext (trans_ext (trans_ext (trans_ext (trans_ext (alloc_ext w (.cells #[.string t0, .slice A0 x0.length c0] 24)) (alloc_ext (w.alloc (.cells #[.string t0, .slice A0 x0.length c0] 24)) (.cells #[.string t1, .slice A1 x1.length c1] 24))) hx1) hx2) (drew_ext w2)) hx3) hx4) hx5))).mono ?_
  rintro e w6 ⟨v6, F6, rfl, hx6, hS6, hF6⟩
  obtain ⟨A6, c6, rfl, _, _, r6⟩ := hS6.view sI_v
  have B6_0 : BoxAt w6 (w.heap.size) #[.string t0, .slice A0 x0.length c0] := (B5_0.toExt hx6)
  have B6_1 : BoxAt w6 (w.heap.size + 1) #[.string t1, .slice A1 x1.length c1] := (B5_1.toExt hx6)
  have lB6_0 := B6_0.1
  have bB6_0 := B6_0.2.1
  have lB6_1 := B6_1.1
  have bB6_1 := B6_1.2.1
  clear lB5_0 bB5_0 lB5_1 bB5_1
  go_wp2_with fail
  refine (toAtom_any s1 (r1.toExt (trans_ext (trans_ext (trans_ext (trans_ext (trans_ext (trans_ext (trans_ext (trans_ext (trans_ext (alloc_ext w (.cells #[.string t0, .slice A0 x0.length c0] 24)) (alloc_ext (w.alloc (.cells #[.string t0, .slice A0 x0.length c0] 24)) (.cells #[.string t1, .slice A1 x1.length c1] 24))) hx1) hx2) (drew_ext w2)) hx3) hx4) hx5) hx6) (alloc_ext w6 (.cells #[.string t0, .slice A6 x0.length c6] 27))))).mono ?_
  rintro e w7 ⟨v7, F7, rfl, hx7, hS7, hF7⟩
  obtain ⟨A7, c7, rfl, _, _, r7⟩ := hS7.view sI_v
  have B7_0 : BoxAt w7 (w.heap.size) #[.string t0, .slice A0 x0.length c0] := ((B6_0.toExt (alloc_ext w6 (.cells #[.string t0, .slice A6 x0.length c6] 27))).toExt hx7)
  have B7_1 : BoxAt w7 (w.heap.size + 1) #[.string t1, .slice A1 x1.length c1] := ((B6_1.toExt (alloc_ext w6 (.cells #[.string t0, .slice A6 x0.length c6] 27))).toExt hx7)
  have B7_2 : BoxAt w7 (w6.heap.size) #[.string t0, .slice A6 x0.length c6] := ((BoxAt.new _ _ _).toExt hx7)
  have lB7_0 := B7_0.1
  have bB7_0 := B7_0.2.1
  have lB7_1 := B7_1.1
  have bB7_1 := B7_1.2.1
  have lB7_2 := B7_2.1
  have bB7_2 := B7_2.2.1
  clear lB6_0 bB6_0 lB6_1 bB6_1
  go_wp2_with fail
  refine (CommonVariables_any (by omega) (r6.toExt (trans_ext (trans_ext (alloc_ext w6 (.cells #[.string t0, .slice A6 x0.length c6] 27)) hx7) (alloc_ext w7 (.cells #[.string t1, .slice A7 x1.length c7] 27)))) (by omega) (r7.toExt (alloc_ext w7 (.cells #[.string t1, .slice A7 x1.length c7] 27)))).mono ?_
  rintro e w8 ⟨v8, F8, rfl, hx8, hS8, hF8⟩
  obtain ⟨A8, c8, rfl, _, _, r8⟩ := hS8.view sI_v
  have B8_0 : BoxAt w8 (w.heap.size) #[.string t0, .slice A0 x0.length c0] := ((B7_0.toExt (alloc_ext w7 (.cells #[.string t1, .slice A7 x1.length c7] 27))).toExt hx8)
  have B8_1 : BoxAt w8 (w.heap.size + 1) #[.string t1, .slice A1 x1.length c1] := ((B7_1.toExt (alloc_ext w7 (.cells #[.string t1, .slice A7 x1.length c7] 27))).toExt hx8)
  have B8_2 : BoxAt w8 (w6.heap.size) #[.string t0, .slice A6 x0.length c6] := ((B7_2.toExt (alloc_ext w7 (.cells #[.string t1, .slice A7 x1.length c7] 27))).toExt hx8)
  have B8_3 : BoxAt w8 (w7.heap.size) #[.string t1, .slice A7 x1.length c7] := ((BoxAt.new _ _ _).toExt hx8)
  have lB8_0 := B8_0.1
  have bB8_0 := B8_0.2.1
  have lB8_1 := B8_1.1
  have bB8_1 := B8_1.2.1
  have lB8_2 := B8_2.1
  have bB8_2 := B8_2.2.1
  have lB8_3 := B8_3.1
  have bB8_3 := B8_3.2.1
  clear lB7_0 bB7_0 lB7_1 bB7_1 lB7_2 bB7_2
  go_wp2_with fail
  refine (eqIntS_any (by omega) r8 (by omega) (r5.toExt (trans_ext (trans_ext (trans_ext (trans_ext hx6 (alloc_ext w6 (.cells #[.string t0, .slice A6 x0.length c6] 27))) hx7) (alloc_ext w7 (.cells #[.string t1, .slice A7 x1.length c7] 27))) hx8))).mono ?_
  rintro e w9 ⟨rfl, hx9⟩
  have B9_0 : BoxAt w9 (w.heap.size) #[.string t0, .slice A0 x0.length c0] := (B8_0.toExt hx9)
  have B9_1 : BoxAt w9 (w.heap.size + 1) #[.string t1, .slice A1 x1.length c1] := (B8_1.toExt hx9)
  have B9_2 : BoxAt w9 (w6.heap.size) #[.string t0, .slice A6 x0.length c6] := (B8_2.toExt hx9)
  have B9_3 : BoxAt w9 (w7.heap.size) #[.string t1, .slice A7 x1.length c7] := (B8_3.toExt hx9)
  have lB9_0 := B9_0.1
  have bB9_0 := B9_0.2.1
  have lB9_1 := B9_1.1
  have bB9_1 := B9_1.2.1
  have lB9_2 := B9_2.1
  have bB9_2 := B9_2.2.1
  have lB9_3 := B9_3.1
  have bB9_3 := B9_3.2.1
  clear lB8_0 bB8_0 lB8_1 bB8_1 lB8_2 bB8_2 lB8_3 bB8_3
  go_wp2_with fail
  go_region_held3 (fun w' => (∀ a : Addr, a.block < w9.heap.size → w'.cell? a = w9.cell? a) ∧ ∃ y, w' = ext w9 y) (first | exact heldE (drew_ext w9) | exact heldE (trans_ext (drew_ext w9) hx10) | exact heldE (trans_ext (trans_ext (drew_ext w9) hx10) hx11)) (first | (go_at_call_of 15 (A0); refine (toAtom_any s0 (r0.toExt (trans_ext (trans_ext (trans_ext (trans_ext (trans_ext (trans_ext (trans_ext (trans_ext (trans_ext (trans_ext (trans_ext (trans_ext (trans_ext (trans_ext (alloc_ext w (.cells #[.string t0, .slice A0 x0.length c0] 24)) (alloc_ext (w.alloc (.cells #[.string t0, .slice A0 x0.length c0] 24)) (.cells #[.string t1, .slice A1 x1.length c1] 24))) hx1) hx2) (drew_ext w2)) hx3) hx4) hx5) hx6) (alloc_ext w6 (.cells #[.string t0, .slice A6 x0.length c6] 27))) hx7) (alloc_ext w7 (.cells #[.string t1, .slice A7 x1.length c7] 27))) hx8) hx9) (drew_ext w9)))).mono ?_; rintro e w10 ⟨v10, F10, rfl, hx10, hS10, hF10⟩; obtain ⟨A10, c10, rfl, _, _, r10⟩ := hS10.view sI_v) | (go_at_call 18; refine (eqAtom_any (by omega) (r6.toExt (trans_ext (trans_ext (trans_ext (trans_ext (trans_ext (trans_ext (alloc_ext w6 (.cells #[.string t0, .slice A6 x0.length c6] 27)) hx7) (alloc_ext w7 (.cells #[.string t1, .slice A7 x1.length c7] 27))) hx8) hx9) (drew_ext w9)) hx10)) (by omega) r10).mono ?_; rintro e w11 ⟨rfl, hx11⟩))
  have B11_0 : BoxAt w11 (w.heap.size) #[.string t0, .slice A0 x0.length c0] := B9_0.toExt (trans_ext (trans_ext (drew_ext w9) hx10) hx11)
  have B11_1 : BoxAt w11 (w.heap.size + 1) #[.string t1, .slice A1 x1.length c1] := B9_1.toExt (trans_ext (trans_ext (drew_ext w9) hx10) hx11)
  have B11_2 : BoxAt w11 (w6.heap.size) #[.string t0, .slice A6 x0.length c6] := B9_2.toExt (trans_ext (trans_ext (drew_ext w9) hx10) hx11)
  have B11_3 : BoxAt w11 (w7.heap.size) #[.string t1, .slice A7 x1.length c7] := B9_3.toExt (trans_ext (trans_ext (drew_ext w9) hx10) hx11)
  have lB11_0 := B11_0.1
  have bB11_0 := B11_0.2.1
  have lB11_1 := B11_1.1
  have bB11_1 := B11_1.2.1
  have lB11_2 := B11_2.1
  have bB11_2 := B11_2.2.1
  have lB11_3 := B11_3.1
  have bB11_3 := B11_3.2.1
  clear lB9_0 bB9_0 lB9_1 bB9_1 lB9_2 bB9_2 lB9_3 bB9_3
  go_wp2_with fail
  go_region_held3 (fun w' => (∀ a : Addr, a.block < w11.heap.size → w'.cell? a = w11.cell? a) ∧ ∃ y, w' = ext w11 y) (first | exact heldE (drew_ext w11) | exact heldE (trans_ext (drew_ext w11) hx12) | exact heldE (trans_ext (trans_ext (drew_ext w11) hx12) hx13)) (first | (go_at_call_of 15 (A1); refine (toAtom_any s1 (r1.toExt (trans_ext (trans_ext (trans_ext (trans_ext (trans_ext (trans_ext (trans_ext (trans_ext (trans_ext (trans_ext (trans_ext (trans_ext (trans_ext (trans_ext (trans_ext (trans_ext (trans_ext (alloc_ext w (.cells #[.string t0, .slice A0 x0.length c0] 24)) (alloc_ext (w.alloc (.cells #[.string t0, .slice A0 x0.length c0] 24)) (.cells #[.string t1, .slice A1 x1.length c1] 24))) hx1) hx2) (drew_ext w2)) hx3) hx4) hx5) hx6) (alloc_ext w6 (.cells #[.string t0, .slice A6 x0.length c6] 27))) hx7) (alloc_ext w7 (.cells #[.string t1, .slice A7 x1.length c7] 27))) hx8) hx9) (drew_ext w9)) hx10) hx11) (drew_ext w11)))).mono ?_; rintro e w12 ⟨v12, F12, rfl, hx12, hS12, hF12⟩; obtain ⟨A12, c12, rfl, _, _, r12⟩ := hS12.view sI_v) | (go_at_call 18; refine (eqAtom_any (by omega) (r7.toExt (trans_ext (trans_ext (trans_ext (trans_ext (trans_ext (trans_ext (trans_ext (alloc_ext w7 (.cells #[.string t1, .slice A7 x1.length c7] 27)) hx8) hx9) (drew_ext w9)) hx10) hx11) (drew_ext w11)) hx12)) (by omega) r12).mono ?_; rintro e w13 ⟨rfl, hx13⟩))
  have B13_0 : BoxAt w13 (w.heap.size) #[.string t0, .slice A0 x0.length c0] := B11_0.toExt (trans_ext (trans_ext (drew_ext w11) hx12) hx13)
  have B13_1 : BoxAt w13 (w.heap.size + 1) #[.string t1, .slice A1 x1.length c1] := B11_1.toExt (trans_ext (trans_ext (drew_ext w11) hx12) hx13)
  have B13_2 : BoxAt w13 (w6.heap.size) #[.string t0, .slice A6 x0.length c6] := B11_2.toExt (trans_ext (trans_ext (drew_ext w11) hx12) hx13)
  have B13_3 : BoxAt w13 (w7.heap.size) #[.string t1, .slice A7 x1.length c7] := B11_3.toExt (trans_ext (trans_ext (drew_ext w11) hx12) hx13)
  have lB13_0 := B13_0.1
  have bB13_0 := B13_0.2.1
  have lB13_1 := B13_1.1
  have bB13_1 := B13_1.2.1
  have lB13_2 := B13_2.1
  have bB13_2 := B13_2.2.1
  have lB13_3 := B13_3.1
  have bB13_3 := B13_3.2.1
  clear lB11_0 bB11_0 lB11_1 bB11_1 lB11_2 bB11_2 lB11_3 bB11_3
  go_wp2_with fail
  refine (markAtom_any (by omega) (((((((((((hS6.toExt (alloc_ext w6 (.cells #[.string t0, .slice A6 x0.length c6] 27))).toExt hx7).toExt (alloc_ext w7 (.cells #[.string t1, .slice A7 x1.length c7] 27))).toExt hx8).toExt hx9).toExt (drew_ext w9)).toExt hx10).toExt hx11).toExt (drew_ext w11)).toExt hx12).toExt hx13) (by omega) (by omega)).mono ?_
  rintro e w14 ⟨rfl, hS14, hC14⟩
  have B14_0 : BoxAt w14 (w.heap.size) #[.string t0, .slice A0 x0.length c0] := (B13_0.chg hC14 (fun hb => by have h1 := hF6 _ hb; have h2 := size_of_ext (trans_ext (trans_ext (trans_ext (trans_ext hx2 (drew_ext w2)) hx3) hx4) hx5); have h3 := B1_0.1; omega))
  have B14_1 : BoxAt w14 (w.heap.size + 1) #[.string t1, .slice A1 x1.length c1] := (B13_1.chg hC14 (fun hb => by have h1 := hF6 _ hb; have h2 := size_of_ext (trans_ext (trans_ext (trans_ext (trans_ext hx2 (drew_ext w2)) hx3) hx4) hx5); have h3 := B1_1.1; omega))
  have B14_2 : BoxAt w14 (w6.heap.size) #[.string t0, .slice A6 x0.length c6] := (B13_2.chg hC14 (fun hb => by have h1 := hS6.lt _ hb; have h2 := size_of_ext (refl_ext w6); omega))
  have B14_3 : BoxAt w14 (w7.heap.size) #[.string t1, .slice A7 x1.length c7] := (B13_3.chg hC14 (fun hb => by have h1 := hS6.lt _ hb; have h2 := size_of_ext (trans_ext (alloc_ext w6 (.cells #[.string t0, .slice A6 x0.length c6] 27)) hx7); omega))
  have lB14_0 := B14_0.1
  have bB14_0 := B14_0.2.1
  have lB14_1 := B14_1.1
  have bB14_1 := B14_1.2.1
  have lB14_2 := B14_2.1
  have bB14_2 := B14_2.2.1
  have lB14_3 := B14_3.1
  have bB14_3 := B14_3.2.1
  clear lB13_0 bB13_0 lB13_1 bB13_1 lB13_2 bB13_2 lB13_3 bB13_3
  go_wp2_with fail
  refine (markAtom_any (by omega) ((((((((((hS7.toExt (alloc_ext w7 (.cells #[.string t1, .slice A7 x1.length c7] 27))).toExt hx8).toExt hx9).toExt (drew_ext w9)).toExt hx10).toExt hx11).toExt (drew_ext w11)).toExt hx12).toExt hx13).chg hC14 (fun x ha hb => by have h1 := hF7 x ha; have h2 := hS6.lt x hb; have h3 := size_of_ext (alloc_ext w6 (.cells #[.string t0, .slice A6 x0.length c6] 27)); omega)) (by omega) (by omega)).mono ?_
  rintro e w15 ⟨rfl, hS15, hC15⟩
  have B15_0 : BoxAt w15 (w.heap.size) #[.string t0, .slice A0 x0.length c0] := (B14_0.chg hC15 (fun hb => by have h1 := hF7 _ hb; have h2 := size_of_ext (trans_ext (trans_ext (trans_ext (trans_ext (trans_ext (trans_ext hx2 (drew_ext w2)) hx3) hx4) hx5) hx6) (alloc_ext w6 (.cells #[.string t0, .slice A6 x0.length c6] 27))); have h3 := B1_0.1; omega))
  have B15_1 : BoxAt w15 (w.heap.size + 1) #[.string t1, .slice A1 x1.length c1] := (B14_1.chg hC15 (fun hb => by have h1 := hF7 _ hb; have h2 := size_of_ext (trans_ext (trans_ext (trans_ext (trans_ext (trans_ext (trans_ext hx2 (drew_ext w2)) hx3) hx4) hx5) hx6) (alloc_ext w6 (.cells #[.string t0, .slice A6 x0.length c6] 27))); have h3 := B1_1.1; omega))
  have B15_2 : BoxAt w15 (w6.heap.size) #[.string t0, .slice A6 x0.length c6] := (B14_2.chg hC15 (fun hb => by have h1 := hF7 _ hb; have h2 := (BoxAt.new w6 #[.string t0, .slice A6 x0.length c6] 27).1; omega))
  have B15_3 : BoxAt w15 (w7.heap.size) #[.string t1, .slice A7 x1.length c7] := (B14_3.chg hC15 (fun hb => by have h1 := hS7.lt _ hb; have h2 := size_of_ext (refl_ext w7); omega))
  have lB15_0 := B15_0.1
  have bB15_0 := B15_0.2.1
  have lB15_1 := B15_1.1
  have bB15_1 := B15_1.2.1
  have lB15_2 := B15_2.1
  have bB15_2 := B15_2.2.1
  have lB15_3 := B15_3.1
  have bB15_3 := B15_3.2.1
  clear lB14_0 bB14_0 lB14_1 bB14_1 lB14_2 bB14_2 lB14_3 bB14_3
  go_wp2_with fail
  refine (eqIntS_any (by omega) (SV.toView (((((((((hS8.toExt hx9).toExt (drew_ext w9)).toExt hx10).toExt hx11).toExt (drew_ext w11)).toExt hx12).toExt hx13).chg hC14 (fun x ha hb => by have h1 := hF8 x ha; have h2 := hS6.lt x hb; have h3 := size_of_ext (trans_ext (trans_ext (alloc_ext w6 (.cells #[.string t0, .slice A6 x0.length c6] 27)) hx7) (alloc_ext w7 (.cells #[.string t1, .slice A7 x1.length c7] 27))); omega)).chg hC15 (fun x ha hb => by have h1 := hF8 x ha; have h2 := hS7.lt x hb; have h3 := size_of_ext (alloc_ext w7 (.cells #[.string t1, .slice A7 x1.length c7] 27)); omega)) sI_v) (by omega) (r5.toExt (hC15.isExt (hC14.isExt (trans_ext (trans_ext (trans_ext (trans_ext (trans_ext (trans_ext (trans_ext (trans_ext (trans_ext (trans_ext (trans_ext hx6 (alloc_ext w6 (.cells #[.string t0, .slice A6 x0.length c6] 27))) hx7) (alloc_ext w7 (.cells #[.string t1, .slice A7 x1.length c7] 27))) hx8) hx9) (drew_ext w9)) hx10) hx11) (drew_ext w11)) hx12) hx13) (fun b hb => Nat.le_trans (size_of_ext (refl_ext w5)) (hF6 b hb))) (fun b hb => Nat.le_trans (size_of_ext (trans_ext hx6 (alloc_ext w6 (.cells #[.string t0, .slice A6 x0.length c6] 27)))) (hF7 b hb))))).mono ?_
  rintro e w16 ⟨rfl, hx16⟩
  have B16_0 : BoxAt w16 (w.heap.size) #[.string t0, .slice A0 x0.length c0] := (B15_0.toExt hx16)
  have B16_1 : BoxAt w16 (w.heap.size + 1) #[.string t1, .slice A1 x1.length c1] := (B15_1.toExt hx16)
  have B16_2 : BoxAt w16 (w6.heap.size) #[.string t0, .slice A6 x0.length c6] := (B15_2.toExt hx16)
  have B16_3 : BoxAt w16 (w7.heap.size) #[.string t1, .slice A7 x1.length c7] := (B15_3.toExt hx16)
  have lB16_0 := B16_0.1
  have bB16_0 := B16_0.2.1
  have lB16_1 := B16_1.1
  have bB16_1 := B16_1.2.1
  have lB16_2 := B16_2.1
  have bB16_2 := B16_2.2.1
  have lB16_3 := B16_3.1
  have bB16_3 := B16_3.2.1
  clear lB15_0 bB15_0 lB15_1 bB15_1 lB15_2 bB15_2 lB15_3 bB15_3
  go_wp2_with fail
  refine (markIntS_any (by omega) ((((((((((hS8.toExt hx9).toExt (drew_ext w9)).toExt hx10).toExt hx11).toExt (drew_ext w11)).toExt hx12).toExt hx13).chg hC14 (fun x ha hb => by have h1 := hF8 x ha; have h2 := hS6.lt x hb; have h3 := size_of_ext (trans_ext (trans_ext (alloc_ext w6 (.cells #[.string t0, .slice A6 x0.length c6] 27)) hx7) (alloc_ext w7 (.cells #[.string t1, .slice A7 x1.length c7] 27))); omega)).chg hC15 (fun x ha hb => by have h1 := hF8 x ha; have h2 := hS7.lt x hb; have h3 := size_of_ext (alloc_ext w7 (.cells #[.string t1, .slice A7 x1.length c7] 27)); omega)).toExt hx16) (by omega) (by omega)).mono ?_
  rintro e w17 ⟨rfl, hS17, hC17⟩
  have B17_0 : BoxAt w17 (w.heap.size) #[.string t0, .slice A0 x0.length c0] := (B16_0.chg hC17 (fun hb => by have h1 := hF8 _ hb; have h2 := size_of_ext (trans_ext (trans_ext (trans_ext (trans_ext (trans_ext (trans_ext (trans_ext (trans_ext hx2 (drew_ext w2)) hx3) hx4) hx5) hx6) (alloc_ext w6 (.cells #[.string t0, .slice A6 x0.length c6] 27))) hx7) (alloc_ext w7 (.cells #[.string t1, .slice A7 x1.length c7] 27))); have h3 := B1_0.1; omega))
  have B17_1 : BoxAt w17 (w.heap.size + 1) #[.string t1, .slice A1 x1.length c1] := (B16_1.chg hC17 (fun hb => by have h1 := hF8 _ hb; have h2 := size_of_ext (trans_ext (trans_ext (trans_ext (trans_ext (trans_ext (trans_ext (trans_ext (trans_ext hx2 (drew_ext w2)) hx3) hx4) hx5) hx6) (alloc_ext w6 (.cells #[.string t0, .slice A6 x0.length c6] 27))) hx7) (alloc_ext w7 (.cells #[.string t1, .slice A7 x1.length c7] 27))); have h3 := B1_1.1; omega))
  have B17_2 : BoxAt w17 (w6.heap.size) #[.string t0, .slice A6 x0.length c6] := (B16_2.chg hC17 (fun hb => by have h1 := hF8 _ hb; have h2 := size_of_ext (alloc_ext w7 (.cells #[.string t1, .slice A7 x1.length c7] 27)); have h3 := B7_2.1; omega))
  have B17_3 : BoxAt w17 (w7.heap.size) #[.string t1, .slice A7 x1.length c7] := (B16_3.chg hC17 (fun hb => by have h1 := hF8 _ hb; have h2 := (BoxAt.new w7 #[.string t1, .slice A7 x1.length c7] 27).1; omega))
  have lB17_0 := B17_0.1
  have bB17_0 := B17_0.2.1
  have lB17_1 := B17_1.1
  have bB17_1 := B17_1.2.1
  have lB17_2 := B17_2.1
  have bB17_2 := B17_2.2.1
  have lB17_3 := B17_3.1
  have bB17_3 := B17_3.2.1
  clear lB16_0 bB16_0 lB16_1 bB16_1 lB16_2 bB16_2 lB16_3 bB16_3
  go_wp2_with fail
  refine (heldIntS_any (by omega) (SV.toView hS17 sI_v) (by omega) (by omega)).mono ?_
  rintro e w18 ⟨rfl, hx18⟩
  have B18_0 : BoxAt w18 (w.heap.size) #[.string t0, .slice A0 x0.length c0] := (B17_0.toExt hx18)
  have B18_1 : BoxAt w18 (w.heap.size + 1) #[.string t1, .slice A1 x1.length c1] := (B17_1.toExt hx18)
  have B18_2 : BoxAt w18 (w6.heap.size) #[.string t0, .slice A6 x0.length c6] := (B17_2.toExt hx18)
  have B18_3 : BoxAt w18 (w7.heap.size) #[.string t1, .slice A7 x1.length c7] := (B17_3.toExt hx18)
  have lB18_0 := B18_0.1
  have bB18_0 := B18_0.2.1
  have lB18_1 := B18_1.1
  have bB18_1 := B18_1.2.1
  have lB18_2 := B18_2.1
  have bB18_2 := B18_2.2.1
  have lB18_3 := B18_3.1
  have bB18_3 := B18_3.2.1
  clear lB17_0 bB17_0 lB17_1 bB17_1 lB17_2 bB17_2 lB17_3 bB17_3
  go_wp2_with fail
  go_region_held3 (fun w' => (∀ a : Addr, a.block < w18.heap.size → w'.cell? a = w18.cell? a) ∧ ∃ y, w' = ext w18 y) (first | exact heldE (drew_ext w18) | exact heldE (trans_ext (drew_ext w18) hx19) | exact heldE (trans_ext (trans_ext (drew_ext w18) hx19) hx20) | exact heldE (trans_ext (trans_ext (trans_ext (drew_ext w18) hx19) hx20) hx21)) (first | (go_at_call_of 15 (A0); refine (toAtom_any s0 (r0.toExt (trans_ext (trans_ext (hC17.isExt (trans_ext (hC15.isExt (hC14.isExt (trans_ext (trans_ext (trans_ext (trans_ext (trans_ext (trans_ext (trans_ext (trans_ext (trans_ext (trans_ext (trans_ext (trans_ext (trans_ext (trans_ext (trans_ext (trans_ext (trans_ext (trans_ext (trans_ext (alloc_ext w (.cells #[.string t0, .slice A0 x0.length c0] 24)) (alloc_ext (w.alloc (.cells #[.string t0, .slice A0 x0.length c0] 24)) (.cells #[.string t1, .slice A1 x1.length c1] 24))) hx1) hx2) (drew_ext w2)) hx3) hx4) hx5) hx6) (alloc_ext w6 (.cells #[.string t0, .slice A6 x0.length c6] 27))) hx7) (alloc_ext w7 (.cells #[.string t1, .slice A7 x1.length c7] 27))) hx8) hx9) (drew_ext w9)) hx10) hx11) (drew_ext w11)) hx12) hx13) (fun b hb => Nat.le_trans (size_of_ext (trans_ext (trans_ext (trans_ext (trans_ext (trans_ext (trans_ext (trans_ext (alloc_ext w (.cells #[.string t0, .slice A0 x0.length c0] 24)) (alloc_ext (w.alloc (.cells #[.string t0, .slice A0 x0.length c0] 24)) (.cells #[.string t1, .slice A1 x1.length c1] 24))) hx1) hx2) (drew_ext w2)) hx3) hx4) hx5)) (hF6 b hb))) (fun b hb => Nat.le_trans (size_of_ext (trans_ext (trans_ext (trans_ext (trans_ext (trans_ext (trans_ext (trans_ext (trans_ext (trans_ext (alloc_ext w (.cells #[.string t0, .slice A0 x0.length c0] 24)) (alloc_ext (w.alloc (.cells #[.string t0, .slice A0 x0.length c0] 24)) (.cells #[.string t1, .slice A1 x1.length c1] 24))) hx1) hx2) (drew_ext w2)) hx3) hx4) hx5) hx6) (alloc_ext w6 (.cells #[.string t0, .slice A6 x0.length c6] 27)))) (hF7 b hb))) hx16) (fun b hb => Nat.le_trans (size_of_ext (trans_ext (trans_ext (trans_ext (trans_ext (trans_ext (trans_ext (trans_ext (trans_ext (trans_ext (trans_ext (trans_ext (alloc_ext w (.cells #[.string t0, .slice A0 x0.length c0] 24)) (alloc_ext (w.alloc (.cells #[.string t0, .slice A0 x0.length c0] 24)) (.cells #[.string t1, .slice A1 x1.length c1] 24))) hx1) hx2) (drew_ext w2)) hx3) hx4) hx5) hx6) (alloc_ext w6 (.cells #[.string t0, .slice A6 x0.length c6] 27))) hx7) (alloc_ext w7 (.cells #[.string t1, .slice A7 x1.length c7] 27)))) (hF8 b hb))) hx18) (drew_ext w18)))).mono ?_; rintro e w19 ⟨v19, F19, rfl, hx19, hS19, hF19⟩; obtain ⟨A19, c19, rfl, _, _, r19⟩ := hS19.view sI_v) | (go_at_call_of 15 (A1); refine (toAtom_any s1 (r1.toExt (trans_ext (trans_ext (trans_ext (hC17.isExt (trans_ext (hC15.isExt (hC14.isExt (trans_ext (trans_ext (trans_ext (trans_ext (trans_ext (trans_ext (trans_ext (trans_ext (trans_ext (trans_ext (trans_ext (trans_ext (trans_ext (trans_ext (trans_ext (trans_ext (trans_ext (trans_ext (trans_ext (alloc_ext w (.cells #[.string t0, .slice A0 x0.length c0] 24)) (alloc_ext (w.alloc (.cells #[.string t0, .slice A0 x0.length c0] 24)) (.cells #[.string t1, .slice A1 x1.length c1] 24))) hx1) hx2) (drew_ext w2)) hx3) hx4) hx5) hx6) (alloc_ext w6 (.cells #[.string t0, .slice A6 x0.length c6] 27))) hx7) (alloc_ext w7 (.cells #[.string t1, .slice A7 x1.length c7] 27))) hx8) hx9) (drew_ext w9)) hx10) hx11) (drew_ext w11)) hx12) hx13) (fun b hb => Nat.le_trans (size_of_ext (trans_ext (trans_ext (trans_ext (trans_ext (trans_ext (trans_ext (trans_ext (alloc_ext w (.cells #[.string t0, .slice A0 x0.length c0] 24)) (alloc_ext (w.alloc (.cells #[.string t0, .slice A0 x0.length c0] 24)) (.cells #[.string t1, .slice A1 x1.length c1] 24))) hx1) hx2) (drew_ext w2)) hx3) hx4) hx5)) (hF6 b hb))) (fun b hb => Nat.le_trans (size_of_ext (trans_ext (trans_ext (trans_ext (trans_ext (trans_ext (trans_ext (trans_ext (trans_ext (trans_ext (alloc_ext w (.cells #[.string t0, .slice A0 x0.length c0] 24)) (alloc_ext (w.alloc (.cells #[.string t0, .slice A0 x0.length c0] 24)) (.cells #[.string t1, .slice A1 x1.length c1] 24))) hx1) hx2) (drew_ext w2)) hx3) hx4) hx5) hx6) (alloc_ext w6 (.cells #[.string t0, .slice A6 x0.length c6] 27)))) (hF7 b hb))) hx16) (fun b hb => Nat.le_trans (size_of_ext (trans_ext (trans_ext (trans_ext (trans_ext (trans_ext (trans_ext (trans_ext (trans_ext (trans_ext (trans_ext (trans_ext (alloc_ext w (.cells #[.string t0, .slice A0 x0.length c0] 24)) (alloc_ext (w.alloc (.cells #[.string t0, .slice A0 x0.length c0] 24)) (.cells #[.string t1, .slice A1 x1.length c1] 24))) hx1) hx2) (drew_ext w2)) hx3) hx4) hx5) hx6) (alloc_ext w6 (.cells #[.string t0, .slice A6 x0.length c6] 27))) hx7) (alloc_ext w7 (.cells #[.string t1, .slice A7 x1.length c7] 27)))) (hF8 b hb))) hx18) (drew_ext w18)) hx19))).mono ?_; rintro e w20 ⟨v20, F20, rfl, hx20, hS20, hF20⟩; obtain ⟨A20, c20, rfl, _, _, r20⟩ := hS20.view sI_v) | (go_at_call 16; refine (CommonVariables_any (by omega) (r19.toExt hx20) (by omega) r20).mono ?_; rintro e w21 ⟨v21, F21, rfl, hx21, hS21, hF21⟩; obtain ⟨A21, c21, rfl, _, _, r21⟩ := hS21.view sI_v))
  have B21_0 : BoxAt w21 (w.heap.size) #[.string t0, .slice A0 x0.length c0] := B18_0.toExt (trans_ext (trans_ext (trans_ext (drew_ext w18) hx19) hx20) hx21)
  have B21_1 : BoxAt w21 (w.heap.size + 1) #[.string t1, .slice A1 x1.length c1] := B18_1.toExt (trans_ext (trans_ext (trans_ext (drew_ext w18) hx19) hx20) hx21)
  have B21_2 : BoxAt w21 (w6.heap.size) #[.string t0, .slice A6 x0.length c6] := B18_2.toExt (trans_ext (trans_ext (trans_ext (drew_ext w18) hx19) hx20) hx21)
  have B21_3 : BoxAt w21 (w7.heap.size) #[.string t1, .slice A7 x1.length c7] := B18_3.toExt (trans_ext (trans_ext (trans_ext (drew_ext w18) hx19) hx20) hx21)
  have lB21_0 := B21_0.1
  have bB21_0 := B21_0.2.1
  have lB21_1 := B21_1.1
  have bB21_1 := B21_1.2.1
  have lB21_2 := B21_2.1
  have bB21_2 := B21_2.2.1
  have lB21_3 := B21_3.1
  have bB21_3 := B21_3.2.1
  clear lB18_0 bB18_0 lB18_1 bB18_1 lB18_2 bB18_2 lB18_3 bB18_3
  go_wp2_with fail
  refine (eqIntS_any (by omega) r21 (by omega) (r5.toExt (trans_ext (trans_ext (trans_ext (trans_ext (trans_ext (hC17.isExt (trans_ext (hC15.isExt (hC14.isExt (trans_ext (trans_ext (trans_ext (trans_ext (trans_ext (trans_ext (trans_ext (trans_ext (trans_ext (trans_ext (trans_ext hx6 (alloc_ext w6 (.cells #[.string t0, .slice A6 x0.length c6] 27))) hx7) (alloc_ext w7 (.cells #[.string t1, .slice A7 x1.length c7] 27))) hx8) hx9) (drew_ext w9)) hx10) hx11) (drew_ext w11)) hx12) hx13) (fun b hb => Nat.le_trans (size_of_ext (refl_ext w5)) (hF6 b hb))) (fun b hb => Nat.le_trans (size_of_ext (trans_ext hx6 (alloc_ext w6 (.cells #[.string t0, .slice A6 x0.length c6] 27)))) (hF7 b hb))) hx16) (fun b hb => Nat.le_trans (size_of_ext (trans_ext (trans_ext (trans_ext hx6 (alloc_ext w6 (.cells #[.string t0, .slice A6 x0.length c6] 27))) hx7) (alloc_ext w7 (.cells #[.string t1, .slice A7 x1.length c7] 27)))) (hF8 b hb))) hx18) (drew_ext w18)) hx19) hx20) hx21))).mono ?_
  rintro e w22 ⟨rfl, hx22⟩
  have B22_0 : BoxAt w22 (w.heap.size) #[.string t0, .slice A0 x0.length c0] := (B21_0.toExt hx22)
  have B22_1 : BoxAt w22 (w.heap.size + 1) #[.string t1, .slice A1 x1.length c1] := (B21_1.toExt hx22)
  have B22_2 : BoxAt w22 (w6.heap.size) #[.string t0, .slice A6 x0.length c6] := (B21_2.toExt hx22)
  have B22_3 : BoxAt w22 (w7.heap.size) #[.string t1, .slice A7 x1.length c7] := (B21_3.toExt hx22)
  have lB22_0 := B22_0.1
  have bB22_0 := B22_0.2.1
  have lB22_1 := B22_1.1
  have bB22_1 := B22_1.2.1
  have lB22_2 := B22_2.1
  have bB22_2 := B22_2.2.1
  have lB22_3 := B22_3.1
  have bB22_3 := B22_3.2.1
  clear lB21_0 bB21_0 lB21_1 bB21_1 lB21_2 bB21_2 lB21_3 bB21_3
  go_wp2_with fail
  refine (heldIntS_any (by omega) (SV.toView ((((((hS17.toExt hx18).toExt (drew_ext w18)).toExt hx19).toExt hx20).toExt hx21).toExt hx22) sI_v) (by omega) (by omega)).mono ?_
  rintro e w23 ⟨rfl, hx23⟩
  have B23_0 : BoxAt w23 (w.heap.size) #[.string t0, .slice A0 x0.length c0] := (B22_0.toExt hx23)
  have B23_1 : BoxAt w23 (w.heap.size + 1) #[.string t1, .slice A1 x1.length c1] := (B22_1.toExt hx23)
  have B23_2 : BoxAt w23 (w6.heap.size) #[.string t0, .slice A6 x0.length c6] := (B22_2.toExt hx23)
  have B23_3 : BoxAt w23 (w7.heap.size) #[.string t1, .slice A7 x1.length c7] := (B22_3.toExt hx23)
  have lB23_0 := B23_0.1
  have bB23_0 := B23_0.2.1
  have lB23_1 := B23_1.1
  have bB23_1 := B23_1.2.1
  have lB23_2 := B23_2.1
  have bB23_2 := B23_2.2.1
  have lB23_3 := B23_3.1
  have bB23_3 := B23_3.2.1
  clear lB22_0 bB22_0 lB22_1 bB22_1 lB22_2 bB22_2 lB22_3 bB22_3
  go_wp2
  go_ret
  exact ⟨rfl, (trans_ext (trans_ext (trans_ext (trans_ext (trans_ext (trans_ext (trans_ext (hC17.isExt (trans_ext (hC15.isExt (hC14.isExt (trans_ext (trans_ext (trans_ext (trans_ext (trans_ext (trans_ext (trans_ext (trans_ext (trans_ext (trans_ext (trans_ext (trans_ext (trans_ext (trans_ext (trans_ext (trans_ext (trans_ext (trans_ext (trans_ext (alloc_ext w (.cells #[.string t0, .slice A0 x0.length c0] 24)) (alloc_ext (w.alloc (.cells #[.string t0, .slice A0 x0.length c0] 24)) (.cells #[.string t1, .slice A1 x1.length c1] 24))) hx1) hx2) (drew_ext w2)) hx3) hx4) hx5) hx6) (alloc_ext w6 (.cells #[.string t0, .slice A6 x0.length c6] 27))) hx7) (alloc_ext w7 (.cells #[.string t1, .slice A7 x1.length c7] 27))) hx8) hx9) (drew_ext w9)) hx10) hx11) (drew_ext w11)) hx12) hx13) (fun b hb => Nat.le_trans (size_of_ext (trans_ext (trans_ext (trans_ext (trans_ext (trans_ext (trans_ext (trans_ext (alloc_ext w (.cells #[.string t0, .slice A0 x0.length c0] 24)) (alloc_ext (w.alloc (.cells #[.string t0, .slice A0 x0.length c0] 24)) (.cells #[.string t1, .slice A1 x1.length c1] 24))) hx1) hx2) (drew_ext w2)) hx3) hx4) hx5)) (hF6 b hb))) (fun b hb => Nat.le_trans (size_of_ext (trans_ext (trans_ext (trans_ext (trans_ext (trans_ext (trans_ext (trans_ext (trans_ext (trans_ext (alloc_ext w (.cells #[.string t0, .slice A0 x0.length c0] 24)) (alloc_ext (w.alloc (.cells #[.string t0, .slice A0 x0.length c0] 24)) (.cells #[.string t1, .slice A1 x1.length c1] 24))) hx1) hx2) (drew_ext w2)) hx3) hx4) hx5) hx6) (alloc_ext w6 (.cells #[.string t0, .slice A6 x0.length c6] 27)))) (hF7 b hb))) hx16) (fun b hb => Nat.le_trans (size_of_ext (trans_ext (trans_ext (trans_ext (trans_ext (trans_ext (trans_ext (trans_ext (trans_ext (trans_ext (trans_ext (trans_ext (alloc_ext w (.cells #[.string t0, .slice A0 x0.length c0] 24)) (alloc_ext (w.alloc (.cells #[.string t0, .slice A0 x0.length c0] 24)) (.cells #[.string t1, .slice A1 x1.length c1] 24))) hx1) hx2) (drew_ext w2)) hx3) hx4) hx5) hx6) (alloc_ext w6 (.cells #[.string t0, .slice A6 x0.length c6] 27))) hx7) (alloc_ext w7 (.cells #[.string t1, .slice A7 x1.length c7] 27)))) (hF8 b hb))) hx18) (drew_ext w18)) hx19) hx20) hx21) hx22) hx23)⟩

theorem law_CommonVariables (t0 : ByteArray) (A0 : Option Addr) (c0 : Nat) (x0 : List Int) (t1 : ByteArray) (A1 : Option Addr) (c1 : Nat) (x1 : List Int) (w : World) (k0 : t0.size ≤ 9223372036854775807) (l0 : x0.length ≤ 9223372036854775807) (r0 : RI w A0 x0) (k1 : t1.size ≤ 9223372036854775807) (l1 : x1.length ≤ 9223372036854775807) (r1 : RI w A1 x1) : Calls Try.prog 3 #[.agg #[.string t0, .slice A0 x0.length c0], .agg #[.string t1, .slice A1 x1.length c1]] w fun e w' => e = .returned (.bool true) ∧ ∃ y, w' = ext w y := by
  by_cases hz0 : 0 ≤ szA (1048576) t0.size x0.length
  · have hy0 : szA (1048576) t0.size x0.length ≤ 1048576 := szA_le hz0
    by_cases hz1 : 0 ≤ szA (szA (1048576) t0.size x0.length) t1.size x1.length
    · have hy1 : szA (szA (1048576) t0.size x0.length) t1.size x1.length ≤ 1048576 := Int.le_trans (szA_le hz1) hy0
      have q0 := szA_small hz0
      have q1 := szA_small hz1
      exact law_CommonVariables_m _ _ _ _ _ _ _ _ w k0 l0 r0 k1 l1 r1 hz0 hy0 hz1 hy1 (by omega) (by omega)
    · exact law_CommonVariables_z1 _ _ _ _ _ _ _ _ w k0 l0 k1 l1 hz0 hy0 (by omega)
  · exact law_CommonVariables_z0 _ _ _ _ _ _ _ _ w k0 l0 (by omega)

set_option maxRecDepth 100000 in
theorem lifted_FnExactCommonVariables (os : Os) (started : os.Started) (H : Type) (enc : TypeId × Value → H) :
    ReturnsInHanded {} Try.checked os 3 .any (Rows.fnExactCommonVariablesSpec.pre6 enc Try.prog Try.f3 Rows.fnExactCommonVariablesRow.domain false) (Rows.fnExactCommonVariablesSpec.post enc Try.prog Try.f3 false true false false) := by
  refine returnsInHanded_of_change (C := Try.checked) Try.own started (by kernel_rfl) Try.func3 (ChangeSpec.witness6 (enc := enc) (C := Try.checked) false ⟨#[], #[.agg #[.string ⟨#[]⟩, .slice none 0 0], .agg #[.string ⟨#[]⟩, .slice none 0 0]], []⟩ 8 (by kernel_rfl) (by kernel_rfl) (by kernel_rfl) (by kernel_rfl)) ?_
  intro W base args ds gs before hval0 hW hcnd _
  have hval : ∀ (j : Nat) t v, Try.f3.params[j]? = some t → args[j]? = some v → Value.okWide Try.prog W .any base t v := hval0
  clear hval0 hcnd
  obtain ⟨_, _, hA0, hV0, _, _, _⟩ := id hW
  have hA : DataW.TrodAll enc Try.prog W 0 (fun _ => true) true Try.f3.params.toList args.toList ds _ := hA0
  clear hA0
  rw [Try.params3] at hA hval
  obtain ⟨v0, v1, d0, d1, p0, p1, rfl, rfl, e9, h0, h1⟩ := trodAll_two hA
  obtain ⟨cs0, rfl, _⟩ := okWide_struct Try.underlying24 (hval 0 _ v0 rfl rfl)
  obtain ⟨⟨t0, x0⟩, ⟨_, _, hc0, _, rfl, A0, c0, rfl, r0⟩, k0, l0, _⟩ := openArg oAtom h0
  obtain rfl := agg2 hc0
  obtain ⟨cs1, rfl, _⟩ := okWide_struct Try.underlying24 (hval 1 _ v1 rfl rfl)
  obtain ⟨⟨t1, x1⟩, ⟨_, _, hc1, _, rfl, A1, c1, rfl, r1⟩, k1, l1, _⟩ := openArg oAtom h1
  obtain rfl := agg2 hc1
  refine (law_CommonVariables t0 A0 c0 x0 t1 A1 c1 x1 W (le_maxLen k0) (le_maxLen l0) r0 (le_maxLen k1) (le_maxLen l1) r1).mono fun e W' ⟨he, hw⟩ => ?_
  exact ⟨_, he, law_post Try.laidOut hW rfl rfl rfl Try.underlying4 (by kernel_rfl) hw⟩

theorem fnExactCommonVariables_holds : Rows.FnExactCommonVariablesSaid :=
  OpenClaim.holds_of_wide 3 Try.f3 rfl rfl rfl rfl rfl rfl rfl ⟨rfl, rfl, rfl, rfl, rfl⟩ rfl rfl rfl rfl rfl (by kernel_rfl) Try.func3 (by kernel_rfl)
    (of_decide_eq_true (by kernel_rfl)) (by unfold Func.isWrapper; rw [if_neg (of_decide_eq_false (by kernel_rfl))]; exact ⟨rfl, rfl⟩)
    (fun os started H enc _ => lifted_FnExactCommonVariables os started H enc)

end Go.Proofs.Ytoffbconbgipjaa
