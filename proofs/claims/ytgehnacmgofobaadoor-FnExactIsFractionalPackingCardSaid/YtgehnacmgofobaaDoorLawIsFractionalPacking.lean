/- For all arguments the program's IsFractionalPacking and the reference's give the same, the arguments are left alone, and what is handed back shares no memory with them. -/
import Derived.Test.YtgehnacmgofobaaDoorTypes
import Derived.Test.YtgehnacmgofobaaDoorQuery
import Derived.Test.YtgehnacmgofobaaDoorRats
import Derived.Test.YtgehnacmgofobaaDoorCover3
import Derived.Test.YtgehnacmgofobaaDoorVarW
namespace Go.Proofs.YtgehnacmgofobaaDoor
open Go.ChangeShapes Go.WideShapes Go.ChangeAt Go.RowKit

set_option maxHeartbeats 2000000 in
theorem law_IsFractionalPacking_z0 (A0 : Option Addr) (c0 : Nat) (B0 : Option Addr) (e0 : Nat) (d0 : Qd) (A1 : Option Addr) (c1 : Nat) (x1 : List (Int × Int)) (w : World) (q0 : QQ d0) (r0 : vQ w [.int .i64 d0.1, .slice A0 d0.2.1.length c0, .slice B0 d0.2.2.length e0] d0) (hz0 : szQ (1048576) d0 < 0) : Calls Tryd.prog 4 #[.agg #[.int .i64 d0.1, .slice A0 d0.2.1.length c0, .slice B0 d0.2.2.length e0], .slice A1 x1.length c1] w fun e w' => e = .returned (.bool true) ∧ ∃ y, w' = ext w y := by
  go_enter Tryd.func4, Tryd.ntmps4
  go_wp2_with fail
  refine (szQuery_d q0 (VD.toExt r0 (alloc_ext w (.cells #[.int .i64 d0.1, .slice A0 d0.2.1.length c0, .slice B0 d0.2.2.length e0] 25))) (by omega) (by omega)).mono ?_
  rintro e w1 ⟨rfl, hx1⟩
  have B1_0 : BoxAt w1 (w.heap.size) #[.int .i64 d0.1, .slice A0 d0.2.1.length c0, .slice B0 d0.2.2.length e0] := by obtain ⟨y, e⟩ := hx1; rw [e]; refine ⟨?_, fun j => ?_, fun j => ?_⟩ <;> go_simp
  have lB1_0 := B1_0.1
  have bB1_0 := B1_0.2.1
  go_wp2_with fail
  go_ret
  exact ⟨rfl, (trans_ext (alloc_ext w (.cells #[.int .i64 d0.1, .slice A0 d0.2.1.length c0, .slice B0 d0.2.2.length e0] 25)) hx1)⟩

set_option maxHeartbeats 2000000 in
theorem law_IsFractionalPacking_z1 (A0 : Option Addr) (c0 : Nat) (B0 : Option Addr) (e0 : Nat) (d0 : Qd) (A1 : Option Addr) (c1 : Nat) (x1 : List (Int × Int)) (w : World) (q0 : QQ d0) (r0 : vQ w [.int .i64 d0.1, .slice A0 d0.2.1.length c0, .slice B0 d0.2.2.length e0] d0) (l1 : x1.length ≤ 9223372036854775807) (hz0 : 0 ≤ szQ (1048576) d0) (hy0 : szQ (1048576) d0 ≤ 1048576) (hz1 : szL (szQ (1048576) d0) x1.length < 0) : Calls Tryd.prog 4 #[.agg #[.int .i64 d0.1, .slice A0 d0.2.1.length c0, .slice B0 d0.2.2.length e0], .slice A1 x1.length c1] w fun e w' => e = .returned (.bool true) ∧ ∃ y, w' = ext w y := by
  go_enter Tryd.func4, Tryd.ntmps4
  go_wp2_with fail
  refine (szQuery_d q0 (VD.toExt r0 (alloc_ext w (.cells #[.int .i64 d0.1, .slice A0 d0.2.1.length c0, .slice B0 d0.2.2.length e0] 25))) (by omega) (by omega)).mono ?_
  rintro e w1 ⟨rfl, hx1⟩
  have B1_0 : BoxAt w1 (w.heap.size) #[.int .i64 d0.1, .slice A0 d0.2.1.length c0, .slice B0 d0.2.2.length e0] := by obtain ⟨y, e⟩ := hx1; rw [e]; refine ⟨?_, fun j => ?_, fun j => ?_⟩ <;> go_simp
  have lB1_0 := B1_0.1
  have bB1_0 := B1_0.2.1
  go_wp2_with fail
  refine (szRationalS_any l1 (by omega) (by omega)).mono ?_
  rintro e w2 ⟨rfl, hx2⟩
  have B2_0 : BoxAt w2 (w.heap.size) #[.int .i64 d0.1, .slice A0 d0.2.1.length c0, .slice B0 d0.2.2.length e0] := (B1_0.toExt hx2)
  have lB2_0 := B2_0.1
  have bB2_0 := B2_0.2.1
  clear lB1_0 bB1_0
  go_wp2_with fail
  go_ret
  exact ⟨rfl, (trans_ext (trans_ext (alloc_ext w (.cells #[.int .i64 d0.1, .slice A0 d0.2.1.length c0, .slice B0 d0.2.2.length e0] 25)) hx1) hx2)⟩

set_option maxHeartbeats 2000000 in
theorem law_IsFractionalPacking_m (A0 : Option Addr) (c0 : Nat) (B0 : Option Addr) (e0 : Nat) (d0 : Qd) (A1 : Option Addr) (c1 : Nat) (x1 : List (Int × Int)) (w : World) (q0 : QQ d0) (r0 : vQ w [.int .i64 d0.1, .slice A0 d0.2.1.length c0, .slice B0 d0.2.2.length e0] d0) (l1 : x1.length ≤ 9223372036854775807) (r1 : RR w A1 x1) (hg : OneAt w) (hz0 : 0 ≤ szQ (1048576) d0) (hy0 : szQ (1048576) d0 ≤ 1048576) (hz1 : 0 ≤ szL (szQ (1048576) d0) x1.length) (hy1 : szL (szQ (1048576) d0) x1.length ≤ 1048576) (s0 : BQ d0) (s1 : x1.length ≤ 1048576) : Calls Tryd.prog 4 #[.agg #[.int .i64 d0.1, .slice A0 d0.2.1.length c0, .slice B0 d0.2.2.length e0], .slice A1 x1.length c1] w fun e w' => e = .returned (.bool true) ∧ ∃ y, w' = ext w y := by
  go_enter Tryd.func4, Tryd.ntmps4
  go_wp2_with fail
  refine (szQuery_d q0 (VD.toExt r0 (alloc_ext w (.cells #[.int .i64 d0.1, .slice A0 d0.2.1.length c0, .slice B0 d0.2.2.length e0] 25))) (by omega) (by omega)).mono ?_
  rintro e w1 ⟨rfl, hx1⟩
  have B1_0 : BoxAt w1 (w.heap.size) #[.int .i64 d0.1, .slice A0 d0.2.1.length c0, .slice B0 d0.2.2.length e0] := by obtain ⟨y, e⟩ := hx1; rw [e]; refine ⟨?_, fun j => ?_, fun j => ?_⟩ <;> go_simp
  have lB1_0 := B1_0.1
  have bB1_0 := B1_0.2.1
  go_wp2_with fail
  refine (szRationalS_any l1 (by omega) (by omega)).mono ?_
  rintro e w2 ⟨rfl, hx2⟩
  have B2_0 : BoxAt w2 (w.heap.size) #[.int .i64 d0.1, .slice A0 d0.2.1.length c0, .slice B0 d0.2.2.length e0] := (B1_0.toExt hx2)
  have lB2_0 := B2_0.1
  have bB2_0 := B2_0.2.1
  clear lB1_0 bB1_0
  go_wp2_with fail
  refine (toQuery_d s0 (VD.toExt r0 (trans_ext (trans_ext (alloc_ext w (.cells #[.int .i64 d0.1, .slice A0 d0.2.1.length c0, .slice B0 d0.2.2.length e0] 25)) hx1) hx2))).mono ?_
  rintro e w3 ⟨v3, u3, t3, F3, rfl, hx3, hS3, hN3, hF3⟩
  obtain ⟨A3, c3, B3, e3, rfl, rfl, rfl⟩ := sQ_form hS3
  have B3_0 : BoxAt w3 (w.heap.size) #[.int .i64 d0.1, .slice A0 d0.2.1.length c0, .slice B0 d0.2.2.length e0] := (B2_0.toExt hx3)
  have lB3_0 := B3_0.1
  have bB3_0 := B3_0.2.1
  clear lB2_0 bB2_0
  go_wp2_with fail
  refine (toRationalS_any s1 (r1.toExt (trans_ext (trans_ext (trans_ext (alloc_ext w (.cells #[.int .i64 d0.1, .slice A0 d0.2.1.length c0, .slice B0 d0.2.2.length e0] 25)) hx1) hx2) hx3))).mono ?_
  rintro e w4 ⟨v4, F4, rfl, hx4, hS4, hF4⟩
  obtain ⟨A4, c4, rfl, _, _, r4⟩ := hS4.view sR_v
  have B4_0 : BoxAt w4 (w.heap.size) #[.int .i64 d0.1, .slice A0 d0.2.1.length c0, .slice B0 d0.2.2.length e0] := (B3_0.toExt hx4)
  have lB4_0 := B4_0.1
  have bB4_0 := B4_0.2.1
  clear lB3_0 bB3_0
  go_wp2_with fail
  refine (specIsFractionalPacking_l s0 (sQ_v _ _ _ (OD.toExt hS3 hx4)) (by omega) r4).mono ?_
  rintro e w5 ⟨rfl, hx5⟩
  have B5_0 : BoxAt w5 (w.heap.size) #[.int .i64 d0.1, .slice A0 d0.2.1.length c0, .slice B0 d0.2.2.length e0] := (B4_0.toExt hx5)
  have lB5_0 := B5_0.1
  have bB5_0 := B5_0.2.1
  clear lB4_0 bB4_0
  go_wp2_with fail
  refine (toQuery_d s0 (VD.toExt r0 (trans_ext (trans_ext (trans_ext (trans_ext (trans_ext (alloc_ext w (.cells #[.int .i64 d0.1, .slice A0 d0.2.1.length c0, .slice B0 d0.2.2.length e0] 25)) hx1) hx2) hx3) hx4) hx5))).mono ?_
  rintro e w6 ⟨v6, u6, t6, F6, rfl, hx6, hS6, hN6, hF6⟩
  obtain ⟨A6, c6, B6, e6, rfl, rfl, rfl⟩ := sQ_form hS6
  have B6_0 : BoxAt w6 (w.heap.size) #[.int .i64 d0.1, .slice A0 d0.2.1.length c0, .slice B0 d0.2.2.length e0] := (B5_0.toExt hx6)
  have lB6_0 := B6_0.1
  have bB6_0 := B6_0.2.1
  clear lB5_0 bB5_0
  go_wp2_with fail
  refine (toRationalS_any s1 (r1.toExt (trans_ext (trans_ext (trans_ext (trans_ext (trans_ext (trans_ext (trans_ext (alloc_ext w (.cells #[.int .i64 d0.1, .slice A0 d0.2.1.length c0, .slice B0 d0.2.2.length e0] 25)) hx1) hx2) hx3) hx4) hx5) hx6) (alloc_ext w6 (.cells #[.int .i64 d0.1, .slice A6 d0.2.1.length c6, .slice B6 d0.2.2.length e6] 32))))).mono ?_
  rintro e w7 ⟨v7, F7, rfl, hx7, hS7, hF7⟩
  obtain ⟨A7, c7, rfl, _, _, r7⟩ := hS7.view sR_v
  have B7_0 : BoxAt w7 (w.heap.size) #[.int .i64 d0.1, .slice A0 d0.2.1.length c0, .slice B0 d0.2.2.length e0] := ((B6_0.toExt (alloc_ext w6 (.cells #[.int .i64 d0.1, .slice A6 d0.2.1.length c6, .slice B6 d0.2.2.length e6] 32))).toExt hx7)
  have B7_1 : BoxAt w7 (w6.heap.size) #[.int .i64 d0.1, .slice A6 d0.2.1.length c6, .slice B6 d0.2.2.length e6] := ((BoxAt.new _ _ _).toExt hx7)
  have lB7_0 := B7_0.1
  have bB7_0 := B7_0.2.1
  have lB7_1 := B7_1.1
  have bB7_1 := B7_1.2.1
  clear lB6_0 bB6_0
  go_wp2_with fail
  refine (IsFractionalPacking_l (hg.toExt (trans_ext (trans_ext (trans_ext (trans_ext (trans_ext (trans_ext (trans_ext (trans_ext (alloc_ext w (.cells #[.int .i64 d0.1, .slice A0 d0.2.1.length c0, .slice B0 d0.2.2.length e0] 25)) hx1) hx2) hx3) hx4) hx5) hx6) (alloc_ext w6 (.cells #[.int .i64 d0.1, .slice A6 d0.2.1.length c6, .slice B6 d0.2.2.length e6] 32))) hx7)) s0 (sQ_v _ _ _ (OD.toExt (OD.toExt hS6 (alloc_ext w6 (.cells #[.int .i64 d0.1, .slice A6 d0.2.1.length c6, .slice B6 d0.2.2.length e6] 32))) hx7)) (by omega) r7).mono ?_
  rintro e w8 ⟨rfl, hx8⟩
  have B8_0 : BoxAt w8 (w.heap.size) #[.int .i64 d0.1, .slice A0 d0.2.1.length c0, .slice B0 d0.2.2.length e0] := (B7_0.toExt hx8)
  have B8_1 : BoxAt w8 (w6.heap.size) #[.int .i64 d0.1, .slice A6 d0.2.1.length c6, .slice B6 d0.2.2.length e6] := (B7_1.toExt hx8)
  have lB8_0 := B8_0.1
  have bB8_0 := B8_0.2.1
  have lB8_1 := B8_1.1
  have bB8_1 := B8_1.2.1
  clear lB7_0 bB7_0 lB7_1 bB7_1
  go_wp2_with fail
  go_region_held3 (fun w' => (∀ a : Addr, a.block < w8.heap.size → w'.cell? a = w8.cell? a) ∧ ∃ y, w' = ext w8 y) (first | exact heldE (drew_ext w8) | exact heldE (trans_ext (drew_ext w8) hx9) | exact heldE (trans_ext (trans_ext (drew_ext w8) hx9) hx10)) (first | (go_at_call_of 8 (A0); refine (toQuery_d s0 (VD.toExt r0 (trans_ext (trans_ext (trans_ext (trans_ext (trans_ext (trans_ext (trans_ext (trans_ext (trans_ext (trans_ext (alloc_ext w (.cells #[.int .i64 d0.1, .slice A0 d0.2.1.length c0, .slice B0 d0.2.2.length e0] 25)) hx1) hx2) hx3) hx4) hx5) hx6) (alloc_ext w6 (.cells #[.int .i64 d0.1, .slice A6 d0.2.1.length c6, .slice B6 d0.2.2.length e6] 32))) hx7) hx8) (drew_ext w8)))).mono ?_; rintro e w9 ⟨v9, u9, t9, F9, rfl, hx9, hS9, hN9, hF9⟩; obtain ⟨A9, c9, B9, e9, rfl, rfl, rfl⟩ := sQ_form hS9) | (go_at_call 11; refine (eqQuery_d s0 (sQ_v _ _ _ (OD.toExt (OD.toExt (OD.toExt (OD.toExt (OD.toExt hS6 (alloc_ext w6 (.cells #[.int .i64 d0.1, .slice A6 d0.2.1.length c6, .slice B6 d0.2.2.length e6] 32))) hx7) hx8) (drew_ext w8)) hx9)) s0 (sQ_v _ _ _ hS9)).mono ?_; rintro e w10 ⟨rfl, hx10⟩))
  have B10_0 : BoxAt w10 (w.heap.size) #[.int .i64 d0.1, .slice A0 d0.2.1.length c0, .slice B0 d0.2.2.length e0] := B8_0.toExt (trans_ext (trans_ext (drew_ext w8) hx9) hx10)
  have B10_1 : BoxAt w10 (w6.heap.size) #[.int .i64 d0.1, .slice A6 d0.2.1.length c6, .slice B6 d0.2.2.length e6] := B8_1.toExt (trans_ext (trans_ext (drew_ext w8) hx9) hx10)
  have lB10_0 := B10_0.1
  have bB10_0 := B10_0.2.1
  have lB10_1 := B10_1.1
  have bB10_1 := B10_1.2.1
  clear lB8_0 bB8_0 lB8_1 bB8_1
  go_wp2_with fail
  refine (toRationalS_any s1 (r1.toExt (trans_ext (trans_ext (trans_ext (trans_ext (trans_ext (trans_ext (trans_ext (trans_ext (trans_ext (trans_ext (trans_ext (trans_ext (alloc_ext w (.cells #[.int .i64 d0.1, .slice A0 d0.2.1.length c0, .slice B0 d0.2.2.length e0] 25)) hx1) hx2) hx3) hx4) hx5) hx6) (alloc_ext w6 (.cells #[.int .i64 d0.1, .slice A6 d0.2.1.length c6, .slice B6 d0.2.2.length e6] 32))) hx7) hx8) (drew_ext w8)) hx9) hx10))).mono ?_
  rintro e w11 ⟨v11, F11, rfl, hx11, hS11, hF11⟩
  obtain ⟨A11, c11, rfl, _, _, r11⟩ := hS11.view sR_v
  have B11_0 : BoxAt w11 (w.heap.size) #[.int .i64 d0.1, .slice A0 d0.2.1.length c0, .slice B0 d0.2.2.length e0] := (B10_0.toExt hx11)
  have B11_1 : BoxAt w11 (w6.heap.size) #[.int .i64 d0.1, .slice A6 d0.2.1.length c6, .slice B6 d0.2.2.length e6] := (B10_1.toExt hx11)
  have lB11_0 := B11_0.1
  have bB11_0 := B11_0.2.1
  have lB11_1 := B11_1.1
  have bB11_1 := B11_1.2.1
  clear lB10_0 bB10_0 lB10_1 bB10_1
  go_wp2_with fail
  refine (eqRationalS_any (by omega) (r7.toExt (trans_ext (trans_ext (trans_ext (trans_ext hx8 (drew_ext w8)) hx9) hx10) hx11)) (by omega) r11).mono ?_
  rintro e w12 ⟨rfl, hx12⟩
  have B12_0 : BoxAt w12 (w.heap.size) #[.int .i64 d0.1, .slice A0 d0.2.1.length c0, .slice B0 d0.2.2.length e0] := (B11_0.toExt hx12)
  have B12_1 : BoxAt w12 (w6.heap.size) #[.int .i64 d0.1, .slice A6 d0.2.1.length c6, .slice B6 d0.2.2.length e6] := (B11_1.toExt hx12)
  have lB12_0 := B12_0.1
  have bB12_0 := B12_0.2.1
  have lB12_1 := B12_1.1
  have bB12_1 := B12_1.2.1
  clear lB11_0 bB11_0 lB11_1 bB11_1
  go_wp2
  go_ret
  exact ⟨rfl, (trans_ext (trans_ext (trans_ext (trans_ext (trans_ext (trans_ext (trans_ext (trans_ext (trans_ext (trans_ext (trans_ext (trans_ext (trans_ext (trans_ext (alloc_ext w (.cells #[.int .i64 d0.1, .slice A0 d0.2.1.length c0, .slice B0 d0.2.2.length e0] 25)) hx1) hx2) hx3) hx4) hx5) hx6) (alloc_ext w6 (.cells #[.int .i64 d0.1, .slice A6 d0.2.1.length c6, .slice B6 d0.2.2.length e6] 32))) hx7) hx8) (drew_ext w8)) hx9) hx10) hx11) hx12)⟩

theorem law_IsFractionalPacking (A0 : Option Addr) (c0 : Nat) (B0 : Option Addr) (e0 : Nat) (d0 : Qd) (A1 : Option Addr) (c1 : Nat) (x1 : List (Int × Int)) (w : World) (q0 : QQ d0) (r0 : vQ w [.int .i64 d0.1, .slice A0 d0.2.1.length c0, .slice B0 d0.2.2.length e0] d0) (l1 : x1.length ≤ 9223372036854775807) (r1 : RR w A1 x1) (hg : OneAt w) : Calls Tryd.prog 4 #[.agg #[.int .i64 d0.1, .slice A0 d0.2.1.length c0, .slice B0 d0.2.2.length e0], .slice A1 x1.length c1] w fun e w' => e = .returned (.bool true) ∧ ∃ y, w' = ext w y := by
  by_cases hz0 : 0 ≤ szQ (1048576) d0
  · have hy0 : szQ (1048576) d0 ≤ 1048576 := szQ_le hz0
    by_cases hz1 : 0 ≤ szL (szQ (1048576) d0) x1.length
    · have hy1 : szL (szQ (1048576) d0) x1.length ≤ 1048576 := Int.le_trans (szL_le hz1) hy0
      have b09 := szQ_small q0.1 hz0 (by omega)
      have q1 := szL_small hz1
      exact law_IsFractionalPacking_m _ _ _ _ _ _ _ _ w q0 r0 l1 r1 hg hz0 hy0 hz1 hy1 (b09) (by omega)
    · exact law_IsFractionalPacking_z1 _ _ _ _ _ _ _ _ w q0 r0 l1 hz0 hy0 (by omega)
  · exact law_IsFractionalPacking_z0 _ _ _ _ _ _ _ _ w q0 r0 (by omega)


theorem door_met_FnExactIsFractionalPacking (os : Os) (args : Array Value) : laidMetH Tryd.prog oneLaid ((World.doorLaid Tryd.prog 400 os).forCall (fun _ _ => 0) ⟨#[], args, []⟩).memory :=
  laidMetH_of_parts3 (fuel := 8) (laidMet_of_run' 8 (by kernel_rfl) (by kernel_rfl)) (by kernel_rfl) (by kernel_rfl)
set_option maxRecDepth 100000 in
theorem lifted_FnExactIsFractionalPacking (os : Os) (started : os.Started) (H : Type) (enc : TypeId × Value → H) :
    ReturnsInHanded {} Tryd.checked os 4 .any (fun w args => (Rows.fnExactIsFractionalPackingSpec.pre enc Tryd.prog Tryd.f4 [] false w args ∧ laidMetH Tryd.prog oneLaid w) ∧ sizedMet enc Tryd.prog Tryd.f4 (OpenSpec.ofChange Rows.fnExactIsFractionalPackingSpec) false w args) (Rows.fnExactIsFractionalPackingSpec.post enc Tryd.prog Tryd.f4 false true false false) := by
  refine returnsInHanded_of_change_and (C := Tryd.checked) (X := fun w _ => laidMetH Tryd.prog oneLaid w) (fun _ _ _ hh h => h.of_heap hh) Tryd.own started (by kernel_rfl) Tryd.func4
    (ChangeSpec.witness_shaped (enc := enc) (C := Tryd.checked) (os := os) (X := fun w _ => laidMetH Tryd.prog oneLaid w) false (World.doorLaid Tryd.prog 400 os) #[.agg #[.int .i64 0, .slice none 0 0, .slice none 0 0], .slice none 0 0] 8 rfl (World.shaped_of_RefB (by kernel_rfl) (by kernel_rfl)) (by kernel_rfl) (by kernel_rfl) (by kernel_rfl) (door_met_FnExactIsFractionalPacking os _)) ?_
  intro W base args ds gs before hval0 hW _ _ hL _
  have hval : ∀ (j : Nat) t v, Tryd.f4.params[j]? = some t → args[j]? = some v → Value.okWide Tryd.prog W .any base t v := hval0
  clear hval0
  obtain ⟨_, _, hA0, hV0, _, _, _⟩ := id hW
  have hA : DataW.TrodAll enc Tryd.prog W 0 (fun _ => true) true Tryd.f4.params.toList args.toList ds _ := hA0
  clear hA0
  have hone := one_laid hL
  rw [Tryd.params4] at hA hval
  obtain ⟨v0, v1, d0, d1, p0, p1, rfl, rfl, e9, h0, h1⟩ := trodAll_two hA
  obtain ⟨cs0, rfl, _⟩ := okWide_struct Tryd.underlying25 (hval 0 _ v0 rfl rfl)
  obtain ⟨d0, r0, qq0⟩ := openArg oQ h0
  obtain ⟨A0, c0, B0, e0, hc0⟩ := vQ_shape r0
  obtain rfl := agg3 hc0
  obtain ⟨x1, ⟨A1, c1, hc1, r1⟩, l1, _⟩ := openArg oRats h1
  obtain rfl := one1 hc1 (okWide_slice Tryd.underlying26 (hval 1 _ v1 rfl rfl))
  refine (law_IsFractionalPacking A0 c0 B0 e0 d0 A1 (x1.length + c1) x1 W qq0 r0 (le_maxLen l1) r1 (one_at hone)).mono fun e W' ⟨he, hw⟩ => ?_
  exact ⟨_, he, law_postV Tryd.laidOut hW rfl hone (fun _ => rfl) rfl Tryd.underlying4 (by kernel_rfl) hw⟩

theorem fnExactIsFractionalPacking_row : Rows.FnExactIsFractionalPackingSaid :=
  OpenClaim.holds_of_wide 4 Tryd.f4 rfl rfl rfl rfl rfl rfl rfl ⟨rfl, rfl, rfl, rfl, rfl⟩ rfl rfl rfl rfl rfl (by kernel_rfl) Tryd.func4 (by kernel_rfl)
    (of_decide_eq_true (by kernel_rfl)) (by unfold Func.isWrapper; rw [if_neg (of_decide_eq_false (by kernel_rfl))]; exact ⟨rfl, rfl⟩)
    (fun os started H enc _ => lifted_FnExactIsFractionalPacking os started H enc)
theorem fnExactIsFractionalPacking_holds : Rows.FnExactIsFractionalPackingCardSaid :=
  Claim7.holds_tied_plain_at .later [] [.data] true Rows.fnExactIsFractionalPackingCard.stood.harness Rows.fnExactIsFractionalPackingCard.stood.looks
    fnExactIsFractionalPacking_row (fun _ h => by cases h) (by kernel_rfl) (fun _ h => by cases h) fnExactIsFractionalPacking_row_tie rfl ⟨rfl, rfl⟩ (by kernel_rfl) rfl
    (fun f fn hf hfn => by
      obtain rfl : f = 4 := Option.some.inj ((show Tryd.prog.funcNamed Rows.fnExactIsFractionalPackingRow.func = some 4 by kernel_rfl).symm.trans hf) |>.symm
      obtain rfl : fn = Tryd.f4 := (Option.some.inj (Tryd.func4.symm.trans hfn)).symm
      have hall : Tryd.f4.params.toList.all (fun t => Tryd.prog.wantsStandIn t == false) = true := by kernel_rfl
      refine ⟨by kernel_rfl, fun j t ht => ?_⟩
      have hm : t ∈ Tryd.f4.params.toList := Array.mem_toList_iff.2 (Array.mem_of_getElem? ht)
      have := List.all_eq_true.1 hall t hm
      exact eq_of_beq this)
    (by kernel_rfl)

end Go.Proofs.YtgehnacmgofobaaDoor
