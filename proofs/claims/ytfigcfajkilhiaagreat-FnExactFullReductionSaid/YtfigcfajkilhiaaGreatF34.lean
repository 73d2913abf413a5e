/- Contracts of functions that the statement reaches. -/
import Derived.Test.YtfigcfajkilhiaaGreatF01
import Derived.Test.YtfigcfajkilhiaaGreatF02
import Derived.Test.YtfigcfajkilhiaaGreatF03
import Derived.Test.YtfigcfajkilhiaaGreatF04
import Derived.Test.YtfigcfajkilhiaaGreatF32
import Derived.Test.YtfigcfajkilhiaaGreatF33
namespace Go.Proofs.YtfigcfajkilhiaaGreat
open Go.ChangeShapes Go.WideShapes Go.ChangeAt Go.RowKit
set_option maxRecDepth 100000 in
set_option maxHeartbeats 4000000 in
theorem law_FullReduction_z0 (A0 : Option Addr) (c0 : Nat) (d0 : Dbd) (A1 : Option Addr) (c1 : Nat) (B1 : Option Addr) (e1 : Nat) (d1 : Qd) (A2 : Option Addr) (c2 : Nat) (x2 : List Int) (w : World) (q0 : QDb d0) (r0 : vDb w [.slice A0 d0.length c0] d0) (hz0 : szN szTb (1048576) d0 < 0) : Calls Tryz.prog 3 #[.agg #[.slice A0 d0.length c0], .agg #[.int .i64 d1.1, .slice A1 d1.2.1.length c1, .slice B1 d1.2.2.length e1], .agg #[.slice A2 x2.length c2]] w fun e w' => e = .returned (.bool true) ∧ ∃ y, w' = ext w y := by
  go_enter Tryz.func3, Tryz.ntmps3
  go_wp2_with fail
  refine (szDatabase_d q0 (VD.toExt r0 (trans_ext (trans_ext (alloc_ext w (.cells #[.slice A0 d0.length c0] 24)) (alloc_ext (w.alloc (.cells #[.slice A0 d0.length c0] 24)) (.cells #[.int .i64 d1.1, .slice A1 d1.2.1.length c1, .slice B1 d1.2.2.length e1] 28))) (alloc_ext ((w.alloc (.cells #[.slice A0 d0.length c0] 24)).alloc (.cells #[.int .i64 d1.1, .slice A1 d1.2.1.length c1, .slice B1 d1.2.2.length e1] 28)) (.cells #[.slice A2 x2.length c2] 30)))) (by omega) (by omega)).mono ?_
  rintro e w1 ⟨rfl, hx1⟩
  have B1_0 : BoxAt w1 (w.heap.size) #[.slice A0 d0.length c0] := by obtain ⟨y, e⟩ := hx1; rw [e]; refine ⟨?_, fun j => ?_, fun j => ?_⟩ <;> go_simp
  have B1_1 : BoxAt w1 (w.heap.size + 1) #[.int .i64 d1.1, .slice A1 d1.2.1.length c1, .slice B1 d1.2.2.length e1] := by obtain ⟨y, e⟩ := hx1; rw [e]; refine ⟨?_, fun j => ?_, fun j => ?_⟩ <;> go_simp
  have B1_2 : BoxAt w1 (w.heap.size + 1 + 1) #[.slice A2 x2.length c2] := by obtain ⟨y, e⟩ := hx1; rw [e]; refine ⟨?_, fun j => ?_, fun j => ?_⟩ <;> go_simp
  have lB1_0 := B1_0.1
  have bB1_0 := B1_0.2.1
  have lB1_1 := B1_1.1
  have bB1_1 := B1_1.2.1
  have lB1_2 := B1_2.1
  have bB1_2 := B1_2.2.1
  go_wp2_with fail
  go_ret
  exact ⟨rfl, (trans_ext (trans_ext (trans_ext (alloc_ext w (.cells #[.slice A0 d0.length c0] 24)) (alloc_ext (w.alloc (.cells #[.slice A0 d0.length c0] 24)) (.cells #[.int .i64 d1.1, .slice A1 d1.2.1.length c1, .slice B1 d1.2.2.length e1] 28))) (alloc_ext ((w.alloc (.cells #[.slice A0 d0.length c0] 24)).alloc (.cells #[.int .i64 d1.1, .slice A1 d1.2.1.length c1, .slice B1 d1.2.2.length e1] 28)) (.cells #[.slice A2 x2.length c2] 30))) hx1)⟩
set_option maxRecDepth 100000 in
set_option maxHeartbeats 4000000 in
theorem law_FullReduction_z1 (A0 : Option Addr) (c0 : Nat) (d0 : Dbd) (A1 : Option Addr) (c1 : Nat) (B1 : Option Addr) (e1 : Nat) (d1 : Qd) (A2 : Option Addr) (c2 : Nat) (x2 : List Int) (w : World) (q0 : QDb d0) (r0 : vDb w [.slice A0 d0.length c0] d0) (q1 : QQ d1) (r1 : vQ w [.int .i64 d1.1, .slice A1 d1.2.1.length c1, .slice B1 d1.2.2.length e1] d1) (hz0 : 0 ≤ szN szTb (1048576) d0) (hy0 : szN szTb (1048576) d0 ≤ 1048576) (hz1 : szQ (szN szTb (1048576) d0) d1 < 0) : Calls Tryz.prog 3 #[.agg #[.slice A0 d0.length c0], .agg #[.int .i64 d1.1, .slice A1 d1.2.1.length c1, .slice B1 d1.2.2.length e1], .agg #[.slice A2 x2.length c2]] w fun e w' => e = .returned (.bool true) ∧ ∃ y, w' = ext w y := by
  go_enter Tryz.func3, Tryz.ntmps3
  go_wp2_with fail
  refine (szDatabase_d q0 (VD.toExt r0 (trans_ext (trans_ext (alloc_ext w (.cells #[.slice A0 d0.length c0] 24)) (alloc_ext (w.alloc (.cells #[.slice A0 d0.length c0] 24)) (.cells #[.int .i64 d1.1, .slice A1 d1.2.1.length c1, .slice B1 d1.2.2.length e1] 28))) (alloc_ext ((w.alloc (.cells #[.slice A0 d0.length c0] 24)).alloc (.cells #[.int .i64 d1.1, .slice A1 d1.2.1.length c1, .slice B1 d1.2.2.length e1] 28)) (.cells #[.slice A2 x2.length c2] 30)))) (by omega) (by omega)).mono ?_
  rintro e w1 ⟨rfl, hx1⟩
  have B1_0 : BoxAt w1 (w.heap.size) #[.slice A0 d0.length c0] := by obtain ⟨y, e⟩ := hx1; rw [e]; refine ⟨?_, fun j => ?_, fun j => ?_⟩ <;> go_simp
  have B1_1 : BoxAt w1 (w.heap.size + 1) #[.int .i64 d1.1, .slice A1 d1.2.1.length c1, .slice B1 d1.2.2.length e1] := by obtain ⟨y, e⟩ := hx1; rw [e]; refine ⟨?_, fun j => ?_, fun j => ?_⟩ <;> go_simp
  have B1_2 : BoxAt w1 (w.heap.size + 1 + 1) #[.slice A2 x2.length c2] := by obtain ⟨y, e⟩ := hx1; rw [e]; refine ⟨?_, fun j => ?_, fun j => ?_⟩ <;> go_simp
  have lB1_0 := B1_0.1
  have bB1_0 := B1_0.2.1
  have lB1_1 := B1_1.1
  have bB1_1 := B1_1.2.1
  have lB1_2 := B1_2.1
  have bB1_2 := B1_2.2.1
  go_wp2_with fail
  refine (szQuery_d q1 (VD.toExt r1 (trans_ext (trans_ext (trans_ext (alloc_ext w (.cells #[.slice A0 d0.length c0] 24)) (alloc_ext (w.alloc (.cells #[.slice A0 d0.length c0] 24)) (.cells #[.int .i64 d1.1, .slice A1 d1.2.1.length c1, .slice B1 d1.2.2.length e1] 28))) (alloc_ext ((w.alloc (.cells #[.slice A0 d0.length c0] 24)).alloc (.cells #[.int .i64 d1.1, .slice A1 d1.2.1.length c1, .slice B1 d1.2.2.length e1] 28)) (.cells #[.slice A2 x2.length c2] 30))) hx1)) (by omega) (by omega)).mono ?_
  rintro e w2 ⟨rfl, hx2⟩
  have B2_0 : BoxAt w2 (w.heap.size) #[.slice A0 d0.length c0] := (B1_0.toExt hx2)
  have B2_1 : BoxAt w2 (w.heap.size + 1) #[.int .i64 d1.1, .slice A1 d1.2.1.length c1, .slice B1 d1.2.2.length e1] := (B1_1.toExt hx2)
  have B2_2 : BoxAt w2 (w.heap.size + 1 + 1) #[.slice A2 x2.length c2] := (B1_2.toExt hx2)
  have lB2_0 := B2_0.1
  have bB2_0 := B2_0.2.1
  have lB2_1 := B2_1.1
  have bB2_1 := B2_1.2.1
  have lB2_2 := B2_2.1
  have bB2_2 := B2_2.2.1
  clear lB1_0 bB1_0 lB1_1 bB1_1 lB1_2 bB1_2
  go_wp2_with fail
  go_ret
  exact ⟨rfl, (trans_ext (trans_ext (trans_ext (trans_ext (alloc_ext w (.cells #[.slice A0 d0.length c0] 24)) (alloc_ext (w.alloc (.cells #[.slice A0 d0.length c0] 24)) (.cells #[.int .i64 d1.1, .slice A1 d1.2.1.length c1, .slice B1 d1.2.2.length e1] 28))) (alloc_ext ((w.alloc (.cells #[.slice A0 d0.length c0] 24)).alloc (.cells #[.int .i64 d1.1, .slice A1 d1.2.1.length c1, .slice B1 d1.2.2.length e1] 28)) (.cells #[.slice A2 x2.length c2] 30))) hx1) hx2)⟩
set_option maxRecDepth 100000 in
set_option maxHeartbeats 4000000 in
theorem law_FullReduction_z2 (A0 : Option Addr) (c0 : Nat) (d0 : Dbd) (A1 : Option Addr) (c1 : Nat) (B1 : Option Addr) (e1 : Nat) (d1 : Qd) (A2 : Option Addr) (c2 : Nat) (x2 : List Int) (w : World) (q0 : QDb d0) (r0 : vDb w [.slice A0 d0.length c0] d0) (q1 : QQ d1) (r1 : vQ w [.int .i64 d1.1, .slice A1 d1.2.1.length c1, .slice B1 d1.2.2.length e1] d1) (l2 : x2.length ≤ 9223372036854775807) (hz0 : 0 ≤ szN szTb (1048576) d0) (hy0 : szN szTb (1048576) d0 ≤ 1048576) (hz1 : 0 ≤ szQ (szN szTb (1048576) d0) d1) (hy1 : szQ (szN szTb (1048576) d0) d1 ≤ 1048576) (hz2 : szL (szQ (szN szTb (1048576) d0) d1) x2.length < 0) : Calls Tryz.prog 3 #[.agg #[.slice A0 d0.length c0], .agg #[.int .i64 d1.1, .slice A1 d1.2.1.length c1, .slice B1 d1.2.2.length e1], .agg #[.slice A2 x2.length c2]] w fun e w' => e = .returned (.bool true) ∧ ∃ y, w' = ext w y := by
  go_enter Tryz.func3, Tryz.ntmps3
  go_wp2_with fail
  refine (szDatabase_d q0 (VD.toExt r0 (trans_ext (trans_ext (alloc_ext w (.cells #[.slice A0 d0.length c0] 24)) (alloc_ext (w.alloc (.cells #[.slice A0 d0.length c0] 24)) (.cells #[.int .i64 d1.1, .slice A1 d1.2.1.length c1, .slice B1 d1.2.2.length e1] 28))) (alloc_ext ((w.alloc (.cells #[.slice A0 d0.length c0] 24)).alloc (.cells #[.int .i64 d1.1, .slice A1 d1.2.1.length c1, .slice B1 d1.2.2.length e1] 28)) (.cells #[.slice A2 x2.length c2] 30)))) (by omega) (by omega)).mono ?_
  rintro e w1 ⟨rfl, hx1⟩
  have B1_0 : BoxAt w1 (w.heap.size) #[.slice A0 d0.length c0] := by obtain ⟨y, e⟩ := hx1; rw [e]; refine ⟨?_, fun j => ?_, fun j => ?_⟩ <;> go_simp
  have B1_1 : BoxAt w1 (w.heap.size + 1) #[.int .i64 d1.1, .slice A1 d1.2.1.length c1, .slice B1 d1.2.2.length e1] := by obtain ⟨y, e⟩ := hx1; rw [e]; refine ⟨?_, fun j => ?_, fun j => ?_⟩ <;> go_simp
  have B1_2 : BoxAt w1 (w.heap.size + 1 + 1) #[.slice A2 x2.length c2] := by obtain ⟨y, e⟩ := hx1; rw [e]; refine ⟨?_, fun j => ?_, fun j => ?_⟩ <;> go_simp
  have lB1_0 := B1_0.1
  have bB1_0 := B1_0.2.1
  have lB1_1 := B1_1.1
  have bB1_1 := B1_1.2.1
  have lB1_2 := B1_2.1
  have bB1_2 := B1_2.2.1
  go_wp2_with fail
  refine (szQuery_d q1 (VD.toExt r1 (trans_ext (trans_ext (trans_ext (alloc_ext w (.cells #[.slice A0 d0.length c0] 24)) (alloc_ext (w.alloc (.cells #[.slice A0 d0.length c0] 24)) (.cells #[.int .i64 d1.1, .slice A1 d1.2.1.length c1, .slice B1 d1.2.2.length e1] 28))) (alloc_ext ((w.alloc (.cells #[.slice A0 d0.length c0] 24)).alloc (.cells #[.int .i64 d1.1, .slice A1 d1.2.1.length c1, .slice B1 d1.2.2.length e1] 28)) (.cells #[.slice A2 x2.length c2] 30))) hx1)) (by omega) (by omega)).mono ?_
  rintro e w2 ⟨rfl, hx2⟩
  have B2_0 : BoxAt w2 (w.heap.size) #[.slice A0 d0.length c0] := (B1_0.toExt hx2)
  have B2_1 : BoxAt w2 (w.heap.size + 1) #[.int .i64 d1.1, .slice A1 d1.2.1.length c1, .slice B1 d1.2.2.length e1] := (B1_1.toExt hx2)
  have B2_2 : BoxAt w2 (w.heap.size + 1 + 1) #[.slice A2 x2.length c2] := (B1_2.toExt hx2)
  have lB2_0 := B2_0.1
  have bB2_0 := B2_0.2.1
  have lB2_1 := B2_1.1
  have bB2_1 := B2_1.2.1
  have lB2_2 := B2_2.1
  have bB2_2 := B2_2.2.1
  clear lB1_0 bB1_0 lB1_1 bB1_1 lB1_2 bB1_2
  go_wp2_with fail
  refine (szJoinForest_any l2 (by omega) (by omega)).mono ?_
  rintro e w3 ⟨rfl, hx3⟩
  have B3_0 : BoxAt w3 (w.heap.size) #[.slice A0 d0.length c0] := (B2_0.toExt hx3)
  have B3_1 : BoxAt w3 (w.heap.size + 1) #[.int .i64 d1.1, .slice A1 d1.2.1.length c1, .slice B1 d1.2.2.length e1] := (B2_1.toExt hx3)
  have B3_2 : BoxAt w3 (w.heap.size + 1 + 1) #[.slice A2 x2.length c2] := (B2_2.toExt hx3)
  have lB3_0 := B3_0.1
  have bB3_0 := B3_0.2.1
  have lB3_1 := B3_1.1
  have bB3_1 := B3_1.2.1
  have lB3_2 := B3_2.1
  have bB3_2 := B3_2.2.1
  clear lB2_0 bB2_0 lB2_1 bB2_1 lB2_2 bB2_2
  go_wp2_with fail
  go_ret
  exact ⟨rfl, (trans_ext (trans_ext (trans_ext (trans_ext (trans_ext (alloc_ext w (.cells #[.slice A0 d0.length c0] 24)) (alloc_ext (w.alloc (.cells #[.slice A0 d0.length c0] 24)) (.cells #[.int .i64 d1.1, .slice A1 d1.2.1.length c1, .slice B1 d1.2.2.length e1] 28))) (alloc_ext ((w.alloc (.cells #[.slice A0 d0.length c0] 24)).alloc (.cells #[.int .i64 d1.1, .slice A1 d1.2.1.length c1, .slice B1 d1.2.2.length e1] 28)) (.cells #[.slice A2 x2.length c2] 30))) hx1) hx2) hx3)⟩
set_option maxRecDepth 100000 in
set_option maxHeartbeats 4000000 in
theorem law_FullReduction_m (A0 : Option Addr) (c0 : Nat) (d0 : Dbd) (A1 : Option Addr) (c1 : Nat) (B1 : Option Addr) (e1 : Nat) (d1 : Qd) (A2 : Option Addr) (c2 : Nat) (x2 : List Int) (w : World) (q0 : QDb d0) (r0 : vDb w [.slice A0 d0.length c0] d0) (q1 : QQ d1) (r1 : vQ w [.int .i64 d1.1, .slice A1 d1.2.1.length c1, .slice B1 d1.2.2.length e1] d1) (l2 : x2.length ≤ 9223372036854775807) (r2 : RI w A2 x2) (hz0 : 0 ≤ szN szTb (1048576) d0) (hy0 : szN szTb (1048576) d0 ≤ 1048576) (hz1 : 0 ≤ szQ (szN szTb (1048576) d0) d1) (hy1 : szQ (szN szTb (1048576) d0) d1 ≤ 1048576) (hz2 : 0 ≤ szL (szQ (szN szTb (1048576) d0) d1) x2.length) (hy2 : szL (szQ (szN szTb (1048576) d0) d1) x2.length ≤ 1048576) (s0 : BDb d0) (s1 : BQ d1) (s2 : x2.length ≤ 1048576) : Calls Tryz.prog 3 #[.agg #[.slice A0 d0.length c0], .agg #[.int .i64 d1.1, .slice A1 d1.2.1.length c1, .slice B1 d1.2.2.length e1], .agg #[.slice A2 x2.length c2]] w fun e w' => e = .returned (.bool true) ∧ ∃ y, w' = ext w y := by
  have hb9 := full_bd d0 d1 x2
  go_enter Tryz.func3, Tryz.ntmps3
  go_wp2_with fail
  refine (szDatabase_d q0 (VD.toExt r0 (trans_ext (trans_ext (alloc_ext w (.cells #[.slice A0 d0.length c0] 24)) (alloc_ext (w.alloc (.cells #[.slice A0 d0.length c0] 24)) (.cells #[.int .i64 d1.1, .slice A1 d1.2.1.length c1, .slice B1 d1.2.2.length e1] 28))) (alloc_ext ((w.alloc (.cells #[.slice A0 d0.length c0] 24)).alloc (.cells #[.int .i64 d1.1, .slice A1 d1.2.1.length c1, .slice B1 d1.2.2.length e1] 28)) (.cells #[.slice A2 x2.length c2] 30)))) (by omega) (by omega)).mono ?_
  rintro e w1 ⟨rfl, hx1⟩
  have B1_0 : BoxAt w1 (w.heap.size) #[.slice A0 d0.length c0] := by obtain ⟨y, e⟩ := hx1; rw [e]; refine ⟨?_, fun j => ?_, fun j => ?_⟩ <;> go_simp
  have B1_1 : BoxAt w1 (w.heap.size + 1) #[.int .i64 d1.1, .slice A1 d1.2.1.length c1, .slice B1 d1.2.2.length e1] := by obtain ⟨y, e⟩ := hx1; rw [e]; refine ⟨?_, fun j => ?_, fun j => ?_⟩ <;> go_simp
  have B1_2 : BoxAt w1 (w.heap.size + 1 + 1) #[.slice A2 x2.length c2] := by obtain ⟨y, e⟩ := hx1; rw [e]; refine ⟨?_, fun j => ?_, fun j => ?_⟩ <;> go_simp
  have lB1_0 := B1_0.1
  have bB1_0 := B1_0.2.1
  have lB1_1 := B1_1.1
  have bB1_1 := B1_1.2.1
  have lB1_2 := B1_2.1
  have bB1_2 := B1_2.2.1
  go_wp2_with fail
  refine (szQuery_d q1 (VD.toExt r1 (trans_ext (trans_ext (trans_ext (alloc_ext w (.cells #[.slice A0 d0.length c0] 24)) (alloc_ext (w.alloc (.cells #[.slice A0 d0.length c0] 24)) (.cells #[.int .i64 d1.1, .slice A1 d1.2.1.length c1, .slice B1 d1.2.2.length e1] 28))) (alloc_ext ((w.alloc (.cells #[.slice A0 d0.length c0] 24)).alloc (.cells #[.int .i64 d1.1, .slice A1 d1.2.1.length c1, .slice B1 d1.2.2.length e1] 28)) (.cells #[.slice A2 x2.length c2] 30))) hx1)) (by omega) (by omega)).mono ?_
  rintro e w2 ⟨rfl, hx2⟩
  have B2_0 : BoxAt w2 (w.heap.size) #[.slice A0 d0.length c0] := (B1_0.toExt hx2)
  have B2_1 : BoxAt w2 (w.heap.size + 1) #[.int .i64 d1.1, .slice A1 d1.2.1.length c1, .slice B1 d1.2.2.length e1] := (B1_1.toExt hx2)
  have B2_2 : BoxAt w2 (w.heap.size + 1 + 1) #[.slice A2 x2.length c2] := (B1_2.toExt hx2)
  have lB2_0 := B2_0.1
  have bB2_0 := B2_0.2.1
  have lB2_1 := B2_1.1
  have bB2_1 := B2_1.2.1
  have lB2_2 := B2_2.1
  have bB2_2 := B2_2.2.1
  clear lB1_0 bB1_0 lB1_1 bB1_1 lB1_2 bB1_2
  go_wp2_with fail
  refine (szJoinForest_any l2 (by omega) (by omega)).mono ?_
  rintro e w3 ⟨rfl, hx3⟩
  have B3_0 : BoxAt w3 (w.heap.size) #[.slice A0 d0.length c0] := (B2_0.toExt hx3)
  have B3_1 : BoxAt w3 (w.heap.size + 1) #[.int .i64 d1.1, .slice A1 d1.2.1.length c1, .slice B1 d1.2.2.length e1] := (B2_1.toExt hx3)
  have B3_2 : BoxAt w3 (w.heap.size + 1 + 1) #[.slice A2 x2.length c2] := (B2_2.toExt hx3)
  have lB3_0 := B3_0.1
  have bB3_0 := B3_0.2.1
  have lB3_1 := B3_1.1
  have bB3_1 := B3_1.2.1
  have lB3_2 := B3_2.1
  have bB3_2 := B3_2.2.1
  clear lB2_0 bB2_0 lB2_1 bB2_1 lB2_2 bB2_2
  go_wp2_with fail
  go_region_held3 (fun w' => (∀ a : Addr, a.block < w3.heap.size → w'.cell? a = w3.cell? a) ∧ ∃ y, w' = ext w3 y) (first | exact heldE (drew_ext w3) | exact heldE (trans_ext (drew_ext w3) hx4) | exact heldE (trans_ext (trans_ext (drew_ext w3) hx4) hx5) | exact heldE (trans_ext (trans_ext (trans_ext (drew_ext w3) hx4) hx5) hx6) | exact heldE (trans_ext (trans_ext (trans_ext (trans_ext (drew_ext w3) hx4) hx5) hx6) hx7)) (first | (go_at_call_of 9 (A0); refine (toDatabase_d s0 (VD.toExt r0 (trans_ext (trans_ext (trans_ext (trans_ext (trans_ext (trans_ext (alloc_ext w (.cells #[.slice A0 d0.length c0] 24)) (alloc_ext (w.alloc (.cells #[.slice A0 d0.length c0] 24)) (.cells #[.int .i64 d1.1, .slice A1 d1.2.1.length c1, .slice B1 d1.2.2.length e1] 28))) (alloc_ext ((w.alloc (.cells #[.slice A0 d0.length c0] 24)).alloc (.cells #[.int .i64 d1.1, .slice A1 d1.2.1.length c1, .slice B1 d1.2.2.length e1] 28)) (.cells #[.slice A2 x2.length c2] 30))) hx1) hx2) hx3) (drew_ext w3)))).mono ?_; rintro e w4 ⟨v4, F4, rfl, hx4, hS4, hN4, hF4⟩; obtain ⟨A4, c4, rfl⟩ := sDb_form hS4) | (go_at_call_of 10 (A1); refine (toQuery_d s1 (VD.toExt r1 (trans_ext (trans_ext (trans_ext (trans_ext (trans_ext (trans_ext (trans_ext (alloc_ext w (.cells #[.slice A0 d0.length c0] 24)) (alloc_ext (w.alloc (.cells #[.slice A0 d0.length c0] 24)) (.cells #[.int .i64 d1.1, .slice A1 d1.2.1.length c1, .slice B1 d1.2.2.length e1] 28))) (alloc_ext ((w.alloc (.cells #[.slice A0 d0.length c0] 24)).alloc (.cells #[.int .i64 d1.1, .slice A1 d1.2.1.length c1, .slice B1 d1.2.2.length e1] 28)) (.cells #[.slice A2 x2.length c2] 30))) hx1) hx2) hx3) (drew_ext w3)) hx4))).mono ?_; rintro e w5 ⟨v5, u5, t5, F5, rfl, hx5, hS5, hN5, hF5⟩; obtain ⟨A5, c5, B5, e5, rfl, rfl, rfl⟩ := sQ_form hS5) | (go_at_call_of 11 (A2); refine (toJoinForest_any s2 (r2.toExt (trans_ext (trans_ext (trans_ext (trans_ext (trans_ext (trans_ext (trans_ext (trans_ext (alloc_ext w (.cells #[.slice A0 d0.length c0] 24)) (alloc_ext (w.alloc (.cells #[.slice A0 d0.length c0] 24)) (.cells #[.int .i64 d1.1, .slice A1 d1.2.1.length c1, .slice B1 d1.2.2.length e1] 28))) (alloc_ext ((w.alloc (.cells #[.slice A0 d0.length c0] 24)).alloc (.cells #[.int .i64 d1.1, .slice A1 d1.2.1.length c1, .slice B1 d1.2.2.length e1] 28)) (.cells #[.slice A2 x2.length c2] 30))) hx1) hx2) hx3) (drew_ext w3)) hx4) hx5))).mono ?_; rintro e w6 ⟨v6, F6, rfl, hx6, hS6, hF6⟩; obtain ⟨A6, c6, rfl, _, _, r6⟩ := hS6.view sI_v) | (go_at_call 8; refine (specFullReduction_any (BDb.w s0) (vDb_get (sDb_v _ _ _ (OD.toExt (OD.toExt hS4 hx5) hx6))).2.1 s1 (sQ_v _ _ _ (OD.toExt hS5 hx6)) (by omega) r6).mono ?_; rintro e w7 ⟨v7, F7, rfl, hx7, hS7, hN7, hF7⟩; have hS7 : sVRs w7 [v7] ((fullR d0 d1 x2).getD []) F7 := ⟨_, rfl, hS7⟩; obtain ⟨A7, c7, rfl⟩ := sVRs_form hS7))
  have B7_0 : BoxAt w7 (w.heap.size) #[.slice A0 d0.length c0] := B3_0.toExt (trans_ext (trans_ext (trans_ext (trans_ext (drew_ext w3) hx4) hx5) hx6) hx7)
  have B7_1 : BoxAt w7 (w.heap.size + 1) #[.int .i64 d1.1, .slice A1 d1.2.1.length c1, .slice B1 d1.2.2.length e1] := B3_1.toExt (trans_ext (trans_ext (trans_ext (trans_ext (drew_ext w3) hx4) hx5) hx6) hx7)
  have B7_2 : BoxAt w7 (w.heap.size + 1 + 1) #[.slice A2 x2.length c2] := B3_2.toExt (trans_ext (trans_ext (trans_ext (trans_ext (drew_ext w3) hx4) hx5) hx6) hx7)
  have lB7_0 := B7_0.1
  have bB7_0 := B7_0.2.1
  have lB7_1 := B7_1.1
  have bB7_1 := B7_1.2.1
  have lB7_2 := B7_2.1
  have bB7_2 := B7_2.2.1
  clear lB3_0 bB3_0 lB3_1 bB3_1 lB3_2 bB3_2
  go_wp2_with fail
  refine (toDatabase_d s0 (VD.toExt r0 (trans_ext (trans_ext (trans_ext (trans_ext (trans_ext (trans_ext (trans_ext (trans_ext (trans_ext (trans_ext (alloc_ext w (.cells #[.slice A0 d0.length c0] 24)) (alloc_ext (w.alloc (.cells #[.slice A0 d0.length c0] 24)) (.cells #[.int .i64 d1.1, .slice A1 d1.2.1.length c1, .slice B1 d1.2.2.length e1] 28))) (alloc_ext ((w.alloc (.cells #[.slice A0 d0.length c0] 24)).alloc (.cells #[.int .i64 d1.1, .slice A1 d1.2.1.length c1, .slice B1 d1.2.2.length e1] 28)) (.cells #[.slice A2 x2.length c2] 30))) hx1) hx2) hx3) (drew_ext w3)) hx4) hx5) hx6) hx7))).mono ?_
  rintro e w8 ⟨v8, F8, rfl, hx8, hS8, hN8, hF8⟩
  obtain ⟨A8, c8, rfl⟩ := sDb_form hS8
  have B8_0 : BoxAt w8 (w.heap.size) #[.slice A0 d0.length c0] := (B7_0.toExt hx8)
  have B8_1 : BoxAt w8 (w.heap.size + 1) #[.int .i64 d1.1, .slice A1 d1.2.1.length c1, .slice B1 d1.2.2.length e1] := (B7_1.toExt hx8)
  have B8_2 : BoxAt w8 (w.heap.size + 1 + 1) #[.slice A2 x2.length c2] := (B7_2.toExt hx8)
  have lB8_0 := B8_0.1
  have bB8_0 := B8_0.2.1
  have lB8_1 := B8_1.1
  have bB8_1 := B8_1.2.1
  have lB8_2 := B8_2.1
  have bB8_2 := B8_2.2.1
  clear lB7_0 bB7_0 lB7_1 bB7_1 lB7_2 bB7_2
  go_wp2_with fail
  refine (toQuery_d s1 (VD.toExt r1 (trans_ext (trans_ext (trans_ext (trans_ext (trans_ext (trans_ext (trans_ext (trans_ext (trans_ext (trans_ext (trans_ext (trans_ext (alloc_ext w (.cells #[.slice A0 d0.length c0] 24)) (alloc_ext (w.alloc (.cells #[.slice A0 d0.length c0] 24)) (.cells #[.int .i64 d1.1, .slice A1 d1.2.1.length c1, .slice B1 d1.2.2.length e1] 28))) (alloc_ext ((w.alloc (.cells #[.slice A0 d0.length c0] 24)).alloc (.cells #[.int .i64 d1.1, .slice A1 d1.2.1.length c1, .slice B1 d1.2.2.length e1] 28)) (.cells #[.slice A2 x2.length c2] 30))) hx1) hx2) hx3) (drew_ext w3)) hx4) hx5) hx6) hx7) hx8) (alloc_ext w8 (.cells #[.slice A8 d0.length c8] 39))))).mono ?_
  rintro e w9 ⟨v9, u9, t9, F9, rfl, hx9, hS9, hN9, hF9⟩
  obtain ⟨A9, c9, B9, e9, rfl, rfl, rfl⟩ := sQ_form hS9
  have B9_0 : BoxAt w9 (w.heap.size) #[.slice A0 d0.length c0] := ((B8_0.toExt (alloc_ext w8 (.cells #[.slice A8 d0.length c8] 39))).toExt hx9)
  have B9_1 : BoxAt w9 (w.heap.size + 1) #[.int .i64 d1.1, .slice A1 d1.2.1.length c1, .slice B1 d1.2.2.length e1] := ((B8_1.toExt (alloc_ext w8 (.cells #[.slice A8 d0.length c8] 39))).toExt hx9)
  have B9_2 : BoxAt w9 (w.heap.size + 1 + 1) #[.slice A2 x2.length c2] := ((B8_2.toExt (alloc_ext w8 (.cells #[.slice A8 d0.length c8] 39))).toExt hx9)
  have B9_3 : BoxAt w9 (w8.heap.size) #[.slice A8 d0.length c8] := ((BoxAt.new _ _ _).toExt hx9)
  have lB9_0 := B9_0.1
  have bB9_0 := B9_0.2.1
  have lB9_1 := B9_1.1
  have bB9_1 := B9_1.2.1
  have lB9_2 := B9_2.1
  have bB9_2 := B9_2.2.1
  have lB9_3 := B9_3.1
  have bB9_3 := B9_3.2.1
  clear lB8_0 bB8_0 lB8_1 bB8_1 lB8_2 bB8_2
  go_wp2_with fail
  refine (toJoinForest_any s2 (r2.toExt (trans_ext (trans_ext (trans_ext (trans_ext (trans_ext (trans_ext (trans_ext (trans_ext (trans_ext (trans_ext (trans_ext (trans_ext (trans_ext (trans_ext (alloc_ext w (.cells #[.slice A0 d0.length c0] 24)) (alloc_ext (w.alloc (.cells #[.slice A0 d0.length c0] 24)) (.cells #[.int .i64 d1.1, .slice A1 d1.2.1.length c1, .slice B1 d1.2.2.length e1] 28))) (alloc_ext ((w.alloc (.cells #[.slice A0 d0.length c0] 24)).alloc (.cells #[.int .i64 d1.1, .slice A1 d1.2.1.length c1, .slice B1 d1.2.2.length e1] 28)) (.cells #[.slice A2 x2.length c2] 30))) hx1) hx2) hx3) (drew_ext w3)) hx4) hx5) hx6) hx7) hx8) (alloc_ext w8 (.cells #[.slice A8 d0.length c8] 39))) hx9) (alloc_ext w9 (.cells #[.int .i64 d1.1, .slice A9 d1.2.1.length c9, .slice B9 d1.2.2.length e9] 43))))).mono ?_
  rintro e w10 ⟨v10, F10, rfl, hx10, hS10, hF10⟩
  obtain ⟨A10, c10, rfl, _, _, r10⟩ := hS10.view sI_v
  have B10_0 : BoxAt w10 (w.heap.size) #[.slice A0 d0.length c0] := ((B9_0.toExt (alloc_ext w9 (.cells #[.int .i64 d1.1, .slice A9 d1.2.1.length c9, .slice B9 d1.2.2.length e9] 43))).toExt hx10)
  have B10_1 : BoxAt w10 (w.heap.size + 1) #[.int .i64 d1.1, .slice A1 d1.2.1.length c1, .slice B1 d1.2.2.length e1] := ((B9_1.toExt (alloc_ext w9 (.cells #[.int .i64 d1.1, .slice A9 d1.2.1.length c9, .slice B9 d1.2.2.length e9] 43))).toExt hx10)
  have B10_2 : BoxAt w10 (w.heap.size + 1 + 1) #[.slice A2 x2.length c2] := ((B9_2.toExt (alloc_ext w9 (.cells #[.int .i64 d1.1, .slice A9 d1.2.1.length c9, .slice B9 d1.2.2.length e9] 43))).toExt hx10)
  have B10_3 : BoxAt w10 (w8.heap.size) #[.slice A8 d0.length c8] := ((B9_3.toExt (alloc_ext w9 (.cells #[.int .i64 d1.1, .slice A9 d1.2.1.length c9, .slice B9 d1.2.2.length e9] 43))).toExt hx10)
  have B10_4 : BoxAt w10 (w9.heap.size) #[.int .i64 d1.1, .slice A9 d1.2.1.length c9, .slice B9 d1.2.2.length e9] := ((BoxAt.new _ _ _).toExt hx10)
  have lB10_0 := B10_0.1
  have bB10_0 := B10_0.2.1
  have lB10_1 := B10_1.1
  have bB10_1 := B10_1.2.1
  have lB10_2 := B10_2.1
  have bB10_2 := B10_2.2.1
  have lB10_3 := B10_3.1
  have bB10_3 := B10_3.2.1
  have lB10_4 := B10_4.1
  have bB10_4 := B10_4.2.1
  clear lB9_0 bB9_0 lB9_1 bB9_1 lB9_2 bB9_2 lB9_3 bB9_3
  go_wp2_with fail
  refine (FullReduction_any (BDb.w s0) (vDb_get (sDb_v _ _ _ (OD.toExt (OD.toExt (OD.toExt (OD.toExt (OD.toExt hS8 (alloc_ext w8 (.cells #[.slice A8 d0.length c8] 39))) hx9) (alloc_ext w9 (.cells #[.int .i64 d1.1, .slice A9 d1.2.1.length c9, .slice B9 d1.2.2.length e9] 43))) hx10) (alloc_ext w10 (.cells #[.slice A10 x2.length c10] 45))))).2.1 s1 (sQ_v _ _ _ (OD.toExt (OD.toExt (OD.toExt hS9 (alloc_ext w9 (.cells #[.int .i64 d1.1, .slice A9 d1.2.1.length c9, .slice B9 d1.2.2.length e9] 43))) hx10) (alloc_ext w10 (.cells #[.slice A10 x2.length c10] 45)))) (by omega) (r10.toExt (alloc_ext w10 (.cells #[.slice A10 x2.length c10] 45)))).mono ?_
  rintro e w11 ⟨v11, F11, rfl, hx11, hS11, hN11, hF11⟩
  have hS11 : sVRs w11 [v11] ((fullR d0 d1 x2).getD []) F11 := ⟨_, rfl, hS11⟩
  obtain ⟨A11, c11, rfl⟩ := sVRs_form hS11
  have B11_0 : BoxAt w11 (w.heap.size) #[.slice A0 d0.length c0] := ((B10_0.toExt (alloc_ext w10 (.cells #[.slice A10 x2.length c10] 45))).toExt hx11)
  have B11_1 : BoxAt w11 (w.heap.size + 1) #[.int .i64 d1.1, .slice A1 d1.2.1.length c1, .slice B1 d1.2.2.length e1] := ((B10_1.toExt (alloc_ext w10 (.cells #[.slice A10 x2.length c10] 45))).toExt hx11)
  have B11_2 : BoxAt w11 (w.heap.size + 1 + 1) #[.slice A2 x2.length c2] := ((B10_2.toExt (alloc_ext w10 (.cells #[.slice A10 x2.length c10] 45))).toExt hx11)
  have B11_3 : BoxAt w11 (w8.heap.size) #[.slice A8 d0.length c8] := ((B10_3.toExt (alloc_ext w10 (.cells #[.slice A10 x2.length c10] 45))).toExt hx11)
  have B11_4 : BoxAt w11 (w9.heap.size) #[.int .i64 d1.1, .slice A9 d1.2.1.length c9, .slice B9 d1.2.2.length e9] := ((B10_4.toExt (alloc_ext w10 (.cells #[.slice A10 x2.length c10] 45))).toExt hx11)
  have B11_5 : BoxAt w11 (w10.heap.size) #[.slice A10 x2.length c10] := ((BoxAt.new _ _ _).toExt hx11)
  have lB11_0 := B11_0.1
  have bB11_0 := B11_0.2.1
  have lB11_1 := B11_1.1
  have bB11_1 := B11_1.2.1
  have lB11_2 := B11_2.1
  have bB11_2 := B11_2.2.1
  have lB11_3 := B11_3.1
  have bB11_3 := B11_3.2.1
  have lB11_4 := B11_4.1
  have bB11_4 := B11_4.2.1
  have lB11_5 := B11_5.1
  have bB11_5 := B11_5.2.1
  clear lB10_0 bB10_0 lB10_1 bB10_1 lB10_2 bB10_2 lB10_3 bB10_3 lB10_4 bB10_4
  go_wp2_with fail
  refine (eqVarRelationS_d hb9 (sVRs_v _ _ _ hS11) hb9 (sVRs_v _ _ _ (OD.toExt (OD.toExt (OD.toExt (OD.toExt (OD.toExt (OD.toExt (OD.toExt hS7 hx8) (alloc_ext w8 (.cells #[.slice A8 d0.length c8] 39))) hx9) (alloc_ext w9 (.cells #[.int .i64 d1.1, .slice A9 d1.2.1.length c9, .slice B9 d1.2.2.length e9] 43))) hx10) (alloc_ext w10 (.cells #[.slice A10 x2.length c10] 45))) hx11))).mono ?_
  rintro e w12 ⟨rfl, hx12⟩
  have B12_0 : BoxAt w12 (w.heap.size) #[.slice A0 d0.length c0] := (B11_0.toExt hx12)
  have B12_1 : BoxAt w12 (w.heap.size + 1) #[.int .i64 d1.1, .slice A1 d1.2.1.length c1, .slice B1 d1.2.2.length e1] := (B11_1.toExt hx12)
  have B12_2 : BoxAt w12 (w.heap.size + 1 + 1) #[.slice A2 x2.length c2] := (B11_2.toExt hx12)
  have B12_3 : BoxAt w12 (w8.heap.size) #[.slice A8 d0.length c8] := (B11_3.toExt hx12)
  have B12_4 : BoxAt w12 (w9.heap.size) #[.int .i64 d1.1, .slice A9 d1.2.1.length c9, .slice B9 d1.2.2.length e9] := (B11_4.toExt hx12)
  have B12_5 : BoxAt w12 (w10.heap.size) #[.slice A10 x2.length c10] := (B11_5.toExt hx12)
  have lB12_0 := B12_0.1
  have bB12_0 := B12_0.2.1
  have lB12_1 := B12_1.1
  have bB12_1 := B12_1.2.1
  have lB12_2 := B12_2.1
  have bB12_2 := B12_2.2.1
  have lB12_3 := B12_3.1
  have bB12_3 := B12_3.2.1
  have lB12_4 := B12_4.1
  have bB12_4 := B12_4.2.1
  have lB12_5 := B12_5.1
  have bB12_5 := B12_5.2.1
  clear lB11_0 bB11_0 lB11_1 bB11_1 lB11_2 bB11_2 lB11_3 bB11_3 lB11_4 bB11_4 lB11_5 bB11_5
  go_wp2_with fail
  go_region_held3 (fun w' => (∀ a : Addr, a.block < w12.heap.size → w'.cell? a = w12.cell? a) ∧ ∃ y, w' = ext w12 y) (first | exact heldE (drew_ext w12) | exact heldE (trans_ext (drew_ext w12) hx13) | exact heldE (trans_ext (trans_ext (drew_ext w12) hx13) hx14)) (first | (go_at_call_of 9 (A0); refine (toDatabase_d s0 (VD.toExt r0 (trans_ext (trans_ext (trans_ext (trans_ext (trans_ext (trans_ext (trans_ext (trans_ext (trans_ext (trans_ext (trans_ext (trans_ext (trans_ext (trans_ext (trans_ext (trans_ext (trans_ext (trans_ext (trans_ext (alloc_ext w (.cells #[.slice A0 d0.length c0] 24)) (alloc_ext (w.alloc (.cells #[.slice A0 d0.length c0] 24)) (.cells #[.int .i64 d1.1, .slice A1 d1.2.1.length c1, .slice B1 d1.2.2.length e1] 28))) (alloc_ext ((w.alloc (.cells #[.slice A0 d0.length c0] 24)).alloc (.cells #[.int .i64 d1.1, .slice A1 d1.2.1.length c1, .slice B1 d1.2.2.length e1] 28)) (.cells #[.slice A2 x2.length c2] 30))) hx1) hx2) hx3) (drew_ext w3)) hx4) hx5) hx6) hx7) hx8) (alloc_ext w8 (.cells #[.slice A8 d0.length c8] 39))) hx9) (alloc_ext w9 (.cells #[.int .i64 d1.1, .slice A9 d1.2.1.length c9, .slice B9 d1.2.2.length e9] 43))) hx10) (alloc_ext w10 (.cells #[.slice A10 x2.length c10] 45))) hx11) hx12) (drew_ext w12)))).mono ?_; rintro e w13 ⟨v13, F13, rfl, hx13, hS13, hN13, hF13⟩; obtain ⟨A13, c13, rfl⟩ := sDb_form hS13) | (go_at_call 14; refine (eqDatabase_d s0 (sDb_v _ _ _ (OD.toExt (OD.toExt (OD.toExt (OD.toExt (OD.toExt (OD.toExt (OD.toExt (OD.toExt (OD.toExt hS8 (alloc_ext w8 (.cells #[.slice A8 d0.length c8] 39))) hx9) (alloc_ext w9 (.cells #[.int .i64 d1.1, .slice A9 d1.2.1.length c9, .slice B9 d1.2.2.length e9] 43))) hx10) (alloc_ext w10 (.cells #[.slice A10 x2.length c10] 45))) hx11) hx12) (drew_ext w12)) hx13)) s0 (sDb_v _ _ _ hS13)).mono ?_; rintro e w14 ⟨rfl, hx14⟩))
  have B14_0 : BoxAt w14 (w.heap.size) #[.slice A0 d0.length c0] := B12_0.toExt (trans_ext (trans_ext (drew_ext w12) hx13) hx14)
  have B14_1 : BoxAt w14 (w.heap.size + 1) #[.int .i64 d1.1, .slice A1 d1.2.1.length c1, .slice B1 d1.2.2.length e1] := B12_1.toExt (trans_ext (trans_ext (drew_ext w12) hx13) hx14)
  have B14_2 : BoxAt w14 (w.heap.size + 1 + 1) #[.slice A2 x2.length c2] := B12_2.toExt (trans_ext (trans_ext (drew_ext w12) hx13) hx14)
  have B14_3 : BoxAt w14 (w8.heap.size) #[.slice A8 d0.length c8] := B12_3.toExt (trans_ext (trans_ext (drew_ext w12) hx13) hx14)
  have B14_4 : BoxAt w14 (w9.heap.size) #[.int .i64 d1.1, .slice A9 d1.2.1.length c9, .slice B9 d1.2.2.length e9] := B12_4.toExt (trans_ext (trans_ext (drew_ext w12) hx13) hx14)
  have B14_5 : BoxAt w14 (w10.heap.size) #[.slice A10 x2.length c10] := B12_5.toExt (trans_ext (trans_ext (drew_ext w12) hx13) hx14)
  have lB14_0 := B14_0.1
  have bB14_0 := B14_0.2.1
  have lB14_1 := B14_1.1
  have bB14_1 := B14_1.2.1
  have lB14_2 := B14_2.1
  have bB14_2 := B14_2.2.1
  have lB14_3 := B14_3.1
  have bB14_3 := B14_3.2.1
  have lB14_4 := B14_4.1
  have bB14_4 := B14_4.2.1
  have lB14_5 := B14_5.1
  have bB14_5 := B14_5.2.1
  clear lB12_0 bB12_0 lB12_1 bB12_1 lB12_2 bB12_2 lB12_3 bB12_3 lB12_4 bB12_4 lB12_5 bB12_5
  go_wp2_with fail
  go_region_held3 (fun w' => (∀ a : Addr, a.block < w14.heap.size → w'.cell? a = w14.cell? a) ∧ ∃ y, w' = ext w14 y) (first | exact heldE (drew_ext w14) | exact heldE (trans_ext (drew_ext w14) hx15) | exact heldE (trans_ext (trans_ext (drew_ext w14) hx15) hx16)) (first | (go_at_call_of 10 (A1); refine (toQuery_d s1 (VD.toExt r1 (trans_ext (trans_ext (trans_ext (trans_ext (trans_ext (trans_ext (trans_ext (trans_ext (trans_ext (trans_ext (trans_ext (trans_ext (trans_ext (trans_ext (trans_ext (trans_ext (trans_ext (trans_ext (trans_ext (trans_ext (trans_ext (trans_ext (alloc_ext w (.cells #[.slice A0 d0.length c0] 24)) (alloc_ext (w.alloc (.cells #[.slice A0 d0.length c0] 24)) (.cells #[.int .i64 d1.1, .slice A1 d1.2.1.length c1, .slice B1 d1.2.2.length e1] 28))) (alloc_ext ((w.alloc (.cells #[.slice A0 d0.length c0] 24)).alloc (.cells #[.int .i64 d1.1, .slice A1 d1.2.1.length c1, .slice B1 d1.2.2.length e1] 28)) (.cells #[.slice A2 x2.length c2] 30))) hx1) hx2) hx3) (drew_ext w3)) hx4) hx5) hx6) hx7) hx8) (alloc_ext w8 (.cells #[.slice A8 d0.length c8] 39))) hx9) (alloc_ext w9 (.cells #[.int .i64 d1.1, .slice A9 d1.2.1.length c9, .slice B9 d1.2.2.length e9] 43))) hx10) (alloc_ext w10 (.cells #[.slice A10 x2.length c10] 45))) hx11) hx12) (drew_ext w12)) hx13) hx14) (drew_ext w14)))).mono ?_; rintro e w15 ⟨v15, u15, t15, F15, rfl, hx15, hS15, hN15, hF15⟩; obtain ⟨A15, c15, B15, e15, rfl, rfl, rfl⟩ := sQ_form hS15) | (go_at_call 15; refine (eqQuery_d s1 (sQ_v _ _ _ (OD.toExt (OD.toExt (OD.toExt (OD.toExt (OD.toExt (OD.toExt (OD.toExt (OD.toExt (OD.toExt (OD.toExt hS9 (alloc_ext w9 (.cells #[.int .i64 d1.1, .slice A9 d1.2.1.length c9, .slice B9 d1.2.2.length e9] 43))) hx10) (alloc_ext w10 (.cells #[.slice A10 x2.length c10] 45))) hx11) hx12) (drew_ext w12)) hx13) hx14) (drew_ext w14)) hx15)) s1 (sQ_v _ _ _ hS15)).mono ?_; rintro e w16 ⟨rfl, hx16⟩))
  have B16_0 : BoxAt w16 (w.heap.size) #[.slice A0 d0.length c0] := B14_0.toExt (trans_ext (trans_ext (drew_ext w14) hx15) hx16)
  have B16_1 : BoxAt w16 (w.heap.size + 1) #[.int .i64 d1.1, .slice A1 d1.2.1.length c1, .slice B1 d1.2.2.length e1] := B14_1.toExt (trans_ext (trans_ext (drew_ext w14) hx15) hx16)
  have B16_2 : BoxAt w16 (w.heap.size + 1 + 1) #[.slice A2 x2.length c2] := B14_2.toExt (trans_ext (trans_ext (drew_ext w14) hx15) hx16)
  have B16_3 : BoxAt w16 (w8.heap.size) #[.slice A8 d0.length c8] := B14_3.toExt (trans_ext (trans_ext (drew_ext w14) hx15) hx16)
  have B16_4 : BoxAt w16 (w9.heap.size) #[.int .i64 d1.1, .slice A9 d1.2.1.length c9, .slice B9 d1.2.2.length e9] := B14_4.toExt (trans_ext (trans_ext (drew_ext w14) hx15) hx16)
  have B16_5 : BoxAt w16 (w10.heap.size) #[.slice A10 x2.length c10] := B14_5.toExt (trans_ext (trans_ext (drew_ext w14) hx15) hx16)
  have lB16_0 := B16_0.1
  have bB16_0 := B16_0.2.1
  have lB16_1 := B16_1.1
  have bB16_1 := B16_1.2.1
  have lB16_2 := B16_2.1
  have bB16_2 := B16_2.2.1
  have lB16_3 := B16_3.1
  have bB16_3 := B16_3.2.1
  have lB16_4 := B16_4.1
  have bB16_4 := B16_4.2.1
  have lB16_5 := B16_5.1
  have bB16_5 := B16_5.2.1
  clear lB14_0 bB14_0 lB14_1 bB14_1 lB14_2 bB14_2 lB14_3 bB14_3 lB14_4 bB14_4 lB14_5 bB14_5
  go_wp2_with fail
  go_region_held3 (fun w' => (∀ a : Addr, a.block < w16.heap.size → w'.cell? a = w16.cell? a) ∧ ∃ y, w' = ext w16 y) (first | exact heldE (drew_ext w16) | exact heldE (trans_ext (drew_ext w16) hx17) | exact heldE (trans_ext (trans_ext (drew_ext w16) hx17) hx18)) (first | (go_at_call_of 11 (A2); refine (toJoinForest_any s2 (r2.toExt (trans_ext (trans_ext (trans_ext (trans_ext (trans_ext (trans_ext (trans_ext (trans_ext (trans_ext (trans_ext (trans_ext (trans_ext (trans_ext (trans_ext (trans_ext (trans_ext (trans_ext (trans_ext (trans_ext (trans_ext (trans_ext (trans_ext (trans_ext (trans_ext (trans_ext (alloc_ext w (.cells #[.slice A0 d0.length c0] 24)) (alloc_ext (w.alloc (.cells #[.slice A0 d0.length c0] 24)) (.cells #[.int .i64 d1.1, .slice A1 d1.2.1.length c1, .slice B1 d1.2.2.length e1] 28))) (alloc_ext ((w.alloc (.cells #[.slice A0 d0.length c0] 24)).alloc (.cells #[.int .i64 d1.1, .slice A1 d1.2.1.length c1, .slice B1 d1.2.2.length e1] 28)) (.cells #[.slice A2 x2.length c2] 30))) hx1) hx2) hx3) (drew_ext w3)) hx4) hx5) hx6) hx7) hx8) (alloc_ext w8 (.cells #[.slice A8 d0.length c8] 39))) hx9) (alloc_ext w9 (.cells #[.int .i64 d1.1, .slice A9 d1.2.1.length c9, .slice B9 d1.2.2.length e9] 43))) hx10) (alloc_ext w10 (.cells #[.slice A10 x2.length c10] 45))) hx11) hx12) (drew_ext w12)) hx13) hx14) (drew_ext w14)) hx15) hx16) (drew_ext w16)))).mono ?_; rintro e w17 ⟨v17, F17, rfl, hx17, hS17, hF17⟩; obtain ⟨A17, c17, rfl, _, _, r17⟩ := hS17.view sI_v) | (go_at_call 16; refine (eqJoinForest_any (by omega) (r10.toExt (trans_ext (trans_ext (trans_ext (trans_ext (trans_ext (trans_ext (trans_ext (trans_ext (trans_ext (trans_ext (alloc_ext w10 (.cells #[.slice A10 x2.length c10] 45)) hx11) hx12) (drew_ext w12)) hx13) hx14) (drew_ext w14)) hx15) hx16) (drew_ext w16)) hx17)) (by omega) r17).mono ?_; rintro e w18 ⟨rfl, hx18⟩))
  have B18_0 : BoxAt w18 (w.heap.size) #[.slice A0 d0.length c0] := B16_0.toExt (trans_ext (trans_ext (drew_ext w16) hx17) hx18)
  have B18_1 : BoxAt w18 (w.heap.size + 1) #[.int .i64 d1.1, .slice A1 d1.2.1.length c1, .slice B1 d1.2.2.length e1] := B16_1.toExt (trans_ext (trans_ext (drew_ext w16) hx17) hx18)
  have B18_2 : BoxAt w18 (w.heap.size + 1 + 1) #[.slice A2 x2.length c2] := B16_2.toExt (trans_ext (trans_ext (drew_ext w16) hx17) hx18)
  have B18_3 : BoxAt w18 (w8.heap.size) #[.slice A8 d0.length c8] := B16_3.toExt (trans_ext (trans_ext (drew_ext w16) hx17) hx18)
  have B18_4 : BoxAt w18 (w9.heap.size) #[.int .i64 d1.1, .slice A9 d1.2.1.length c9, .slice B9 d1.2.2.length e9] := B16_4.toExt (trans_ext (trans_ext (drew_ext w16) hx17) hx18)
  have B18_5 : BoxAt w18 (w10.heap.size) #[.slice A10 x2.length c10] := B16_5.toExt (trans_ext (trans_ext (drew_ext w16) hx17) hx18)
  have lB18_0 := B18_0.1
  have bB18_0 := B18_0.2.1
  have lB18_1 := B18_1.1
  have bB18_1 := B18_1.2.1
  have lB18_2 := B18_2.1
  have bB18_2 := B18_2.2.1
  have lB18_3 := B18_3.1
  have bB18_3 := B18_3.2.1
  have lB18_4 := B18_4.1
  have bB18_4 := B18_4.2.1
  have lB18_5 := B18_5.1
  have bB18_5 := B18_5.2.1
  clear lB16_0 bB16_0 lB16_1 bB16_1 lB16_2 bB16_2 lB16_3 bB16_3 lB16_4 bB16_4 lB16_5 bB16_5
  go_wp2_with fail
  refine (markDatabase_d s0 (OD.toExt (OD.toExt (OD.toExt (OD.toExt (OD.toExt (OD.toExt (OD.toExt (OD.toExt (OD.toExt (OD.toExt (OD.toExt (OD.toExt (OD.toExt (OD.toExt (OD.toExt (OD.toExt hS8 (alloc_ext w8 (.cells #[.slice A8 d0.length c8] 39))) hx9) (alloc_ext w9 (.cells #[.int .i64 d1.1, .slice A9 d1.2.1.length c9, .slice B9 d1.2.2.length e9] 43))) hx10) (alloc_ext w10 (.cells #[.slice A10 x2.length c10] 45))) hx11) hx12) (drew_ext w12)) hx13) hx14) (drew_ext w14)) hx15) hx16) (drew_ext w16)) hx17) hx18) hN8 (by omega) (by omega)).mono ?_
  rintro e w19 ⟨kk19, rfl, HK19, kl19, ku19, hS19, hC19⟩
  have B19_0 : BoxAt w19 (w.heap.size) #[.slice A0 d0.length c0] := (B18_0.chg hC19 (fun hb => by have h1 := hF8 _ hb; have h2 := size_of_ext (trans_ext (trans_ext (trans_ext (trans_ext (trans_ext (trans_ext hx2 hx3) (drew_ext w3)) hx4) hx5) hx6) hx7); have h3 := B1_0.1; omega))
  have B19_1 : BoxAt w19 (w.heap.size + 1) #[.int .i64 d1.1, .slice A1 d1.2.1.length c1, .slice B1 d1.2.2.length e1] := (B18_1.chg hC19 (fun hb => by have h1 := hF8 _ hb; have h2 := size_of_ext (trans_ext (trans_ext (trans_ext (trans_ext (trans_ext (trans_ext hx2 hx3) (drew_ext w3)) hx4) hx5) hx6) hx7); have h3 := B1_1.1; omega))
  have B19_2 : BoxAt w19 (w.heap.size + 1 + 1) #[.slice A2 x2.length c2] := (B18_2.chg hC19 (fun hb => by have h1 := hF8 _ hb; have h2 := size_of_ext (trans_ext (trans_ext (trans_ext (trans_ext (trans_ext (trans_ext hx2 hx3) (drew_ext w3)) hx4) hx5) hx6) hx7); have h3 := B1_2.1; omega))
  have B19_3 : BoxAt w19 (w8.heap.size) #[.slice A8 d0.length c8] := (B18_3.chg hC19 (fun hb => by have h1 := (SMono.lt hS8) _ hb; have h2 := size_of_ext (refl_ext w8); omega))
  have B19_4 : BoxAt w19 (w9.heap.size) #[.int .i64 d1.1, .slice A9 d1.2.1.length c9, .slice B9 d1.2.2.length e9] := (B18_4.chg hC19 (fun hb => by have h1 := (SMono.lt hS8) _ hb; have h2 := size_of_ext (trans_ext (alloc_ext w8 (.cells #[.slice A8 d0.length c8] 39)) hx9); omega))
  have B19_5 : BoxAt w19 (w10.heap.size) #[.slice A10 x2.length c10] := (B18_5.chg hC19 (fun hb => by have h1 := (SMono.lt hS8) _ hb; have h2 := size_of_ext (trans_ext (trans_ext (trans_ext (alloc_ext w8 (.cells #[.slice A8 d0.length c8] 39)) hx9) (alloc_ext w9 (.cells #[.int .i64 d1.1, .slice A9 d1.2.1.length c9, .slice B9 d1.2.2.length e9] 43))) hx10); omega))
  have lB19_0 := B19_0.1
  have bB19_0 := B19_0.2.1
  have lB19_1 := B19_1.1
  have bB19_1 := B19_1.2.1
  have lB19_2 := B19_2.1
  have bB19_2 := B19_2.2.1
  have lB19_3 := B19_3.1
  have bB19_3 := B19_3.2.1
  have lB19_4 := B19_4.1
  have bB19_4 := B19_4.2.1
  have lB19_5 := B19_5.1
  have bB19_5 := B19_5.2.1
  clear lB18_0 bB18_0 lB18_1 bB18_1 lB18_2 bB18_2 lB18_3 bB18_3 lB18_4 bB18_4 lB18_5 bB18_5
  go_wp2_with fail
  refine (markQuery_d s1 (OD.chg (OD.toExt (OD.toExt (OD.toExt (OD.toExt (OD.toExt (OD.toExt (OD.toExt (OD.toExt (OD.toExt (OD.toExt (OD.toExt (OD.toExt (OD.toExt (OD.toExt hS9 (alloc_ext w9 (.cells #[.int .i64 d1.1, .slice A9 d1.2.1.length c9, .slice B9 d1.2.2.length e9] 43))) hx10) (alloc_ext w10 (.cells #[.slice A10 x2.length c10] 45))) hx11) hx12) (drew_ext w12)) hx13) hx14) (drew_ext w14)) hx15) hx16) (drew_ext w16)) hx17) hx18) hC19 (fun x ha hb => by have h1 := hF9 x ha; have h2 := (SMono.lt hS8) x hb; have h3 := size_of_ext (alloc_ext w8 (.cells #[.slice A8 d0.length c8] 39)); omega)) hN9 (by omega) (by omega)).mono ?_
  rintro e w20 ⟨kk20, rfl, HK20, kl20, ku20, hS20, hC20⟩
  have B20_0 : BoxAt w20 (w.heap.size) #[.slice A0 d0.length c0] := (B19_0.chg hC20 (fun hb => by have h1 := hF9 _ hb; have h2 := size_of_ext (trans_ext (trans_ext (trans_ext (trans_ext (trans_ext (trans_ext (trans_ext (trans_ext hx2 hx3) (drew_ext w3)) hx4) hx5) hx6) hx7) hx8) (alloc_ext w8 (.cells #[.slice A8 d0.length c8] 39))); have h3 := B1_0.1; omega))
  have B20_1 : BoxAt w20 (w.heap.size + 1) #[.int .i64 d1.1, .slice A1 d1.2.1.length c1, .slice B1 d1.2.2.length e1] := (B19_1.chg hC20 (fun hb => by have h1 := hF9 _ hb; have h2 := size_of_ext (trans_ext (trans_ext (trans_ext (trans_ext (trans_ext (trans_ext (trans_ext (trans_ext hx2 hx3) (drew_ext w3)) hx4) hx5) hx6) hx7) hx8) (alloc_ext w8 (.cells #[.slice A8 d0.length c8] 39))); have h3 := B1_1.1; omega))
  have B20_2 : BoxAt w20 (w.heap.size + 1 + 1) #[.slice A2 x2.length c2] := (B19_2.chg hC20 (fun hb => by have h1 := hF9 _ hb; have h2 := size_of_ext (trans_ext (trans_ext (trans_ext (trans_ext (trans_ext (trans_ext (trans_ext (trans_ext hx2 hx3) (drew_ext w3)) hx4) hx5) hx6) hx7) hx8) (alloc_ext w8 (.cells #[.slice A8 d0.length c8] 39))); have h3 := B1_2.1; omega))
  have B20_3 : BoxAt w20 (w8.heap.size) #[.slice A8 d0.length c8] := (B19_3.chg hC20 (fun hb => by have h1 := hF9 _ hb; have h2 := (BoxAt.new w8 #[.slice A8 d0.length c8] 39).1; omega))
  have B20_4 : BoxAt w20 (w9.heap.size) #[.int .i64 d1.1, .slice A9 d1.2.1.length c9, .slice B9 d1.2.2.length e9] := (B19_4.chg hC20 (fun hb => by have h1 := (SMono.lt hS9) _ hb; have h2 := size_of_ext (refl_ext w9); omega))
  have B20_5 : BoxAt w20 (w10.heap.size) #[.slice A10 x2.length c10] := (B19_5.chg hC20 (fun hb => by have h1 := (SMono.lt hS9) _ hb; have h2 := size_of_ext (trans_ext (alloc_ext w9 (.cells #[.int .i64 d1.1, .slice A9 d1.2.1.length c9, .slice B9 d1.2.2.length e9] 43)) hx10); omega))
  have lB20_0 := B20_0.1
  have bB20_0 := B20_0.2.1
  have lB20_1 := B20_1.1
  have bB20_1 := B20_1.2.1
  have lB20_2 := B20_2.1
  have bB20_2 := B20_2.2.1
  have lB20_3 := B20_3.1
  have bB20_3 := B20_3.2.1
  have lB20_4 := B20_4.1
  have bB20_4 := B20_4.2.1
  have lB20_5 := B20_5.1
  have bB20_5 := B20_5.2.1
  clear lB19_0 bB19_0 lB19_1 bB19_1 lB19_2 bB19_2 lB19_3 bB19_3 lB19_4 bB19_4 lB19_5 bB19_5
  go_wp2_with fail
  refine (markJoinForest_any (by omega) ((((((((((((((hS10.toExt (alloc_ext w10 (.cells #[.slice A10 x2.length c10] 45))).toExt hx11).toExt hx12).toExt (drew_ext w12)).toExt hx13).toExt hx14).toExt (drew_ext w14)).toExt hx15).toExt hx16).toExt (drew_ext w16)).toExt hx17).toExt hx18).chg hC19 (fun x ha hb => by have h1 := hF10 x ha; have h2 := (SMono.lt hS8) x hb; have h3 := size_of_ext (trans_ext (trans_ext (alloc_ext w8 (.cells #[.slice A8 d0.length c8] 39)) hx9) (alloc_ext w9 (.cells #[.int .i64 d1.1, .slice A9 d1.2.1.length c9, .slice B9 d1.2.2.length e9] 43))); omega)).chg hC20 (fun x ha hb => by have h1 := hF10 x ha; have h2 := (SMono.lt hS9) x hb; have h3 := size_of_ext (alloc_ext w9 (.cells #[.int .i64 d1.1, .slice A9 d1.2.1.length c9, .slice B9 d1.2.2.length e9] 43)); omega)) (by omega) (by omega)).mono ?_
  rintro e w21 ⟨rfl, hS21, hC21⟩
  have B21_0 : BoxAt w21 (w.heap.size) #[.slice A0 d0.length c0] := (B20_0.chg hC21 (fun hb => by have h1 := hF10 _ hb; have h2 := size_of_ext (trans_ext (trans_ext (trans_ext (trans_ext (trans_ext (trans_ext (trans_ext (trans_ext (trans_ext (trans_ext hx2 hx3) (drew_ext w3)) hx4) hx5) hx6) hx7) hx8) (alloc_ext w8 (.cells #[.slice A8 d0.length c8] 39))) hx9) (alloc_ext w9 (.cells #[.int .i64 d1.1, .slice A9 d1.2.1.length c9, .slice B9 d1.2.2.length e9] 43))); have h3 := B1_0.1; omega))
  have B21_1 : BoxAt w21 (w.heap.size + 1) #[.int .i64 d1.1, .slice A1 d1.2.1.length c1, .slice B1 d1.2.2.length e1] := (B20_1.chg hC21 (fun hb => by have h1 := hF10 _ hb; have h2 := size_of_ext (trans_ext (trans_ext (trans_ext (trans_ext (trans_ext (trans_ext (trans_ext (trans_ext (trans_ext (trans_ext hx2 hx3) (drew_ext w3)) hx4) hx5) hx6) hx7) hx8) (alloc_ext w8 (.cells #[.slice A8 d0.length c8] 39))) hx9) (alloc_ext w9 (.cells #[.int .i64 d1.1, .slice A9 d1.2.1.length c9, .slice B9 d1.2.2.length e9] 43))); have h3 := B1_1.1; omega))
  have B21_2 : BoxAt w21 (w.heap.size + 1 + 1) #[.slice A2 x2.length c2] := (B20_2.chg hC21 (fun hb => by have h1 := hF10 _ hb; have h2 := size_of_ext (trans_ext (trans_ext (trans_ext (trans_ext (trans_ext (trans_ext (trans_ext (trans_ext (trans_ext (trans_ext hx2 hx3) (drew_ext w3)) hx4) hx5) hx6) hx7) hx8) (alloc_ext w8 (.cells #[.slice A8 d0.length c8] 39))) hx9) (alloc_ext w9 (.cells #[.int .i64 d1.1, .slice A9 d1.2.1.length c9, .slice B9 d1.2.2.length e9] 43))); have h3 := B1_2.1; omega))
  have B21_3 : BoxAt w21 (w8.heap.size) #[.slice A8 d0.length c8] := (B20_3.chg hC21 (fun hb => by have h1 := hF10 _ hb; have h2 := size_of_ext (alloc_ext w9 (.cells #[.int .i64 d1.1, .slice A9 d1.2.1.length c9, .slice B9 d1.2.2.length e9] 43)); have h3 := B9_3.1; omega))
  have B21_4 : BoxAt w21 (w9.heap.size) #[.int .i64 d1.1, .slice A9 d1.2.1.length c9, .slice B9 d1.2.2.length e9] := (B20_4.chg hC21 (fun hb => by have h1 := hF10 _ hb; have h2 := (BoxAt.new w9 #[.int .i64 d1.1, .slice A9 d1.2.1.length c9, .slice B9 d1.2.2.length e9] 43).1; omega))
  have B21_5 : BoxAt w21 (w10.heap.size) #[.slice A10 x2.length c10] := (B20_5.chg hC21 (fun hb => by have h1 := hS10.lt _ hb; have h2 := size_of_ext (refl_ext w10); omega))
  have lB21_0 := B21_0.1
  have bB21_0 := B21_0.2.1
  have lB21_1 := B21_1.1
  have bB21_1 := B21_1.2.1
  have lB21_2 := B21_2.1
  have bB21_2 := B21_2.2.1
  have lB21_3 := B21_3.1
  have bB21_3 := B21_3.2.1
  have lB21_4 := B21_4.1
  have bB21_4 := B21_4.2.1
  have lB21_5 := B21_5.1
  have bB21_5 := B21_5.2.1
  clear lB20_0 bB20_0 lB20_1 bB20_1 lB20_2 bB20_2 lB20_3 bB20_3 lB20_4 bB20_4 lB20_5 bB20_5
  go_wp2_with fail
  refine (eqVarRelationS_d hb9 (sVRs_v _ _ _ (OD.chg (OD.chg (OD.chg (OD.toExt (OD.toExt (OD.toExt (OD.toExt (OD.toExt (OD.toExt (OD.toExt (OD.toExt (OD.toExt (OD.toExt hS11 hx12) (drew_ext w12)) hx13) hx14) (drew_ext w14)) hx15) hx16) (drew_ext w16)) hx17) hx18) hC19 (fun x ha hb => by have h1 := hF11 x ha; have h2 := (SMono.lt hS8) x hb; have h3 := size_of_ext (trans_ext (trans_ext (trans_ext (trans_ext (alloc_ext w8 (.cells #[.slice A8 d0.length c8] 39)) hx9) (alloc_ext w9 (.cells #[.int .i64 d1.1, .slice A9 d1.2.1.length c9, .slice B9 d1.2.2.length e9] 43))) hx10) (alloc_ext w10 (.cells #[.slice A10 x2.length c10] 45))); omega)) hC20 (fun x ha hb => by have h1 := hF11 x ha; have h2 := (SMono.lt hS9) x hb; have h3 := size_of_ext (trans_ext (trans_ext (alloc_ext w9 (.cells #[.int .i64 d1.1, .slice A9 d1.2.1.length c9, .slice B9 d1.2.2.length e9] 43)) hx10) (alloc_ext w10 (.cells #[.slice A10 x2.length c10] 45))); omega)) hC21 (fun x ha hb => by have h1 := hF11 x ha; have h2 := hS10.lt x hb; have h3 := size_of_ext (alloc_ext w10 (.cells #[.slice A10 x2.length c10] 45)); omega))) hb9 (sVRs_v _ _ _ (OD.chg (OD.chg (OD.chg (OD.toExt (OD.toExt (OD.toExt (OD.toExt (OD.toExt (OD.toExt (OD.toExt (OD.toExt (OD.toExt (OD.toExt (OD.toExt (OD.toExt (OD.toExt (OD.toExt (OD.toExt (OD.toExt (OD.toExt hS7 hx8) (alloc_ext w8 (.cells #[.slice A8 d0.length c8] 39))) hx9) (alloc_ext w9 (.cells #[.int .i64 d1.1, .slice A9 d1.2.1.length c9, .slice B9 d1.2.2.length e9] 43))) hx10) (alloc_ext w10 (.cells #[.slice A10 x2.length c10] 45))) hx11) hx12) (drew_ext w12)) hx13) hx14) (drew_ext w14)) hx15) hx16) (drew_ext w16)) hx17) hx18) hC19 (fun x ha hb => by have h1 := hF8 x hb; have h2 := (SMono.lt hS7) x ha; have h3 := size_of_ext (refl_ext w7); omega)) hC20 (fun x ha hb => by have h1 := hF9 x hb; have h2 := (SMono.lt hS7) x ha; have h3 := size_of_ext (trans_ext hx8 (alloc_ext w8 (.cells #[.slice A8 d0.length c8] 39))); omega)) hC21 (fun x ha hb => by have h1 := hF10 x hb; have h2 := (SMono.lt hS7) x ha; have h3 := size_of_ext (trans_ext (trans_ext (trans_ext hx8 (alloc_ext w8 (.cells #[.slice A8 d0.length c8] 39))) hx9) (alloc_ext w9 (.cells #[.int .i64 d1.1, .slice A9 d1.2.1.length c9, .slice B9 d1.2.2.length e9] 43))); omega)))).mono ?_
  rintro e w22 ⟨rfl, hx22⟩
  have B22_0 : BoxAt w22 (w.heap.size) #[.slice A0 d0.length c0] := (B21_0.toExt hx22)
  have B22_1 : BoxAt w22 (w.heap.size + 1) #[.int .i64 d1.1, .slice A1 d1.2.1.length c1, .slice B1 d1.2.2.length e1] := (B21_1.toExt hx22)
  have B22_2 : BoxAt w22 (w.heap.size + 1 + 1) #[.slice A2 x2.length c2] := (B21_2.toExt hx22)
  have B22_3 : BoxAt w22 (w8.heap.size) #[.slice A8 d0.length c8] := (B21_3.toExt hx22)
  have B22_4 : BoxAt w22 (w9.heap.size) #[.int .i64 d1.1, .slice A9 d1.2.1.length c9, .slice B9 d1.2.2.length e9] := (B21_4.toExt hx22)
  have B22_5 : BoxAt w22 (w10.heap.size) #[.slice A10 x2.length c10] := (B21_5.toExt hx22)
  have lB22_0 := B22_0.1
  have bB22_0 := B22_0.2.1
  have lB22_1 := B22_1.1
  have bB22_1 := B22_1.2.1
  have lB22_2 := B22_2.1
  have bB22_2 := B22_2.2.1
  have lB22_3 := B22_3.1
  have bB22_3 := B22_3.2.1
  have lB22_4 := B22_4.1
  have bB22_4 := B22_4.2.1
  have lB22_5 := B22_5.1
  have bB22_5 := B22_5.2.1
  clear lB21_0 bB21_0 lB21_1 bB21_1 lB21_2 bB21_2 lB21_3 bB21_3 lB21_4 bB21_4 lB21_5 bB21_5
  go_wp2_with fail
  refine (markVarRelationS_d hb9 (OD.toExt (OD.chg (OD.chg (OD.chg (OD.toExt (OD.toExt (OD.toExt (OD.toExt (OD.toExt (OD.toExt (OD.toExt (OD.toExt (OD.toExt (OD.toExt hS11 hx12) (drew_ext w12)) hx13) hx14) (drew_ext w14)) hx15) hx16) (drew_ext w16)) hx17) hx18) hC19 (fun x ha hb => by have h1 := hF11 x ha; have h2 := (SMono.lt hS8) x hb; have h3 := size_of_ext (trans_ext (trans_ext (trans_ext (trans_ext (alloc_ext w8 (.cells #[.slice A8 d0.length c8] 39)) hx9) (alloc_ext w9 (.cells #[.int .i64 d1.1, .slice A9 d1.2.1.length c9, .slice B9 d1.2.2.length e9] 43))) hx10) (alloc_ext w10 (.cells #[.slice A10 x2.length c10] 45))); omega)) hC20 (fun x ha hb => by have h1 := hF11 x ha; have h2 := (SMono.lt hS9) x hb; have h3 := size_of_ext (trans_ext (trans_ext (alloc_ext w9 (.cells #[.int .i64 d1.1, .slice A9 d1.2.1.length c9, .slice B9 d1.2.2.length e9] 43)) hx10) (alloc_ext w10 (.cells #[.slice A10 x2.length c10] 45))); omega)) hC21 (fun x ha hb => by have h1 := hF11 x ha; have h2 := hS10.lt x hb; have h3 := size_of_ext (alloc_ext w10 (.cells #[.slice A10 x2.length c10] 45)); omega)) hx22) hN11 (by omega) (by omega)).mono ?_
  rintro e w23 ⟨kk23, rfl, HK23, kl23, ku23, hS23, hC23⟩
  have B23_0 : BoxAt w23 (w.heap.size) #[.slice A0 d0.length c0] := (B22_0.chg hC23 (fun hb => by have h1 := hF11 _ hb; have h2 := size_of_ext (trans_ext (trans_ext (trans_ext (trans_ext (trans_ext (trans_ext (trans_ext (trans_ext (trans_ext (trans_ext (trans_ext (trans_ext hx2 hx3) (drew_ext w3)) hx4) hx5) hx6) hx7) hx8) (alloc_ext w8 (.cells #[.slice A8 d0.length c8] 39))) hx9) (alloc_ext w9 (.cells #[.int .i64 d1.1, .slice A9 d1.2.1.length c9, .slice B9 d1.2.2.length e9] 43))) hx10) (alloc_ext w10 (.cells #[.slice A10 x2.length c10] 45))); have h3 := B1_0.1; omega))
  have B23_1 : BoxAt w23 (w.heap.size + 1) #[.int .i64 d1.1, .slice A1 d1.2.1.length c1, .slice B1 d1.2.2.length e1] := (B22_1.chg hC23 (fun hb => by have h1 := hF11 _ hb; have h2 := size_of_ext (trans_ext (trans_ext (trans_ext (trans_ext (trans_ext (trans_ext (trans_ext (trans_ext (trans_ext (trans_ext (trans_ext (trans_ext hx2 hx3) (drew_ext w3)) hx4) hx5) hx6) hx7) hx8) (alloc_ext w8 (.cells #[.slice A8 d0.length c8] 39))) hx9) (alloc_ext w9 (.cells #[.int .i64 d1.1, .slice A9 d1.2.1.length c9, .slice B9 d1.2.2.length e9] 43))) hx10) (alloc_ext w10 (.cells #[.slice A10 x2.length c10] 45))); have h3 := B1_1.1; omega))
  have B23_2 : BoxAt w23 (w.heap.size + 1 + 1) #[.slice A2 x2.length c2] := (B22_2.chg hC23 (fun hb => by have h1 := hF11 _ hb; have h2 := size_of_ext (trans_ext (trans_ext (trans_ext (trans_ext (trans_ext (trans_ext (trans_ext (trans_ext (trans_ext (trans_ext (trans_ext (trans_ext hx2 hx3) (drew_ext w3)) hx4) hx5) hx6) hx7) hx8) (alloc_ext w8 (.cells #[.slice A8 d0.length c8] 39))) hx9) (alloc_ext w9 (.cells #[.int .i64 d1.1, .slice A9 d1.2.1.length c9, .slice B9 d1.2.2.length e9] 43))) hx10) (alloc_ext w10 (.cells #[.slice A10 x2.length c10] 45))); have h3 := B1_2.1; omega))
  have B23_3 : BoxAt w23 (w8.heap.size) #[.slice A8 d0.length c8] := (B22_3.chg hC23 (fun hb => by have h1 := hF11 _ hb; have h2 := size_of_ext (trans_ext (trans_ext (alloc_ext w9 (.cells #[.int .i64 d1.1, .slice A9 d1.2.1.length c9, .slice B9 d1.2.2.length e9] 43)) hx10) (alloc_ext w10 (.cells #[.slice A10 x2.length c10] 45))); have h3 := B9_3.1; omega))
  have B23_4 : BoxAt w23 (w9.heap.size) #[.int .i64 d1.1, .slice A9 d1.2.1.length c9, .slice B9 d1.2.2.length e9] := (B22_4.chg hC23 (fun hb => by have h1 := hF11 _ hb; have h2 := size_of_ext (alloc_ext w10 (.cells #[.slice A10 x2.length c10] 45)); have h3 := B10_4.1; omega))
  have B23_5 : BoxAt w23 (w10.heap.size) #[.slice A10 x2.length c10] := (B22_5.chg hC23 (fun hb => by have h1 := hF11 _ hb; have h2 := (BoxAt.new w10 #[.slice A10 x2.length c10] 45).1; omega))
  have lB23_0 := B23_0.1
  have bB23_0 := B23_0.2.1
  have lB23_1 := B23_1.1
  have bB23_1 := B23_1.2.1
  have lB23_2 := B23_2.1
  have bB23_2 := B23_2.2.1
  have lB23_3 := B23_3.1
  have bB23_3 := B23_3.2.1
  have lB23_4 := B23_4.1
  have bB23_4 := B23_4.2.1
  have lB23_5 := B23_5.1
  have bB23_5 := B23_5.2.1
  clear lB22_0 bB22_0 lB22_1 bB22_1 lB22_2 bB22_2 lB22_3 bB22_3 lB22_4 bB22_4 lB22_5 bB22_5
  go_wp2_with fail
  refine (heldVarRelationS_d hb9 HK23 (sVRs_v _ _ _ hS23) (by omega) (by omega)).mono ?_
  rintro e w24 ⟨rfl, hx24⟩
  have B24_0 : BoxAt w24 (w.heap.size) #[.slice A0 d0.length c0] := (B23_0.toExt hx24)
  have B24_1 : BoxAt w24 (w.heap.size + 1) #[.int .i64 d1.1, .slice A1 d1.2.1.length c1, .slice B1 d1.2.2.length e1] := (B23_1.toExt hx24)
  have B24_2 : BoxAt w24 (w.heap.size + 1 + 1) #[.slice A2 x2.length c2] := (B23_2.toExt hx24)
  have B24_3 : BoxAt w24 (w8.heap.size) #[.slice A8 d0.length c8] := (B23_3.toExt hx24)
  have B24_4 : BoxAt w24 (w9.heap.size) #[.int .i64 d1.1, .slice A9 d1.2.1.length c9, .slice B9 d1.2.2.length e9] := (B23_4.toExt hx24)
  have B24_5 : BoxAt w24 (w10.heap.size) #[.slice A10 x2.length c10] := (B23_5.toExt hx24)
  have lB24_0 := B24_0.1
  have bB24_0 := B24_0.2.1
  have lB24_1 := B24_1.1
  have bB24_1 := B24_1.2.1
  have lB24_2 := B24_2.1
  have bB24_2 := B24_2.2.1
  have lB24_3 := B24_3.1
  have bB24_3 := B24_3.2.1
  have lB24_4 := B24_4.1
  have bB24_4 := B24_4.2.1
  have lB24_5 := B24_5.1
  have bB24_5 := B24_5.2.1
  clear lB23_0 bB23_0 lB23_1 bB23_1 lB23_2 bB23_2 lB23_3 bB23_3 lB23_4 bB23_4 lB23_5 bB23_5
  go_wp2_with fail
  go_region_held3 (fun w' => (∀ a : Addr, a.block < w24.heap.size → w'.cell? a = w24.cell? a) ∧ ∃ y, w' = ext w24 y) (first | exact heldE (drew_ext w24) | exact heldE (trans_ext (drew_ext w24) hx25) | exact heldE (trans_ext (trans_ext (drew_ext w24) hx25) hx26) | exact heldE (trans_ext (trans_ext (trans_ext (drew_ext w24) hx25) hx26) hx27) | exact heldE (trans_ext (trans_ext (trans_ext (trans_ext (drew_ext w24) hx25) hx26) hx27) hx28)) (first | (go_at_call_of 9 (A0); refine (toDatabase_d s0 (VD.toExt r0 (trans_ext (trans_ext (hC23.isExt (trans_ext (hC21.isExt (hC20.isExt (hC19.isExt (trans_ext (trans_ext (trans_ext (trans_ext (trans_ext (trans_ext (trans_ext (trans_ext (trans_ext (trans_ext (trans_ext (trans_ext (trans_ext (trans_ext (trans_ext (trans_ext (trans_ext (trans_ext (trans_ext (trans_ext (trans_ext (trans_ext (trans_ext (trans_ext (trans_ext (trans_ext (trans_ext (alloc_ext w (.cells #[.slice A0 d0.length c0] 24)) (alloc_ext (w.alloc (.cells #[.slice A0 d0.length c0] 24)) (.cells #[.int .i64 d1.1, .slice A1 d1.2.1.length c1, .slice B1 d1.2.2.length e1] 28))) (alloc_ext ((w.alloc (.cells #[.slice A0 d0.length c0] 24)).alloc (.cells #[.int .i64 d1.1, .slice A1 d1.2.1.length c1, .slice B1 d1.2.2.length e1] 28)) (.cells #[.slice A2 x2.length c2] 30))) hx1) hx2) hx3) (drew_ext w3)) hx4) hx5) hx6) hx7) hx8) (alloc_ext w8 (.cells #[.slice A8 d0.length c8] 39))) hx9) (alloc_ext w9 (.cells #[.int .i64 d1.1, .slice A9 d1.2.1.length c9, .slice B9 d1.2.2.length e9] 43))) hx10) (alloc_ext w10 (.cells #[.slice A10 x2.length c10] 45))) hx11) hx12) (drew_ext w12)) hx13) hx14) (drew_ext w14)) hx15) hx16) (drew_ext w16)) hx17) hx18) (fun b hb => Nat.le_trans (size_of_ext (trans_ext (trans_ext (trans_ext (trans_ext (trans_ext (trans_ext (trans_ext (trans_ext (trans_ext (trans_ext (alloc_ext w (.cells #[.slice A0 d0.length c0] 24)) (alloc_ext (w.alloc (.cells #[.slice A0 d0.length c0] 24)) (.cells #[.int .i64 d1.1, .slice A1 d1.2.1.length c1, .slice B1 d1.2.2.length e1] 28))) (alloc_ext ((w.alloc (.cells #[.slice A0 d0.length c0] 24)).alloc (.cells #[.int .i64 d1.1, .slice A1 d1.2.1.length c1, .slice B1 d1.2.2.length e1] 28)) (.cells #[.slice A2 x2.length c2] 30))) hx1) hx2) hx3) (drew_ext w3)) hx4) hx5) hx6) hx7)) (hF8 b hb))) (fun b hb => Nat.le_trans (size_of_ext (trans_ext (trans_ext (trans_ext (trans_ext (trans_ext (trans_ext (trans_ext (trans_ext (trans_ext (trans_ext (trans_ext (trans_ext (alloc_ext w (.cells #[.slice A0 d0.length c0] 24)) (alloc_ext (w.alloc (.cells #[.slice A0 d0.length c0] 24)) (.cells #[.int .i64 d1.1, .slice A1 d1.2.1.length c1, .slice B1 d1.2.2.length e1] 28))) (alloc_ext ((w.alloc (.cells #[.slice A0 d0.length c0] 24)).alloc (.cells #[.int .i64 d1.1, .slice A1 d1.2.1.length c1, .slice B1 d1.2.2.length e1] 28)) (.cells #[.slice A2 x2.length c2] 30))) hx1) hx2) hx3) (drew_ext w3)) hx4) hx5) hx6) hx7) hx8) (alloc_ext w8 (.cells #[.slice A8 d0.length c8] 39)))) (hF9 b hb))) (fun b hb => Nat.le_trans (size_of_ext (trans_ext (trans_ext (trans_ext (trans_ext (trans_ext (trans_ext (trans_ext (trans_ext (trans_ext (trans_ext (trans_ext (trans_ext (trans_ext (trans_ext (alloc_ext w (.cells #[.slice A0 d0.length c0] 24)) (alloc_ext (w.alloc (.cells #[.slice A0 d0.length c0] 24)) (.cells #[.int .i64 d1.1, .slice A1 d1.2.1.length c1, .slice B1 d1.2.2.length e1] 28))) (alloc_ext ((w.alloc (.cells #[.slice A0 d0.length c0] 24)).alloc (.cells #[.int .i64 d1.1, .slice A1 d1.2.1.length c1, .slice B1 d1.2.2.length e1] 28)) (.cells #[.slice A2 x2.length c2] 30))) hx1) hx2) hx3) (drew_ext w3)) hx4) hx5) hx6) hx7) hx8) (alloc_ext w8 (.cells #[.slice A8 d0.length c8] 39))) hx9) (alloc_ext w9 (.cells #[.int .i64 d1.1, .slice A9 d1.2.1.length c9, .slice B9 d1.2.2.length e9] 43)))) (hF10 b hb))) hx22) (fun b hb => Nat.le_trans (size_of_ext (trans_ext (trans_ext (trans_ext (trans_ext (trans_ext (trans_ext (trans_ext (trans_ext (trans_ext (trans_ext (trans_ext (trans_ext (trans_ext (trans_ext (trans_ext (trans_ext (alloc_ext w (.cells #[.slice A0 d0.length c0] 24)) (alloc_ext (w.alloc (.cells #[.slice A0 d0.length c0] 24)) (.cells #[.int .i64 d1.1, .slice A1 d1.2.1.length c1, .slice B1 d1.2.2.length e1] 28))) (alloc_ext ((w.alloc (.cells #[.slice A0 d0.length c0] 24)).alloc (.cells #[.int .i64 d1.1, .slice A1 d1.2.1.length c1, .slice B1 d1.2.2.length e1] 28)) (.cells #[.slice A2 x2.length c2] 30))) hx1) hx2) hx3) (drew_ext w3)) hx4) hx5) hx6) hx7) hx8) (alloc_ext w8 (.cells #[.slice A8 d0.length c8] 39))) hx9) (alloc_ext w9 (.cells #[.int .i64 d1.1, .slice A9 d1.2.1.length c9, .slice B9 d1.2.2.length e9] 43))) hx10) (alloc_ext w10 (.cells #[.slice A10 x2.length c10] 45)))) (hF11 b hb))) hx24) (drew_ext w24)))).mono ?_; rintro e w25 ⟨v25, F25, rfl, hx25, hS25, hN25, hF25⟩; obtain ⟨A25, c25, rfl⟩ := sDb_form hS25) | (go_at_call_of 10 (A1); refine (toQuery_d s1 (VD.toExt r1 (trans_ext (trans_ext (trans_ext (hC23.isExt (trans_ext (hC21.isExt (hC20.isExt (hC19.isExt (trans_ext (trans_ext (trans_ext (trans_ext (trans_ext (trans_ext (trans_ext (trans_ext (trans_ext (trans_ext (trans_ext (trans_ext (trans_ext (trans_ext (trans_ext (trans_ext (trans_ext (trans_ext (trans_ext (trans_ext (trans_ext (trans_ext (trans_ext (trans_ext (trans_ext (trans_ext (trans_ext (alloc_ext w (.cells #[.slice A0 d0.length c0] 24)) (alloc_ext (w.alloc (.cells #[.slice A0 d0.length c0] 24)) (.cells #[.int .i64 d1.1, .slice A1 d1.2.1.length c1, .slice B1 d1.2.2.length e1] 28))) (alloc_ext ((w.alloc (.cells #[.slice A0 d0.length c0] 24)).alloc (.cells #[.int .i64 d1.1, .slice A1 d1.2.1.length c1, .slice B1 d1.2.2.length e1] 28)) (.cells #[.slice A2 x2.length c2] 30))) hx1) hx2) hx3) (drew_ext w3)) hx4) hx5) hx6) hx7) hx8) (alloc_ext w8 (.cells #[.slice A8 d0.length c8] 39))) hx9) (alloc_ext w9 (.cells #[.int .i64 d1.1, .slice A9 d1.2.1.length c9, .slice B9 d1.2.2.length e9] 43))) hx10) (alloc_ext w10 (.cells #[.slice A10 x2.length c10] 45))) hx11) hx12) (drew_ext w12)) hx13) hx14) (drew_ext w14)) hx15) hx16) (drew_ext w16)) hx17) hx18) (fun b hb => Nat.le_trans (size_of_ext (trans_ext (trans_ext (trans_ext (trans_ext (trans_ext (trans_ext (trans_ext (trans_ext (trans_ext (trans_ext (alloc_ext w (.cells #[.slice A0 d0.length c0] 24)) (alloc_ext (w.alloc (.cells #[.slice A0 d0.length c0] 24)) (.cells #[.int .i64 d1.1, .slice A1 d1.2.1.length c1, .slice B1 d1.2.2.length e1] 28))) (alloc_ext ((w.alloc (.cells #[.slice A0 d0.length c0] 24)).alloc (.cells #[.int .i64 d1.1, .slice A1 d1.2.1.length c1, .slice B1 d1.2.2.length e1] 28)) (.cells #[.slice A2 x2.length c2] 30))) hx1) hx2) hx3) (drew_ext w3)) hx4) hx5) hx6) hx7)) (hF8 b hb))) (fun b hb => Nat.le_trans (size_of_ext (trans_ext (trans_ext (trans_ext (trans_ext (trans_ext (trans_ext (trans_ext (trans_ext (trans_ext (trans_ext (trans_ext (trans_ext (alloc_ext w (.cells #[.slice A0 d0.length c0] 24)) (alloc_ext (w.alloc (.cells #[.slice A0 d0.length c0] 24)) (.cells #[.int .i64 d1.1, .slice A1 d1.2.1.length c1, .slice B1 d1.2.2.length e1] 28))) (alloc_ext ((w.alloc (.cells #[.slice A0 d0.length c0] 24)).alloc (.cells #[.int .i64 d1.1, .slice A1 d1.2.1.length c1, .slice B1 d1.2.2.length e1] 28)) (.cells #[.slice A2 x2.length c2] 30))) hx1) hx2) hx3) (drew_ext w3)) hx4) hx5) hx6) hx7) hx8) (alloc_ext w8 (.cells #[.slice A8 d0.length c8] 39)))) (hF9 b hb))) (fun b hb => Nat.le_trans (size_of_ext (trans_ext (trans_ext (trans_ext (trans_ext (trans_ext (trans_ext (trans_ext (trans_ext (trans_ext (trans_ext (trans_ext (trans_ext (trans_ext (trans_ext (alloc_ext w (.cells #[.slice A0 d0.length c0] 24)) (alloc_ext (w.alloc (.cells #[.slice A0 d0.length c0] 24)) (.cells #[.int .i64 d1.1, .slice A1 d1.2.1.length c1, .slice B1 d1.2.2.length e1] 28))) (alloc_ext ((w.alloc (.cells #[.slice A0 d0.length c0] 24)).alloc (.cells #[.int .i64 d1.1, .slice A1 d1.2.1.length c1, .slice B1 d1.2.2.length e1] 28)) (.cells #[.slice A2 x2.length c2] 30))) hx1) hx2) hx3) (drew_ext w3)) hx4) hx5) hx6) hx7) hx8) (alloc_ext w8 (.cells #[.slice A8 d0.length c8] 39))) hx9) (alloc_ext w9 (.cells #[.int .i64 d1.1, .slice A9 d1.2.1.length c9, .slice B9 d1.2.2.length e9] 43)))) (hF10 b hb))) hx22) (fun b hb => Nat.le_trans (size_of_ext (trans_ext (trans_ext (trans_ext (trans_ext (trans_ext (trans_ext (trans_ext (trans_ext (trans_ext (trans_ext (trans_ext (trans_ext (trans_ext (trans_ext (trans_ext (trans_ext (alloc_ext w (.cells #[.slice A0 d0.length c0] 24)) (alloc_ext (w.alloc (.cells #[.slice A0 d0.length c0] 24)) (.cells #[.int .i64 d1.1, .slice A1 d1.2.1.length c1, .slice B1 d1.2.2.length e1] 28))) (alloc_ext ((w.alloc (.cells #[.slice A0 d0.length c0] 24)).alloc (.cells #[.int .i64 d1.1, .slice A1 d1.2.1.length c1, .slice B1 d1.2.2.length e1] 28)) (.cells #[.slice A2 x2.length c2] 30))) hx1) hx2) hx3) (drew_ext w3)) hx4) hx5) hx6) hx7) hx8) (alloc_ext w8 (.cells #[.slice A8 d0.length c8] 39))) hx9) (alloc_ext w9 (.cells #[.int .i64 d1.1, .slice A9 d1.2.1.length c9, .slice B9 d1.2.2.length e9] 43))) hx10) (alloc_ext w10 (.cells #[.slice A10 x2.length c10] 45)))) (hF11 b hb))) hx24) (drew_ext w24)) hx25))).mono ?_; rintro e w26 ⟨v26, u26, t26, F26, rfl, hx26, hS26, hN26, hF26⟩; obtain ⟨A26, c26, B26, e26, rfl, rfl, rfl⟩ := sQ_form hS26) | (go_at_call_of 11 (A2); refine (toJoinForest_any s2 (r2.toExt (trans_ext (trans_ext (trans_ext (trans_ext (hC23.isExt (trans_ext (hC21.isExt (hC20.isExt (hC19.isExt (trans_ext (trans_ext (trans_ext (trans_ext (trans_ext (trans_ext (trans_ext (trans_ext (trans_ext (trans_ext (trans_ext (trans_ext (trans_ext (trans_ext (trans_ext (trans_ext (trans_ext (trans_ext (trans_ext (trans_ext (trans_ext (trans_ext (trans_ext (trans_ext (trans_ext (trans_ext (trans_ext (alloc_ext w (.cells #[.slice A0 d0.length c0] 24)) (alloc_ext (w.alloc (.cells #[.slice A0 d0.length c0] 24)) (.cells #[.int .i64 d1.1, .slice A1 d1.2.1.length c1, .slice B1 d1.2.2.length e1] 28))) (alloc_ext ((w.alloc (.cells #[.slice A0 d0.length c0] 24)).alloc (.cells #[.int .i64 d1.1, .slice A1 d1.2.1.length c1, .slice B1 d1.2.2.length e1] 28)) (.cells #[.slice A2 x2.length c2] 30))) hx1) hx2) hx3) (drew_ext w3)) hx4) hx5) hx6) hx7) hx8) (alloc_ext w8 (.cells #[.slice A8 d0.length c8] 39))) hx9) (alloc_ext w9 (.cells #[.int .i64 d1.1, .slice A9 d1.2.1.length c9, .slice B9 d1.2.2.length e9] 43))) hx10) (alloc_ext w10 (.cells #[.slice A10 x2.length c10] 45))) hx11) hx12) (drew_ext w12)) hx13) hx14) (drew_ext w14)) hx15) hx16) (drew_ext w16)) hx17) hx18) (fun b hb => Nat.le_trans (size_of_ext (trans_ext (trans_ext (trans_ext (trans_ext (trans_ext (trans_ext (trans_ext (trans_ext (trans_ext (trans_ext (alloc_ext w (.cells #[.slice A0 d0.length c0] 24)) (alloc_ext (w.alloc (.cells #[.slice A0 d0.length c0] 24)) (.cells #[.int .i64 d1.1, .slice A1 d1.2.1.length c1, .slice B1 d1.2.2.length e1] 28))) (alloc_ext ((w.alloc (.cells #[.slice A0 d0.length c0] 24)).alloc (.cells #[.int .i64 d1.1, .slice A1 d1.2.1.length c1, .slice B1 d1.2.2.length e1] 28)) (.cells #[.slice A2 x2.length c2] 30))) hx1) hx2) hx3) (drew_ext w3)) hx4) hx5) hx6) hx7)) (hF8 b hb))) (fun b hb => Nat.le_trans (size_of_ext (trans_ext (trans_ext (trans_ext (trans_ext (trans_ext (trans_ext (trans_ext (trans_ext (trans_ext (trans_ext (trans_ext (trans_ext (alloc_ext w (.cells #[.slice A0 d0.length c0] 24)) (alloc_ext (w.alloc (.cells #[.slice A0 d0.length c0] 24)) (.cells #[.int .i64 d1.1, .slice A1 d1.2.1.length c1, .slice B1 d1.2.2.length e1] 28))) (alloc_ext ((w.alloc (.cells #[.slice A0 d0.length c0] 24)).alloc (.cells #[.int .i64 d1.1, .slice A1 d1.2.1.length c1, .slice B1 d1.2.2.length e1] 28)) (.cells #[.slice A2 x2.length c2] 30))) hx1) hx2) hx3) (drew_ext w3)) hx4) hx5) hx6) hx7) hx8) (alloc_ext w8 (.cells #[.slice A8 d0.length c8] 39)))) (hF9 b hb))) (fun b hb => Nat.le_trans (size_of_ext (trans_ext (trans_ext (trans_ext (trans_ext (trans_ext (trans_ext (trans_ext (trans_ext (trans_ext (trans_ext (trans_ext (trans_ext (trans_ext (trans_ext (alloc_ext w (.cells #[.slice A0 d0.length c0] 24)) (alloc_ext (w.alloc (.cells #[.slice A0 d0.length c0] 24)) (.cells #[.int .i64 d1.1, .slice A1 d1.2.1.length c1, .slice B1 d1.2.2.length e1] 28))) (alloc_ext ((w.alloc (.cells #[.slice A0 d0.length c0] 24)).alloc (.cells #[.int .i64 d1.1, .slice A1 d1.2.1.length c1, .slice B1 d1.2.2.length e1] 28)) (.cells #[.slice A2 x2.length c2] 30))) hx1) hx2) hx3) (drew_ext w3)) hx4) hx5) hx6) hx7) hx8) (alloc_ext w8 (.cells #[.slice A8 d0.length c8] 39))) hx9) (alloc_ext w9 (.cells #[.int .i64 d1.1, .slice A9 d1.2.1.length c9, .slice B9 d1.2.2.length e9] 43)))) (hF10 b hb))) hx22) (fun b hb => Nat.le_trans (size_of_ext (trans_ext (trans_ext (trans_ext (trans_ext (trans_ext (trans_ext (trans_ext (trans_ext (trans_ext (trans_ext (trans_ext (trans_ext (trans_ext (trans_ext (trans_ext (trans_ext (alloc_ext w (.cells #[.slice A0 d0.length c0] 24)) (alloc_ext (w.alloc (.cells #[.slice A0 d0.length c0] 24)) (.cells #[.int .i64 d1.1, .slice A1 d1.2.1.length c1, .slice B1 d1.2.2.length e1] 28))) (alloc_ext ((w.alloc (.cells #[.slice A0 d0.length c0] 24)).alloc (.cells #[.int .i64 d1.1, .slice A1 d1.2.1.length c1, .slice B1 d1.2.2.length e1] 28)) (.cells #[.slice A2 x2.length c2] 30))) hx1) hx2) hx3) (drew_ext w3)) hx4) hx5) hx6) hx7) hx8) (alloc_ext w8 (.cells #[.slice A8 d0.length c8] 39))) hx9) (alloc_ext w9 (.cells #[.int .i64 d1.1, .slice A9 d1.2.1.length c9, .slice B9 d1.2.2.length e9] 43))) hx10) (alloc_ext w10 (.cells #[.slice A10 x2.length c10] 45)))) (hF11 b hb))) hx24) (drew_ext w24)) hx25) hx26))).mono ?_; rintro e w27 ⟨v27, F27, rfl, hx27, hS27, hF27⟩; obtain ⟨A27, c27, rfl, _, _, r27⟩ := hS27.view sI_v) | (go_at_call 12; refine (FullReduction_any (BDb.w s0) (vDb_get (sDb_v _ _ _ (OD.toExt (OD.toExt hS25 hx26) hx27))).2.1 s1 (sQ_v _ _ _ (OD.toExt hS26 hx27)) (by omega) r27).mono ?_; rintro e w28 ⟨v28, F28, rfl, hx28, hS28, hN28, hF28⟩; have hS28 : sVRs w28 [v28] ((fullR d0 d1 x2).getD []) F28 := ⟨_, rfl, hS28⟩; obtain ⟨A28, c28, rfl⟩ := sVRs_form hS28))
  have B28_0 : BoxAt w28 (w.heap.size) #[.slice A0 d0.length c0] := B24_0.toExt (trans_ext (trans_ext (trans_ext (trans_ext (drew_ext w24) hx25) hx26) hx27) hx28)
  have B28_1 : BoxAt w28 (w.heap.size + 1) #[.int .i64 d1.1, .slice A1 d1.2.1.length c1, .slice B1 d1.2.2.length e1] := B24_1.toExt (trans_ext (trans_ext (trans_ext (trans_ext (drew_ext w24) hx25) hx26) hx27) hx28)
  have B28_2 : BoxAt w28 (w.heap.size + 1 + 1) #[.slice A2 x2.length c2] := B24_2.toExt (trans_ext (trans_ext (trans_ext (trans_ext (drew_ext w24) hx25) hx26) hx27) hx28)
  have B28_3 : BoxAt w28 (w8.heap.size) #[.slice A8 d0.length c8] := B24_3.toExt (trans_ext (trans_ext (trans_ext (trans_ext (drew_ext w24) hx25) hx26) hx27) hx28)
  have B28_4 : BoxAt w28 (w9.heap.size) #[.int .i64 d1.1, .slice A9 d1.2.1.length c9, .slice B9 d1.2.2.length e9] := B24_4.toExt (trans_ext (trans_ext (trans_ext (trans_ext (drew_ext w24) hx25) hx26) hx27) hx28)
  have B28_5 : BoxAt w28 (w10.heap.size) #[.slice A10 x2.length c10] := B24_5.toExt (trans_ext (trans_ext (trans_ext (trans_ext (drew_ext w24) hx25) hx26) hx27) hx28)
  have lB28_0 := B28_0.1
  have bB28_0 := B28_0.2.1
  have lB28_1 := B28_1.1
  have bB28_1 := B28_1.2.1
  have lB28_2 := B28_2.1
  have bB28_2 := B28_2.2.1
  have lB28_3 := B28_3.1
  have bB28_3 := B28_3.2.1
  have lB28_4 := B28_4.1
  have bB28_4 := B28_4.2.1
  have lB28_5 := B28_5.1
  have bB28_5 := B28_5.2.1
  clear lB24_0 bB24_0 lB24_1 bB24_1 lB24_2 bB24_2 lB24_3 bB24_3 lB24_4 bB24_4 lB24_5 bB24_5
  go_wp2_with fail
  refine (eqVarRelationS_d hb9 (sVRs_v _ _ _ hS28) hb9 (sVRs_v _ _ _ (OD.toExt (OD.toExt (OD.toExt (OD.toExt (OD.toExt (OD.toExt (OD.chg (OD.toExt (OD.chg (OD.chg (OD.chg (OD.toExt (OD.toExt (OD.toExt (OD.toExt (OD.toExt (OD.toExt (OD.toExt (OD.toExt (OD.toExt (OD.toExt (OD.toExt (OD.toExt (OD.toExt (OD.toExt (OD.toExt (OD.toExt (OD.toExt hS7 hx8) (alloc_ext w8 (.cells #[.slice A8 d0.length c8] 39))) hx9) (alloc_ext w9 (.cells #[.int .i64 d1.1, .slice A9 d1.2.1.length c9, .slice B9 d1.2.2.length e9] 43))) hx10) (alloc_ext w10 (.cells #[.slice A10 x2.length c10] 45))) hx11) hx12) (drew_ext w12)) hx13) hx14) (drew_ext w14)) hx15) hx16) (drew_ext w16)) hx17) hx18) hC19 (fun x ha hb => by have h1 := hF8 x hb; have h2 := (SMono.lt hS7) x ha; have h3 := size_of_ext (refl_ext w7); omega)) hC20 (fun x ha hb => by have h1 := hF9 x hb; have h2 := (SMono.lt hS7) x ha; have h3 := size_of_ext (trans_ext hx8 (alloc_ext w8 (.cells #[.slice A8 d0.length c8] 39))); omega)) hC21 (fun x ha hb => by have h1 := hF10 x hb; have h2 := (SMono.lt hS7) x ha; have h3 := size_of_ext (trans_ext (trans_ext (trans_ext hx8 (alloc_ext w8 (.cells #[.slice A8 d0.length c8] 39))) hx9) (alloc_ext w9 (.cells #[.int .i64 d1.1, .slice A9 d1.2.1.length c9, .slice B9 d1.2.2.length e9] 43))); omega)) hx22) hC23 (fun x ha hb => by have h1 := hF11 x hb; have h2 := (SMono.lt hS7) x ha; have h3 := size_of_ext (trans_ext (trans_ext (trans_ext (trans_ext (trans_ext hx8 (alloc_ext w8 (.cells #[.slice A8 d0.length c8] 39))) hx9) (alloc_ext w9 (.cells #[.int .i64 d1.1, .slice A9 d1.2.1.length c9, .slice B9 d1.2.2.length e9] 43))) hx10) (alloc_ext w10 (.cells #[.slice A10 x2.length c10] 45))); omega)) hx24) (drew_ext w24)) hx25) hx26) hx27) hx28))).mono ?_
  rintro e w29 ⟨rfl, hx29⟩
  have B29_0 : BoxAt w29 (w.heap.size) #[.slice A0 d0.length c0] := (B28_0.toExt hx29)
  have B29_1 : BoxAt w29 (w.heap.size + 1) #[.int .i64 d1.1, .slice A1 d1.2.1.length c1, .slice B1 d1.2.2.length e1] := (B28_1.toExt hx29)
  have B29_2 : BoxAt w29 (w.heap.size + 1 + 1) #[.slice A2 x2.length c2] := (B28_2.toExt hx29)
  have B29_3 : BoxAt w29 (w8.heap.size) #[.slice A8 d0.length c8] := (B28_3.toExt hx29)
  have B29_4 : BoxAt w29 (w9.heap.size) #[.int .i64 d1.1, .slice A9 d1.2.1.length c9, .slice B9 d1.2.2.length e9] := (B28_4.toExt hx29)
  have B29_5 : BoxAt w29 (w10.heap.size) #[.slice A10 x2.length c10] := (B28_5.toExt hx29)
  have lB29_0 := B29_0.1
  have bB29_0 := B29_0.2.1
  have lB29_1 := B29_1.1
  have bB29_1 := B29_1.2.1
  have lB29_2 := B29_2.1
  have bB29_2 := B29_2.2.1
  have lB29_3 := B29_3.1
  have bB29_3 := B29_3.2.1
  have lB29_4 := B29_4.1
  have bB29_4 := B29_4.2.1
  have lB29_5 := B29_5.1
  have bB29_5 := B29_5.2.1
  clear lB28_0 bB28_0 lB28_1 bB28_1 lB28_2 bB28_2 lB28_3 bB28_3 lB28_4 bB28_4 lB28_5 bB28_5
  go_wp2_with fail
  refine (heldVarRelationS_d hb9 HK23 (sVRs_v _ _ _ (OD.toExt (OD.toExt (OD.toExt (OD.toExt (OD.toExt (OD.toExt (OD.toExt hS23 hx24) (drew_ext w24)) hx25) hx26) hx27) hx28) hx29)) (by omega) (by omega)).mono ?_
  rintro e w30 ⟨rfl, hx30⟩
  have B30_0 : BoxAt w30 (w.heap.size) #[.slice A0 d0.length c0] := (B29_0.toExt hx30)
  have B30_1 : BoxAt w30 (w.heap.size + 1) #[.int .i64 d1.1, .slice A1 d1.2.1.length c1, .slice B1 d1.2.2.length e1] := (B29_1.toExt hx30)
  have B30_2 : BoxAt w30 (w.heap.size + 1 + 1) #[.slice A2 x2.length c2] := (B29_2.toExt hx30)
  have B30_3 : BoxAt w30 (w8.heap.size) #[.slice A8 d0.length c8] := (B29_3.toExt hx30)
  have B30_4 : BoxAt w30 (w9.heap.size) #[.int .i64 d1.1, .slice A9 d1.2.1.length c9, .slice B9 d1.2.2.length e9] := (B29_4.toExt hx30)
  have B30_5 : BoxAt w30 (w10.heap.size) #[.slice A10 x2.length c10] := (B29_5.toExt hx30)
  have lB30_0 := B30_0.1
  have bB30_0 := B30_0.2.1
  have lB30_1 := B30_1.1
  have bB30_1 := B30_1.2.1
  have lB30_2 := B30_2.1
  have bB30_2 := B30_2.2.1
  have lB30_3 := B30_3.1
  have bB30_3 := B30_3.2.1
  have lB30_4 := B30_4.1
  have bB30_4 := B30_4.2.1
  have lB30_5 := B30_5.1
  have bB30_5 := B30_5.2.1
  clear lB29_0 bB29_0 lB29_1 bB29_1 lB29_2 bB29_2 lB29_3 bB29_3 lB29_4 bB29_4 lB29_5 bB29_5
  go_wp2
  go_ret
  exact ⟨rfl, (trans_ext (trans_ext (trans_ext (trans_ext (trans_ext (trans_ext (trans_ext (trans_ext (hC23.isExt (trans_ext (hC21.isExt (hC20.isExt (hC19.isExt (trans_ext (trans_ext (trans_ext (trans_ext (trans_ext (trans_ext (trans_ext (trans_ext (trans_ext (trans_ext (trans_ext (trans_ext (trans_ext (trans_ext (trans_ext (trans_ext (trans_ext (trans_ext (trans_ext (trans_ext (trans_ext (trans_ext (trans_ext (trans_ext (trans_ext (trans_ext (trans_ext (alloc_ext w (.cells #[.slice A0 d0.length c0] 24)) (alloc_ext (w.alloc (.cells #[.slice A0 d0.length c0] 24)) (.cells #[.int .i64 d1.1, .slice A1 d1.2.1.length c1, .slice B1 d1.2.2.length e1] 28))) (alloc_ext ((w.alloc (.cells #[.slice A0 d0.length c0] 24)).alloc (.cells #[.int .i64 d1.1, .slice A1 d1.2.1.length c1, .slice B1 d1.2.2.length e1] 28)) (.cells #[.slice A2 x2.length c2] 30))) hx1) hx2) hx3) (drew_ext w3)) hx4) hx5) hx6) hx7) hx8) (alloc_ext w8 (.cells #[.slice A8 d0.length c8] 39))) hx9) (alloc_ext w9 (.cells #[.int .i64 d1.1, .slice A9 d1.2.1.length c9, .slice B9 d1.2.2.length e9] 43))) hx10) (alloc_ext w10 (.cells #[.slice A10 x2.length c10] 45))) hx11) hx12) (drew_ext w12)) hx13) hx14) (drew_ext w14)) hx15) hx16) (drew_ext w16)) hx17) hx18) (fun b hb => Nat.le_trans (size_of_ext (trans_ext (trans_ext (trans_ext (trans_ext (trans_ext (trans_ext (trans_ext (trans_ext (trans_ext (trans_ext (alloc_ext w (.cells #[.slice A0 d0.length c0] 24)) (alloc_ext (w.alloc (.cells #[.slice A0 d0.length c0] 24)) (.cells #[.int .i64 d1.1, .slice A1 d1.2.1.length c1, .slice B1 d1.2.2.length e1] 28))) (alloc_ext ((w.alloc (.cells #[.slice A0 d0.length c0] 24)).alloc (.cells #[.int .i64 d1.1, .slice A1 d1.2.1.length c1, .slice B1 d1.2.2.length e1] 28)) (.cells #[.slice A2 x2.length c2] 30))) hx1) hx2) hx3) (drew_ext w3)) hx4) hx5) hx6) hx7)) (hF8 b hb))) (fun b hb => Nat.le_trans (size_of_ext (trans_ext (trans_ext (trans_ext (trans_ext (trans_ext (trans_ext (trans_ext (trans_ext (trans_ext (trans_ext (trans_ext (trans_ext (alloc_ext w (.cells #[.slice A0 d0.length c0] 24)) (alloc_ext (w.alloc (.cells #[.slice A0 d0.length c0] 24)) (.cells #[.int .i64 d1.1, .slice A1 d1.2.1.length c1, .slice B1 d1.2.2.length e1] 28))) (alloc_ext ((w.alloc (.cells #[.slice A0 d0.length c0] 24)).alloc (.cells #[.int .i64 d1.1, .slice A1 d1.2.1.length c1, .slice B1 d1.2.2.length e1] 28)) (.cells #[.slice A2 x2.length c2] 30))) hx1) hx2) hx3) (drew_ext w3)) hx4) hx5) hx6) hx7) hx8) (alloc_ext w8 (.cells #[.slice A8 d0.length c8] 39)))) (hF9 b hb))) (fun b hb => Nat.le_trans (size_of_ext (trans_ext (trans_ext (trans_ext (trans_ext (trans_ext (trans_ext (trans_ext (trans_ext (trans_ext (trans_ext (trans_ext (trans_ext (trans_ext (trans_ext (alloc_ext w (.cells #[.slice A0 d0.length c0] 24)) (alloc_ext (w.alloc (.cells #[.slice A0 d0.length c0] 24)) (.cells #[.int .i64 d1.1, .slice A1 d1.2.1.length c1, .slice B1 d1.2.2.length e1] 28))) (alloc_ext ((w.alloc (.cells #[.slice A0 d0.length c0] 24)).alloc (.cells #[.int .i64 d1.1, .slice A1 d1.2.1.length c1, .slice B1 d1.2.2.length e1] 28)) (.cells #[.slice A2 x2.length c2] 30))) hx1) hx2) hx3) (drew_ext w3)) hx4) hx5) hx6) hx7) hx8) (alloc_ext w8 (.cells #[.slice A8 d0.length c8] 39))) hx9) (alloc_ext w9 (.cells #[.int .i64 d1.1, .slice A9 d1.2.1.length c9, .slice B9 d1.2.2.length e9] 43)))) (hF10 b hb))) hx22) (fun b hb => Nat.le_trans (size_of_ext (trans_ext (trans_ext (trans_ext (trans_ext (trans_ext (trans_ext (trans_ext (trans_ext (trans_ext (trans_ext (trans_ext (trans_ext (trans_ext (trans_ext (trans_ext (trans_ext (alloc_ext w (.cells #[.slice A0 d0.length c0] 24)) (alloc_ext (w.alloc (.cells #[.slice A0 d0.length c0] 24)) (.cells #[.int .i64 d1.1, .slice A1 d1.2.1.length c1, .slice B1 d1.2.2.length e1] 28))) (alloc_ext ((w.alloc (.cells #[.slice A0 d0.length c0] 24)).alloc (.cells #[.int .i64 d1.1, .slice A1 d1.2.1.length c1, .slice B1 d1.2.2.length e1] 28)) (.cells #[.slice A2 x2.length c2] 30))) hx1) hx2) hx3) (drew_ext w3)) hx4) hx5) hx6) hx7) hx8) (alloc_ext w8 (.cells #[.slice A8 d0.length c8] 39))) hx9) (alloc_ext w9 (.cells #[.int .i64 d1.1, .slice A9 d1.2.1.length c9, .slice B9 d1.2.2.length e9] 43))) hx10) (alloc_ext w10 (.cells #[.slice A10 x2.length c10] 45)))) (hF11 b hb))) hx24) (drew_ext w24)) hx25) hx26) hx27) hx28) hx29) hx30)⟩
theorem law_FullReduction (A0 : Option Addr) (c0 : Nat) (d0 : Dbd) (A1 : Option Addr) (c1 : Nat) (B1 : Option Addr) (e1 : Nat) (d1 : Qd) (A2 : Option Addr) (c2 : Nat) (x2 : List Int) (w : World) (q0 : QDb d0) (r0 : vDb w [.slice A0 d0.length c0] d0) (q1 : QQ d1) (r1 : vQ w [.int .i64 d1.1, .slice A1 d1.2.1.length c1, .slice B1 d1.2.2.length e1] d1) (l2 : x2.length ≤ 9223372036854775807) (r2 : RI w A2 x2) : Calls Tryz.prog 3 #[.agg #[.slice A0 d0.length c0], .agg #[.int .i64 d1.1, .slice A1 d1.2.1.length c1, .slice B1 d1.2.2.length e1], .agg #[.slice A2 x2.length c2]] w fun e w' => e = .returned (.bool true) ∧ ∃ y, w' = ext w y := by
  by_cases hz0 : 0 ≤ szN szTb (1048576) d0
  · have hy0 : szN szTb (1048576) d0 ≤ 1048576 := szDb_le hz0
    by_cases hz1 : 0 ≤ szQ (szN szTb (1048576) d0) d1
    · have hy1 : szQ (szN szTb (1048576) d0) d1 ≤ 1048576 := Int.le_trans (szQ_le hz1) hy0
      by_cases hz2 : 0 ≤ szL (szQ (szN szTb (1048576) d0) d1) x2.length
      · have hy2 : szL (szQ (szN szTb (1048576) d0) d1) x2.length ≤ 1048576 := Int.le_trans (szL_le hz2) hy1
        have b09 := szDb_small q0 hz0 (by omega)
        have b19 := szQ_small q1.1 hz1 (by omega)
        have q2 := szL_small hz2
        exact law_FullReduction_m _ _ _ _ _ _ _ _ _ _ _ w q0 r0 q1 r1 l2 r2 hz0 hy0 hz1 hy1 hz2 hy2 (b09) (b19) (by omega)
      · exact law_FullReduction_z2 _ _ _ _ _ _ _ _ _ _ _ w q0 r0 q1 r1 l2 hz0 hy0 hz1 hy1 (by omega)
    · exact law_FullReduction_z1 _ _ _ _ _ _ _ _ _ _ _ w q0 r0 q1 r1 hz0 hy0 (by omega)
  · exact law_FullReduction_z0 _ _ _ _ _ _ _ _ _ _ _ w q0 r0 (by omega)
end Go.Proofs.YtfigcfajkilhiaaGreat
