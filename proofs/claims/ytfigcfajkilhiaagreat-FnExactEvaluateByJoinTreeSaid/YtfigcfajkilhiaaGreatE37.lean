/- Contracts of functions that the statement reaches. -/
import Derived.Test.YtfigcfajkilhiaaGreatE01
import Derived.Test.YtfigcfajkilhiaaGreatE02
import Derived.Test.YtfigcfajkilhiaaGreatE03
import Derived.Test.YtfigcfajkilhiaaGreatE04
import Derived.Test.YtfigcfajkilhiaaGreatE36
import Derived.Test.YtfigcfajkilhiaaGreatE35
namespace Go.Proofs.YtfigcfajkilhiaaGreat
open Go.ChangeShapes Go.WideShapes Go.ChangeAt Go.RowKit
set_option maxRecDepth 100000 in
set_option maxHeartbeats 4000000 in
theorem law_EvaluateByJoinTree_z0 (A0 : Option Addr) (c0 : Nat) (d0 : Dbd) (A1 : Option Addr) (c1 : Nat) (B1 : Option Addr) (e1 : Nat) (d1 : Qd) (A2 : Option Addr) (c2 : Nat) (x2 : List Int) (w : World) (q0 : QDb d0) (r0 : vDb w [.slice A0 d0.length c0] d0) (hz0 : szN szTb (1048576) d0 < 0) : Calls Tryz.prog 4 #[.agg #[.slice A0 d0.length c0], .agg #[.int .i64 d1.1, .slice A1 d1.2.1.length c1, .slice B1 d1.2.2.length e1], .agg #[.slice A2 x2.length c2]] w fun e w' => e = .returned (.bool true) ∧ ∃ y, w' = ext w y := by
  go_enter Tryz.func4, Tryz.ntmps4
  go_wp2_with fail
  refine (szDatabase_d q0 (VD.toExt r0 (trans_ext (trans_ext (alloc_ext w (.cells #[.slice A0 d0.length c0] 24)) (alloc_ext (w.alloc (.cells #[.slice A0 d0.length c0] 24)) (.cells #[.int .i64 d1.1, .slice A1 d1.2.1.length c1, .slice B1 d1.2.2.length e1] 28))) (alloc_ext ((w.alloc (.cells #[.slice A0 d0.length c0] 24)).alloc (.cells #[.int .i64 d1.1, .slice A1 d1.2.1.length c1, .slice B1 d1.2.2.length e1] 28)) (.cells #[.slice A2 x2.length c2] 30)))) (by omega) (by omega)).mono ?_
  rintro e w1 ⟨rfl, hx1⟩
  have B1_0 : BoxAt w1 (w.heap.size) #[.slice A0 d0.length c0] := by obtain ⟨y, e⟩ := hx1; rw [e]; refine ⟨?_, fun j => ?_, fun j => ?_⟩ <;> go_simp
  have B1_1 : BoxAt w1 (w.heap.size + 1) #[.int .i64 d1.1, .slice A1 d1.2.1.length c1, .slice B1 d1.2.2.length e1] := by obtain ⟨y, e⟩ := hx1; rw [e]; refine ⟨?_, fun j => ?_, fun j => ?_⟩ <;> go_simp
  have B1_2 : BoxAt w1 (w.heap.size + 1 + 1) #[.slice A2 x2.length c2] := by obtain ⟨y, e⟩ := hx1; rw [e]; refine ⟨?_, fun j => ?_, fun j => ?_⟩ <;> go_simp
  have lB1_0 := B1_0.1
  have bB1_0 := B1_0.2.1
  have lB1_1 := B1_1.1
  have bB1_1 := B1_1.2.1
  have lB1_2 := B1_2.1
  have bB1_2 := B1_2.2.1
  go_wp2_with fail
  go_ret
  exact ⟨rfl, (trans_ext (trans_ext (trans_ext (alloc_ext w (.cells #[.slice A0 d0.length c0] 24)) (alloc_ext (w.alloc (.cells #[.slice A0 d0.length c0] 24)) (.cells #[.int .i64 d1.1, .slice A1 d1.2.1.length c1, .slice B1 d1.2.2.length e1] 28))) (alloc_ext ((w.alloc (.cells #[.slice A0 d0.length c0] 24)).alloc (.cells #[.int .i64 d1.1, .slice A1 d1.2.1.length c1, .slice B1 d1.2.2.length e1] 28)) (.cells #[.slice A2 x2.length c2] 30))) hx1)⟩
set_option maxRecDepth 100000 in
set_option maxHeartbeats 4000000 in
theorem law_EvaluateByJoinTree_z1 (A0 : Option Addr) (c0 : Nat) (d0 : Dbd) (A1 : Option Addr) (c1 : Nat) (B1 : Option Addr) (e1 : Nat) (d1 : Qd) (A2 : Option Addr) (c2 : Nat) (x2 : List Int) (w : World) (q0 : QDb d0) (r0 : vDb w [.slice A0 d0.length c0] d0) (q1 : QQ d1) (r1 : vQ w [.int .i64 d1.1, .slice A1 d1.2.1.length c1, .slice B1 d1.2.2.length e1] d1) (hz0 : 0 ≤ szN szTb (1048576) d0) (hy0 : szN szTb (1048576) d0 ≤ 1048576) (hz1 : szQ (szN szTb (1048576) d0) d1 < 0) : Calls Tryz.prog 4 #[.agg #[.slice A0 d0.length c0], .agg #[.int .i64 d1.1, .slice A1 d1.2.1.length c1, .slice B1 d1.2.2.length e1], .agg #[.slice A2 x2.length c2]] w fun e w' => e = .returned (.bool true) ∧ ∃ y, w' = ext w y := by
  go_enter Tryz.func4, Tryz.ntmps4
  go_wp2_with fail
  refine (szDatabase_d q0 (VD.toExt r0 (trans_ext (trans_ext (alloc_ext w (.cells #[.slice A0 d0.length c0] 24)) (alloc_ext (w.alloc (.cells #[.slice A0 d0.length c0] 24)) (.cells #[.int .i64 d1.1, .slice A1 d1.2.1.length c1, .slice B1 d1.2.2.length e1] 28))) (alloc_ext ((w.alloc (.cells #[.slice A0 d0.length c0] 24)).alloc (.cells #[.int .i64 d1.1, .slice A1 d1.2.1.length c1, .slice B1 d1.2.2.length e1] 28)) (.cells #[.slice A2 x2.length c2] 30)))) (by omega) (by omega)).mono ?_
  rintro e w1 ⟨rfl, hx1⟩
  have B1_0 : BoxAt w1 (w.heap.size) #[.slice A0 d0.length c0] := by obtain ⟨y, e⟩ := hx1; rw [e]; refine ⟨?_, fun j => ?_, fun j => ?_⟩ <;> go_simp
  have B1_1 : BoxAt w1 (w.heap.size + 1) #[.int .i64 d1.1, .slice A1 d1.2.1.length c1, .slice B1 d1.2.2.length e1] := by obtain ⟨y, e⟩ := hx1; rw [e]; refine ⟨?_, fun j => ?_, fun j => ?_⟩ <;> go_simp
  have B1_2 : BoxAt w1 (w.heap.size + 1 + 1) #[.slice A2 x2.length c2] := by obtain ⟨y, e⟩ := hx1; rw [e]; refine ⟨?_, fun j => ?_, fun j => ?_⟩ <;> go_simp
  have lB1_0 := B1_0.1
  have bB1_0 := B1_0.2.1
  have lB1_1 := B1_1.1
  have bB1_1 := B1_1.2.1
  have lB1_2 := B1_2.1
  have bB1_2 := B1_2.2.1
  go_wp2_with fail
  refine (szQuery_d q1 (VD.toExt r1 (trans_ext (trans_ext (trans_ext (alloc_ext w (.cells #[.slice A0 d0.length c0] 24)) (alloc_ext (w.alloc (.cells #[.slice A0 d0.length c0] 24)) (.cells #[.int .i64 d1.1, .slice A1 d1.2.1.length c1, .slice B1 d1.2.2.length e1] 28))) (alloc_ext ((w.alloc (.cells #[.slice A0 d0.length c0] 24)).alloc (.cells #[.int .i64 d1.1, .slice A1 d1.2.1.length c1, .slice B1 d1.2.2.length e1] 28)) (.cells #[.slice A2 x2.length c2] 30))) hx1)) (by omega) (by omega)).mono ?_
  rintro e w2 ⟨rfl, hx2⟩
  have B2_0 : BoxAt w2 (w.heap.size) #[.slice A0 d0.length c0] := (B1_0.toExt hx2)
  have B2_1 : BoxAt w2 (w.heap.size + 1) #[.int .i64 d1.1, .slice A1 d1.2.1.length c1, .slice B1 d1.2.2.length e1] := (B1_1.toExt hx2)
  have B2_2 : BoxAt w2 (w.heap.size + 1 + 1) #[.slice A2 x2.length c2] := (B1_2.toExt hx2)
  have lB2_0 := B2_0.1
  have bB2_0 := B2_0.2.1
  have lB2_1 := B2_1.1
  have bB2_1 := B2_1.2.1
  have lB2_2 := B2_2.1
  have bB2_2 := B2_2.2.1
  clear lB1_0 bB1_0 lB1_1 bB1_1 lB1_2 bB1_2
  go_wp2_with fail
  go_ret
  exact ⟨rfl, (trans_ext (trans_ext (trans_ext (trans_ext (alloc_ext w (.cells #[.slice A0 d0.length c0] 24)) (alloc_ext (w.alloc (.cells #[.slice A0 d0.length c0] 24)) (.cells #[.int .i64 d1.1, .slice A1 d1.2.1.length c1, .slice B1 d1.2.2.length e1] 28))) (alloc_ext ((w.alloc (.cells #[.slice A0 d0.length c0] 24)).alloc (.cells #[.int .i64 d1.1, .slice A1 d1.2.1.length c1, .slice B1 d1.2.2.length e1] 28)) (.cells #[.slice A2 x2.length c2] 30))) hx1) hx2)⟩
set_option maxRecDepth 100000 in
set_option maxHeartbeats 4000000 in
theorem law_EvaluateByJoinTree_z2 (A0 : Option Addr) (c0 : Nat) (d0 : Dbd) (A1 : Option Addr) (c1 : Nat) (B1 : Option Addr) (e1 : Nat) (d1 : Qd) (A2 : Option Addr) (c2 : Nat) (x2 : List Int) (w : World) (q0 : QDb d0) (r0 : vDb w [.slice A0 d0.length c0] d0) (q1 : QQ d1) (r1 : vQ w [.int .i64 d1.1, .slice A1 d1.2.1.length c1, .slice B1 d1.2.2.length e1] d1) (l2 : x2.length ≤ 9223372036854775807) (hz0 : 0 ≤ szN szTb (1048576) d0) (hy0 : szN szTb (1048576) d0 ≤ 1048576) (hz1 : 0 ≤ szQ (szN szTb (1048576) d0) d1) (hy1 : szQ (szN szTb (1048576) d0) d1 ≤ 1048576) (hz2 : szL (szQ (szN szTb (1048576) d0) d1) x2.length < 0) : Calls Tryz.prog 4 #[.agg #[.slice A0 d0.length c0], .agg #[.int .i64 d1.1, .slice A1 d1.2.1.length c1, .slice B1 d1.2.2.length e1], .agg #[.slice A2 x2.length c2]] w fun e w' => e = .returned (.bool true) ∧ ∃ y, w' = ext w y := by
  go_enter Tryz.func4, Tryz.ntmps4
  go_wp2_with fail
  refine (szDatabase_d q0 (VD.toExt r0 (trans_ext (trans_ext (alloc_ext w (.cells #[.slice A0 d0.length c0] 24)) (alloc_ext (w.alloc (.cells #[.slice A0 d0.length c0] 24)) (.cells #[.int .i64 d1.1, .slice A1 d1.2.1.length c1, .slice B1 d1.2.2.length e1] 28))) (alloc_ext ((w.alloc (.cells #[.slice A0 d0.length c0] 24)).alloc (.cells #[.int .i64 d1.1, .slice A1 d1.2.1.length c1, .slice B1 d1.2.2.length e1] 28)) (.cells #[.slice A2 x2.length c2] 30)))) (by omega) (by omega)).mono ?_
  rintro e w1 ⟨rfl, hx1⟩
  have B1_0 : BoxAt w1 (w.heap.size) #[.slice A0 d0.length c0] := by obtain ⟨y, e⟩ := hx1; rw [e]; refine ⟨?_, fun j => ?_, fun j => ?_⟩ <;> go_simp
  have B1_1 : BoxAt w1 (w.heap.size + 1) #[.int .i64 d1.1, .slice A1 d1.2.1.length c1, .slice B1 d1.2.2.length e1] := by obtain ⟨y, e⟩ := hx1; rw [e]; refine ⟨?_, fun j => ?_, fun j => ?_⟩ <;> go_simp
  have B1_2 : BoxAt w1 (w.heap.size + 1 + 1) #[.slice A2 x2.length c2] := by obtain ⟨y, e⟩ := hx1; rw [e]; refine ⟨?_, fun j => ?_, fun j => ?_⟩ <;> go_simp
  have lB1_0 := B1_0.1
  have bB1_0 := B1_0.2.1
  have lB1_1 := B1_1.1
  have bB1_1 := B1_1.2.1
  have lB1_2 := B1_2.1
  have bB1_2 := B1_2.2.1
  go_wp2_with fail
  refine (szQuery_d q1 (VD.toExt r1 (trans_ext (trans_ext (trans_ext (alloc_ext w (.cells #[.slice A0 d0.length c0] 24)) (alloc_ext (w.alloc (.cells #[.slice A0 d0.length c0] 24)) (.cells #[.int .i64 d1.1, .slice A1 d1.2.1.length c1, .slice B1 d1.2.2.length e1] 28))) (alloc_ext ((w.alloc (.cells #[.slice A0 d0.length c0] 24)).alloc (.cells #[.int .i64 d1.1, .slice A1 d1.2.1.length c1, .slice B1 d1.2.2.length e1] 28)) (.cells #[.slice A2 x2.length c2] 30))) hx1)) (by omega) (by omega)).mono ?_
  rintro e w2 ⟨rfl, hx2⟩
  have B2_0 : BoxAt w2 (w.heap.size) #[.slice A0 d0.length c0] := (B1_0.toExt hx2)
  have B2_1 : BoxAt w2 (w.heap.size + 1) #[.int .i64 d1.1, .slice A1 d1.2.1.length c1, .slice B1 d1.2.2.length e1] := (B1_1.toExt hx2)
  have B2_2 : BoxAt w2 (w.heap.size + 1 + 1) #[.slice A2 x2.length c2] := (B1_2.toExt hx2)
  have lB2_0 := B2_0.1
  have bB2_0 := B2_0.2.1
  have lB2_1 := B2_1.1
  have bB2_1 := B2_1.2.1
  have lB2_2 := B2_2.1
  have bB2_2 := B2_2.2.1
  clear lB1_0 bB1_0 lB1_1 bB1_1 lB1_2 bB1_2
  go_wp2_with fail
  refine (szJoinForest_any l2 (by omega) (by omega)).mono ?_
  rintro e w3 ⟨rfl, hx3⟩
  have B3_0 : BoxAt w3 (w.heap.size) #[.slice A0 d0.length c0] := (B2_0.toExt hx3)
  have B3_1 : BoxAt w3 (w.heap.size + 1) #[.int .i64 d1.1, .slice A1 d1.2.1.length c1, .slice B1 d1.2.2.length e1] := (B2_1.toExt hx3)
  have B3_2 : BoxAt w3 (w.heap.size + 1 + 1) #[.slice A2 x2.length c2] := (B2_2.toExt hx3)
  have lB3_0 := B3_0.1
  have bB3_0 := B3_0.2.1
  have lB3_1 := B3_1.1
  have bB3_1 := B3_1.2.1
  have lB3_2 := B3_2.1
  have bB3_2 := B3_2.2.1
  clear lB2_0 bB2_0 lB2_1 bB2_1 lB2_2 bB2_2
  go_wp2_with fail
  go_ret
  exact ⟨rfl, (trans_ext (trans_ext (trans_ext (trans_ext (trans_ext (alloc_ext w (.cells #[.slice A0 d0.length c0] 24)) (alloc_ext (w.alloc (.cells #[.slice A0 d0.length c0] 24)) (.cells #[.int .i64 d1.1, .slice A1 d1.2.1.length c1, .slice B1 d1.2.2.length e1] 28))) (alloc_ext ((w.alloc (.cells #[.slice A0 d0.length c0] 24)).alloc (.cells #[.int .i64 d1.1, .slice A1 d1.2.1.length c1, .slice B1 d1.2.2.length e1] 28)) (.cells #[.slice A2 x2.length c2] 30))) hx1) hx2) hx3)⟩
set_option maxRecDepth 100000 in
set_option maxHeartbeats 4000000 in
theorem law_EvaluateByJoinTree_m (A0 : Option Addr) (c0 : Nat) (d0 : Dbd) (A1 : Option Addr) (c1 : Nat) (B1 : Option Addr) (e1 : Nat) (d1 : Qd) (A2 : Option Addr) (c2 : Nat) (x2 : List Int) (w : World) (q0 : QDb d0) (r0 : vDb w [.slice A0 d0.length c0] d0) (q1 : QQ d1) (r1 : vQ w [.int .i64 d1.1, .slice A1 d1.2.1.length c1, .slice B1 d1.2.2.length e1] d1) (l2 : x2.length ≤ 9223372036854775807) (r2 : RI w A2 x2) (hz0 : 0 ≤ szN szTb (1048576) d0) (hy0 : szN szTb (1048576) d0 ≤ 1048576) (hz1 : 0 ≤ szQ (szN szTb (1048576) d0) d1) (hy1 : szQ (szN szTb (1048576) d0) d1 ≤ 1048576) (hz2 : 0 ≤ szL (szQ (szN szTb (1048576) d0) d1) x2.length) (hy2 : szL (szQ (szN szTb (1048576) d0) d1) x2.length ≤ 1048576) (s0 : BDb d0) (s1 : BQ d1) (s2 : x2.length ≤ 1048576) : Calls Tryz.prog 4 #[.agg #[.slice A0 d0.length c0], .agg #[.int .i64 d1.1, .slice A1 d1.2.1.length c1, .slice B1 d1.2.2.length e1], .agg #[.slice A2 x2.length c2]] w fun e w' => e = .returned (.bool true) ∧ ∃ y, w' = ext w y := by
  have hb9 := evT_bd d0 d1 x2
  go_enter Tryz.func4, Tryz.ntmps4
  go_wp2_with fail
  refine (szDatabase_d q0 (VD.toExt r0 (trans_ext (trans_ext (alloc_ext w (.cells #[.slice A0 d0.length c0] 24)) (alloc_ext (w.alloc (.cells #[.slice A0 d0.length c0] 24)) (.cells #[.int .i64 d1.1, .slice A1 d1.2.1.length c1, .slice B1 d1.2.2.length e1] 28))) (alloc_ext ((w.alloc (.cells #[.slice A0 d0.length c0] 24)).alloc (.cells #[.int .i64 d1.1, .slice A1 d1.2.1.length c1, .slice B1 d1.2.2.length e1] 28)) (.cells #[.slice A2 x2.length c2] 30)))) (by omega) (by omega)).mono ?_
  rintro e w1 ⟨rfl, hx1⟩
  have B1_0 : BoxAt w1 (w.heap.size) #[.slice A0 d0.length c0] := by obtain ⟨y, e⟩ := hx1; rw [e]; refine ⟨?_, fun j => ?_, fun j => ?_⟩ <;> go_simp
  have B1_1 : BoxAt w1 (w.heap.size + 1) #[.int .i64 d1.1, .slice A1 d1.2.1.length c1, .slice B1 d1.2.2.length e1] := by obtain ⟨y, e⟩ := hx1; rw [e]; refine ⟨?_, fun j => ?_, fun j => ?_⟩ <;> go_simp
  have B1_2 : BoxAt w1 (w.heap.size + 1 + 1) #[.slice A2 x2.length c2] := by obtain ⟨y, e⟩ := hx1; rw [e]; refine ⟨?_, fun j => ?_, fun j => ?_⟩ <;> go_simp
  have lB1_0 := B1_0.1
  have bB1_0 := B1_0.2.1
  have lB1_1 := B1_1.1
  have bB1_1 := B1_1.2.1
  have lB1_2 := B1_2.1
  have bB1_2 := B1_2.2.1
  go_wp2_with fail
  refine (szQuery_d q1 (VD.toExt r1 (trans_ext (trans_ext (trans_ext (alloc_ext w (.cells #[.slice A0 d0.length c0] 24)) (alloc_ext (w.alloc (.cells #[.slice A0 d0.length c0] 24)) (.cells #[.int .i64 d1.1, .slice A1 d1.2.1.length c1, .slice B1 d1.2.2.length e1] 28))) (alloc_ext ((w.alloc (.cells #[.slice A0 d0.length c0] 24)).alloc (.cells #[.int .i64 d1.1, .slice A1 d1.2.1.length c1, .slice B1 d1.2.2.length e1] 28)) (.cells #[.slice A2 x2.length c2] 30))) hx1)) (by omega) (by omega)).mono ?_
  rintro e w2 ⟨rfl, hx2⟩
  have B2_0 : BoxAt w2 (w.heap.size) #[.slice A0 d0.length c0] := (B1_0.toExt hx2)
  have B2_1 : BoxAt w2 (w.heap.size + 1) #[.int .i64 d1.1, .slice A1 d1.2.1.length c1, .slice B1 d1.2.2.length e1] := (B1_1.toExt hx2)
  have B2_2 : BoxAt w2 (w.heap.size + 1 + 1) #[.slice A2 x2.length c2] := (B1_2.toExt hx2)
  have lB2_0 := B2_0.1
  have bB2_0 := B2_0.2.1
  have lB2_1 := B2_1.1
  have bB2_1 := B2_1.2.1
  have lB2_2 := B2_2.1
  have bB2_2 := B2_2.2.1
  clear lB1_0 bB1_0 lB1_1 bB1_1 lB1_2 bB1_2
  go_wp2_with fail
  refine (szJoinForest_any l2 (by omega) (by omega)).mono ?_
  rintro e w3 ⟨rfl, hx3⟩
  have B3_0 : BoxAt w3 (w.heap.size) #[.slice A0 d0.length c0] := (B2_0.toExt hx3)
  have B3_1 : BoxAt w3 (w.heap.size + 1) #[.int .i64 d1.1, .slice A1 d1.2.1.length c1, .slice B1 d1.2.2.length e1] := (B2_1.toExt hx3)
  have B3_2 : BoxAt w3 (w.heap.size + 1 + 1) #[.slice A2 x2.length c2] := (B2_2.toExt hx3)
  have lB3_0 := B3_0.1
  have bB3_0 := B3_0.2.1
  have lB3_1 := B3_1.1
  have bB3_1 := B3_1.2.1
  have lB3_2 := B3_2.1
  have bB3_2 := B3_2.2.1
  clear lB2_0 bB2_0 lB2_1 bB2_1 lB2_2 bB2_2
  go_wp2_with fail
  go_cut [8, 9] (fun vA vB wx => ∃ b A4 c4 F, vA = .pointer (some ⟨b, 0, none⟩) ∧ vB = .bool (evT d0 d1 x2).isSome ∧ BoxAt wx b #[.int .i64 ((evT d0 d1 x2).getD (0, [])).1, .slice A4 ((evT d0 d1 x2).getD (0, [])).2.length c4] ∧ sRel wx [.int .i64 ((evT d0 d1 x2).getD (0, [])).1, .slice A4 ((evT d0 d1 x2).getD (0, [])).2.length c4] (((evT d0 d1 x2).getD (0, []))) F ∧ F.Nodup ∧ (∀ x ∈ F, w3.heap.size ≤ x ∧ x ≠ b) ∧ w3.heap.size ≤ b ∧ ∃ y, wx = ext w3 y)
  case first =>
    go_region_held3 (fun w' => (∀ a : Addr, a.block < w3.heap.size → w'.cell? a = w3.cell? a) ∧ ∃ y, w' = ext w3 y) (first | exact heldE (by refine x'z ?_; repeat (with_reducible (first | exact x'a _ _ | exact x'b _ | exact x'c (by assumption) | refine x'd ?_ (by assumption) | refine x'e ?_ _ | refine x'f ?_ _ | refine x'g ?_ | refine x'h ?_ ?_ _ | refine x'i ?_ _ | refine x'j ?_ | refine x'k ?_ _ | refine x'l ?_ _ _ | refine x'm ?_ | assumption | (refine x'n ?_; omega) | omega)))) (first | (go_at_call_of 9 (A0); refine (toDatabase_d s0 (VD.toExt r0 (trans_ext (trans_ext (trans_ext (trans_ext (trans_ext (trans_ext (alloc_ext w (.cells #[.slice A0 d0.length c0] 24)) (alloc_ext (w.alloc (.cells #[.slice A0 d0.length c0] 24)) (.cells #[.int .i64 d1.1, .slice A1 d1.2.1.length c1, .slice B1 d1.2.2.length e1] 28))) (alloc_ext ((w.alloc (.cells #[.slice A0 d0.length c0] 24)).alloc (.cells #[.int .i64 d1.1, .slice A1 d1.2.1.length c1, .slice B1 d1.2.2.length e1] 28)) (.cells #[.slice A2 x2.length c2] 30))) hx1) hx2) hx3) (by refine x'z ?_; repeat (with_reducible (first | exact x'a _ _ | exact x'b _ | exact x'c (by assumption) | refine x'd ?_ (by assumption) | refine x'e ?_ _ | refine x'f ?_ _ | refine x'g ?_ | refine x'h ?_ ?_ _ | refine x'i ?_ _ | refine x'j ?_ | refine x'k ?_ _ | refine x'l ?_ _ _ | refine x'm ?_ | assumption | (refine x'n ?_; omega) | omega)))))).mono ?_; rintro e w4 ⟨v4, F4, rfl, hx4, hS4, hN4, hF4⟩; obtain ⟨A4, c4, rfl⟩ := sDb_form hS4; have hz4 : w3.heap.size ≤ w4.heap.size := size_of_ext (by refine x'z ?_; repeat (with_reducible (first | exact x'a _ _ | exact x'b _ | exact x'c (by assumption) | refine x'd ?_ (by assumption) | refine x'e ?_ _ | refine x'f ?_ _ | refine x'g ?_ | refine x'h ?_ ?_ _ | refine x'i ?_ _ | refine x'j ?_ | refine x'k ?_ _ | refine x'l ?_ _ _ | refine x'm ?_ | assumption | (refine x'n ?_; omega) | omega))); (first | (have L0_4 : BoxAt w4 w3.heap.size #[.int .i64 0, .slice none 0 0] := BoxAt.toExt (BoxAt.new w3 _ _) hx4; obtain ⟨z0_l4, z0_a4, z0_b4, z0_f4⟩ := bx2 L0_4) | (have L0_4 : BoxAt w4 w3.heap.size #[.int .i64 0, .slice none 0 0] := BoxAt.toExt (BoxAt.new w3.drew _ _) hx4; obtain ⟨z0_l4, z0_a4, z0_b4, z0_f4⟩ := bx2 L0_4) | (have L0_4 : BoxAt w4 w3.heap.size #[.int .i64 0, .slice none 0 0] := BoxAt.toExt (BoxAt.new w3 _ _).drew hx4; obtain ⟨z0_l4, z0_a4, z0_b4, z0_f4⟩ := bx2 L0_4) | skip)) | (go_at_call_of 10 (A1); refine (toQuery_d s1 (VD.toExt r1 (trans_ext (trans_ext (trans_ext (trans_ext (trans_ext (trans_ext (alloc_ext w (.cells #[.slice A0 d0.length c0] 24)) (alloc_ext (w.alloc (.cells #[.slice A0 d0.length c0] 24)) (.cells #[.int .i64 d1.1, .slice A1 d1.2.1.length c1, .slice B1 d1.2.2.length e1] 28))) (alloc_ext ((w.alloc (.cells #[.slice A0 d0.length c0] 24)).alloc (.cells #[.int .i64 d1.1, .slice A1 d1.2.1.length c1, .slice B1 d1.2.2.length e1] 28)) (.cells #[.slice A2 x2.length c2] 30))) hx1) hx2) hx3) (by refine x'z ?_; repeat (with_reducible (first | exact x'a _ _ | exact x'b _ | exact x'c (by assumption) | refine x'd ?_ (by assumption) | refine x'e ?_ _ | refine x'f ?_ _ | refine x'g ?_ | refine x'h ?_ ?_ _ | refine x'i ?_ _ | refine x'j ?_ | refine x'k ?_ _ | refine x'l ?_ _ _ | refine x'm ?_ | assumption | (refine x'n ?_; omega) | omega)))))).mono ?_; rintro e w5 ⟨v5, u5, t5, F5, rfl, hx5, hS5, hN5, hF5⟩; obtain ⟨A5, c5, B5, e5, rfl, rfl, rfl⟩ := sQ_form hS5; have hz5 : w4.heap.size ≤ w5.heap.size := size_of_ext (by refine x'z ?_; repeat (with_reducible (first | exact x'a _ _ | exact x'b _ | exact x'c (by assumption) | refine x'd ?_ (by assumption) | refine x'e ?_ _ | refine x'f ?_ _ | refine x'g ?_ | refine x'h ?_ ?_ _ | refine x'i ?_ _ | refine x'j ?_ | refine x'k ?_ _ | refine x'l ?_ _ _ | refine x'm ?_ | assumption | (refine x'n ?_; omega) | omega))); (first | (have L0_5 : BoxAt w5 w3.heap.size #[.int .i64 0, .slice none 0 0] := BoxAt.toExt L0_4 hx5; obtain ⟨z0_l5, z0_a5, z0_b5, z0_f5⟩ := bx2 L0_5) | skip); (first | (have L1_5 : BoxAt w5 w4.heap.size #[.int .i64 0, .slice none 0 0] := BoxAt.toExt (BoxAt.new w4 _ _) hx5; obtain ⟨z1_l5, z1_a5, z1_b5, z1_f5⟩ := bx2 L1_5) | (have L1_5 : BoxAt w5 w4.heap.size #[.int .i64 0, .slice none 0 0] := BoxAt.toExt (BoxAt.new w4.drew _ _) hx5; obtain ⟨z1_l5, z1_a5, z1_b5, z1_f5⟩ := bx2 L1_5) | (have L1_5 : BoxAt w5 w4.heap.size #[.int .i64 0, .slice none 0 0] := BoxAt.toExt (BoxAt.new w4 _ _).drew hx5; obtain ⟨z1_l5, z1_a5, z1_b5, z1_f5⟩ := bx2 L1_5) | skip)) | (go_at_call_of 11 (A2); refine (toJoinForest_any s2 (r2.toExt (trans_ext (trans_ext (trans_ext (trans_ext (trans_ext (trans_ext (alloc_ext w (.cells #[.slice A0 d0.length c0] 24)) (alloc_ext (w.alloc (.cells #[.slice A0 d0.length c0] 24)) (.cells #[.int .i64 d1.1, .slice A1 d1.2.1.length c1, .slice B1 d1.2.2.length e1] 28))) (alloc_ext ((w.alloc (.cells #[.slice A0 d0.length c0] 24)).alloc (.cells #[.int .i64 d1.1, .slice A1 d1.2.1.length c1, .slice B1 d1.2.2.length e1] 28)) (.cells #[.slice A2 x2.length c2] 30))) hx1) hx2) hx3) (by refine x'z ?_; repeat (with_reducible (first | exact x'a _ _ | exact x'b _ | exact x'c (by assumption) | refine x'd ?_ (by assumption) | refine x'e ?_ _ | refine x'f ?_ _ | refine x'g ?_ | refine x'h ?_ ?_ _ | refine x'i ?_ _ | refine x'j ?_ | refine x'k ?_ _ | refine x'l ?_ _ _ | refine x'm ?_ | assumption | (refine x'n ?_; omega) | omega)))))).mono ?_; rintro e w6 ⟨v6, F6, rfl, hx6, hS6, hF6⟩; obtain ⟨A6, c6, rfl, _, _, r6⟩ := hS6.view sI_v; have hz6 : w5.heap.size ≤ w6.heap.size := size_of_ext (by refine x'z ?_; repeat (with_reducible (first | exact x'a _ _ | exact x'b _ | exact x'c (by assumption) | refine x'd ?_ (by assumption) | refine x'e ?_ _ | refine x'f ?_ _ | refine x'g ?_ | refine x'h ?_ ?_ _ | refine x'i ?_ _ | refine x'j ?_ | refine x'k ?_ _ | refine x'l ?_ _ _ | refine x'm ?_ | assumption | (refine x'n ?_; omega) | omega))); (first | (have L0_6 : BoxAt w6 w3.heap.size #[.int .i64 0, .slice none 0 0] := BoxAt.toExt L0_5 hx6; obtain ⟨z0_l6, z0_a6, z0_b6, z0_f6⟩ := bx2 L0_6) | skip); (first | (have L1_6 : BoxAt w6 w4.heap.size #[.int .i64 0, .slice none 0 0] := BoxAt.toExt L1_5 hx6; obtain ⟨z1_l6, z1_a6, z1_b6, z1_f6⟩ := bx2 L1_6) | skip); (first | (have L2_6 : BoxAt w6 w5.heap.size #[.int .i64 0, .slice none 0 0] := BoxAt.toExt (BoxAt.new w5 _ _) hx6; obtain ⟨z2_l6, z2_a6, z2_b6, z2_f6⟩ := bx2 L2_6) | (have L2_6 : BoxAt w6 w5.heap.size #[.int .i64 0, .slice none 0 0] := BoxAt.toExt (BoxAt.new w5.drew _ _) hx6; obtain ⟨z2_l6, z2_a6, z2_b6, z2_f6⟩ := bx2 L2_6) | (have L2_6 : BoxAt w6 w5.heap.size #[.int .i64 0, .slice none 0 0] := BoxAt.toExt (BoxAt.new w5 _ _).drew hx6; obtain ⟨z2_l6, z2_a6, z2_b6, z2_f6⟩ := bx2 L2_6) | skip)) | (go_at_call 22; refine (specEvaluateByJoinTree_any (BDb.w s0) (vDb_get (sDb_v _ _ _ (OD.toExt hS4 (by refine x'z ?_; repeat (with_reducible (first | exact x'a _ _ | exact x'b _ | exact x'c (by assumption) | refine x'd ?_ (by assumption) | refine x'e ?_ _ | refine x'f ?_ _ | refine x'g ?_ | refine x'h ?_ ?_ _ | refine x'i ?_ _ | refine x'j ?_ | refine x'k ?_ _ | refine x'l ?_ _ _ | refine x'm ?_ | assumption | (refine x'n ?_; omega) | omega)))))).2.1 s1 (sQ_v _ _ _ (OD.toExt hS5 (by refine x'z ?_; repeat (with_reducible (first | exact x'a _ _ | exact x'b _ | exact x'c (by assumption) | refine x'd ?_ (by assumption) | refine x'e ?_ _ | refine x'f ?_ _ | refine x'g ?_ | refine x'h ?_ ?_ _ | refine x'i ?_ _ | refine x'j ?_ | refine x'k ?_ _ | refine x'l ?_ _ _ | refine x'm ?_ | assumption | (refine x'n ?_; omega) | omega))))) (by omega) (r6.toExt (by refine x'z ?_; repeat (with_reducible (first | exact x'a _ _ | exact x'b _ | exact x'c (by assumption) | refine x'd ?_ (by assumption) | refine x'e ?_ _ | refine x'f ?_ _ | refine x'g ?_ | refine x'h ?_ ?_ _ | refine x'i ?_ _ | refine x'j ?_ | refine x'k ?_ _ | refine x'l ?_ _ _ | refine x'm ?_ | assumption | (refine x'n ?_; omega) | omega))))).mono ?_; rintro e w7 ⟨v7, u7, F7, rfl, hx7, hS7, hN7, hF7⟩; obtain ⟨A7, c7, rfl, rfl⟩ := sRel_form' hS7; have hz7 : w6.heap.size ≤ w7.heap.size := size_of_ext (by refine x'z ?_; repeat (with_reducible (first | exact x'a _ _ | exact x'b _ | exact x'c (by assumption) | refine x'd ?_ (by assumption) | refine x'e ?_ _ | refine x'f ?_ _ | refine x'g ?_ | refine x'h ?_ ?_ _ | refine x'i ?_ _ | refine x'j ?_ | refine x'k ?_ _ | refine x'l ?_ _ _ | refine x'm ?_ | assumption | (refine x'n ?_; omega) | omega))); (first | (have L0_7 : BoxAt w7 w3.heap.size #[.int .i64 0, .slice none 0 0] := BoxAt.toExt L0_6 hx7; obtain ⟨z0_l7, z0_a7, z0_b7, z0_f7⟩ := bx2 L0_7) | skip); (first | (have L1_7 : BoxAt w7 w4.heap.size #[.int .i64 0, .slice none 0 0] := BoxAt.toExt L1_6 hx7; obtain ⟨z1_l7, z1_a7, z1_b7, z1_f7⟩ := bx2 L1_7) | skip); (first | (have L2_7 : BoxAt w7 w5.heap.size #[.int .i64 0, .slice none 0 0] := BoxAt.toExt L2_6 hx7; obtain ⟨z2_l7, z2_a7, z2_b7, z2_f7⟩ := bx2 L2_7) | skip); (first | (have L3_7 : BoxAt w7 w6.heap.size #[.int .i64 0, .slice none 0 0] := BoxAt.toExt (BoxAt.new w6 _ _) hx7; obtain ⟨z3_l7, z3_a7, z3_b7, z3_f7⟩ := bx2 L3_7) | (have L3_7 : BoxAt w7 w6.heap.size #[.int .i64 0, .slice none 0 0] := BoxAt.toExt (BoxAt.new w6.drew _ _) hx7; obtain ⟨z3_l7, z3_a7, z3_b7, z3_f7⟩ := bx2 L3_7) | (have L3_7 : BoxAt w7 w6.heap.size #[.int .i64 0, .slice none 0 0] := BoxAt.toExt (BoxAt.new w6 _ _).drew hx7; obtain ⟨z3_l7, z3_a7, z3_b7, z3_f7⟩ := bx2 L3_7) | skip)))
    all_goals
      go_wp2_with fail
      go_meet
      have hl7 := SMono.lt hS7
      have hdr : w3.drew.heap.size = w3.heap.size := rfl
      have hG7 : ∀ x ∈ F7, w6.heap.size ≤ x := fun x hx => Nat.le_trans (size_of_ext (by refine x'z ?_; repeat (with_reducible (first | exact x'a _ _ | exact x'b _ | exact x'c (by assumption) | refine x'd ?_ (by assumption) | refine x'e ?_ _ | refine x'f ?_ _ | refine x'g ?_ | refine x'h ?_ ?_ _ | refine x'i ?_ _ | refine x'j ?_ | refine x'k ?_ _ | refine x'l ?_ _ _ | refine x'm ?_ | assumption | (refine x'n ?_; omega) | omega)))) (hF7 x hx)
      first
        | exact ⟨w7.heap.size, A7, c7, F7, rfl, rfl, BoxAt.new _ _ _, OD.toExt hS7 (alloc_ext _ _), hN7, fun x hx => ⟨by have := hG7 x hx; omega, by have := hl7 x hx; omega⟩, by omega, (by refine x'z ?_; repeat (with_reducible (first | exact x'a _ _ | exact x'b _ | exact x'c (by assumption) | refine x'd ?_ (by assumption) | refine x'e ?_ _ | refine x'f ?_ _ | refine x'g ?_ | refine x'h ?_ ?_ _ | refine x'i ?_ _ | refine x'j ?_ | refine x'k ?_ _ | refine x'l ?_ _ _ | refine x'm ?_ | assumption | (refine x'n ?_; omega) | omega)))⟩
        | exact ⟨w3.heap.size, A7, c7, F7, rfl, rfl, (by repeat (with_reducible (first | assumption | exact BoxAt.new _ _ _ | apply BoxAt.set2 | refine BoxAt.set2' ?_ (by omega) | apply BoxAt.setP0 | apply BoxAt.setP1 | refine BoxAt.setO ?_ (by omega) | refine BoxAt.alloc ?_ _ | refine BoxAt.drew ?_ | refine BoxAt.toExt ?_ (by assumption)))), OD.chg (G := [w3.heap.size]) hS7 (by repeat (with_reducible (first | exact Chg.refl _ _ | refine Chg.trans0 ?_ (by assumption) | refine Chg.extS ?_ _ | refine Chg.alloc ?_ _ | refine Chg.drew ?_ | refine Chg.setCell ?_ (.inl (by simp)) _))) (fun x hx hm => by have := hG7 x hx; have h9 := L0_6.1; rw [List.mem_singleton.1 hm] at this; omega), hN7, fun x hx => ⟨by have := hG7 x hx; omega, by have := hG7 x hx; have h9 := L0_6.1; omega⟩, by omega, (by refine x'z ?_; repeat (with_reducible (first | exact x'a _ _ | exact x'b _ | exact x'c (by assumption) | refine x'd ?_ (by assumption) | refine x'e ?_ _ | refine x'f ?_ _ | refine x'g ?_ | refine x'h ?_ ?_ _ | refine x'i ?_ _ | refine x'j ?_ | refine x'k ?_ _ | refine x'l ?_ _ _ | refine x'm ?_ | assumption | (refine x'n ?_; omega) | omega)))⟩
        | exact ⟨w4.heap.size, A7, c7, F7, rfl, rfl, (by repeat (with_reducible (first | assumption | exact BoxAt.new _ _ _ | apply BoxAt.set2 | refine BoxAt.set2' ?_ (by omega) | apply BoxAt.setP0 | apply BoxAt.setP1 | refine BoxAt.setO ?_ (by omega) | refine BoxAt.alloc ?_ _ | refine BoxAt.drew ?_ | refine BoxAt.toExt ?_ (by assumption)))), OD.chg (G := [w4.heap.size]) hS7 (by repeat (with_reducible (first | exact Chg.refl _ _ | refine Chg.trans0 ?_ (by assumption) | refine Chg.extS ?_ _ | refine Chg.alloc ?_ _ | refine Chg.drew ?_ | refine Chg.setCell ?_ (.inl (by simp)) _))) (fun x hx hm => by have := hG7 x hx; have h9 := L1_6.1; rw [List.mem_singleton.1 hm] at this; omega), hN7, fun x hx => ⟨by have := hG7 x hx; omega, by have := hG7 x hx; have h9 := L1_6.1; omega⟩, by omega, (by refine x'z ?_; repeat (with_reducible (first | exact x'a _ _ | exact x'b _ | exact x'c (by assumption) | refine x'd ?_ (by assumption) | refine x'e ?_ _ | refine x'f ?_ _ | refine x'g ?_ | refine x'h ?_ ?_ _ | refine x'i ?_ _ | refine x'j ?_ | refine x'k ?_ _ | refine x'l ?_ _ _ | refine x'm ?_ | assumption | (refine x'n ?_; omega) | omega)))⟩
        | exact ⟨w5.heap.size, A7, c7, F7, rfl, rfl, (by repeat (with_reducible (first | assumption | exact BoxAt.new _ _ _ | apply BoxAt.set2 | refine BoxAt.set2' ?_ (by omega) | apply BoxAt.setP0 | apply BoxAt.setP1 | refine BoxAt.setO ?_ (by omega) | refine BoxAt.alloc ?_ _ | refine BoxAt.drew ?_ | refine BoxAt.toExt ?_ (by assumption)))), OD.chg (G := [w5.heap.size]) hS7 (by repeat (with_reducible (first | exact Chg.refl _ _ | refine Chg.trans0 ?_ (by assumption) | refine Chg.extS ?_ _ | refine Chg.alloc ?_ _ | refine Chg.drew ?_ | refine Chg.setCell ?_ (.inl (by simp)) _))) (fun x hx hm => by have := hG7 x hx; have h9 := L2_6.1; rw [List.mem_singleton.1 hm] at this; omega), hN7, fun x hx => ⟨by have := hG7 x hx; omega, by have := hG7 x hx; have h9 := L2_6.1; omega⟩, by omega, (by refine x'z ?_; repeat (with_reducible (first | exact x'a _ _ | exact x'b _ | exact x'c (by assumption) | refine x'd ?_ (by assumption) | refine x'e ?_ _ | refine x'f ?_ _ | refine x'g ?_ | refine x'h ?_ ?_ _ | refine x'i ?_ _ | refine x'j ?_ | refine x'k ?_ _ | refine x'l ?_ _ _ | refine x'm ?_ | assumption | (refine x'n ?_; omega) | omega)))⟩
        | exact ⟨w6.heap.size, A7, c7, F7, rfl, rfl, (by repeat (with_reducible (first | assumption | exact BoxAt.new _ _ _ | apply BoxAt.set2 | refine BoxAt.set2' ?_ (by omega) | apply BoxAt.setP0 | apply BoxAt.setP1 | refine BoxAt.setO ?_ (by omega) | refine BoxAt.alloc ?_ _ | refine BoxAt.drew ?_ | refine BoxAt.toExt ?_ (by assumption)))), OD.chg (G := [w6.heap.size]) hS7 (by repeat (with_reducible (first | exact Chg.refl _ _ | refine Chg.trans0 ?_ (by assumption) | refine Chg.extS ?_ _ | refine Chg.alloc ?_ _ | refine Chg.drew ?_ | refine Chg.setCell ?_ (.inl (by simp)) _))) (fun x hx hm => by have := hF7 x hx; rw [World.size_alloc] at this; rw [List.mem_singleton.1 hm] at this; omega), hN7, fun x hx => ⟨by have := hG7 x hx; omega, by have := hF7 x hx; rw [World.size_alloc] at this; omega⟩, by omega, (by refine x'z ?_; repeat (with_reducible (first | exact x'a _ _ | exact x'b _ | exact x'c (by assumption) | refine x'd ?_ (by assumption) | refine x'e ?_ _ | refine x'f ?_ _ | refine x'g ?_ | refine x'h ?_ ?_ _ | refine x'i ?_ _ | refine x'j ?_ | refine x'k ?_ _ | refine x'l ?_ _ _ | refine x'm ?_ | assumption | (refine x'n ?_; omega) | omega)))⟩
  obtain ⟨bb4, A4, c4, F4, rfl, rfl, BB4, hS4, hN4, hD4, hbb4, hx4⟩ := hcut
  obtain ⟨w4, rfl⟩ : ∃ W, W = wc := ⟨_, rfl⟩
  have hF4 : ∀ x ∈ F4, w3.heap.size ≤ x := fun x hx => (hD4 x hx).1
  have B4_0 : BoxAt w4 (w.heap.size) #[.slice A0 d0.length c0] := B3_0.toExt hx4
  have B4_1 : BoxAt w4 (w.heap.size + 1) #[.int .i64 d1.1, .slice A1 d1.2.1.length c1, .slice B1 d1.2.2.length e1] := B3_1.toExt hx4
  have B4_2 : BoxAt w4 (w.heap.size + 1 + 1) #[.slice A2 x2.length c2] := B3_2.toExt hx4
  have B4_3 := BB4
  have lB4_0 := B4_0.1
  have bB4_0 := B4_0.2.1
  have lB4_1 := B4_1.1
  have bB4_1 := B4_1.2.1
  have lB4_2 := B4_2.1
  have bB4_2 := B4_2.2.1
  have lB4_3 := B4_3.1
  have bB4_3 := B4_3.2.1
  clear lB3_0 bB3_0 lB3_1 bB3_1 lB3_2 bB3_2
  go_wp2_with fail
  refine (toDatabase_d s0 (VD.toExt r0 (trans_ext (trans_ext (trans_ext (trans_ext (trans_ext (trans_ext (alloc_ext w (.cells #[.slice A0 d0.length c0] 24)) (alloc_ext (w.alloc (.cells #[.slice A0 d0.length c0] 24)) (.cells #[.int .i64 d1.1, .slice A1 d1.2.1.length c1, .slice B1 d1.2.2.length e1] 28))) (alloc_ext ((w.alloc (.cells #[.slice A0 d0.length c0] 24)).alloc (.cells #[.int .i64 d1.1, .slice A1 d1.2.1.length c1, .slice B1 d1.2.2.length e1] 28)) (.cells #[.slice A2 x2.length c2] 30))) hx1) hx2) hx3) hx4))).mono ?_
  rintro e w5 ⟨v5, F5, rfl, hx5, hS5, hN5, hF5⟩
  obtain ⟨A5, c5, rfl⟩ := sDb_form hS5
  have B5_0 : BoxAt w5 (w.heap.size) #[.slice A0 d0.length c0] := (B4_0.toExt hx5)
  have B5_1 : BoxAt w5 (w.heap.size + 1) #[.int .i64 d1.1, .slice A1 d1.2.1.length c1, .slice B1 d1.2.2.length e1] := (B4_1.toExt hx5)
  have B5_2 : BoxAt w5 (w.heap.size + 1 + 1) #[.slice A2 x2.length c2] := (B4_2.toExt hx5)
  have B5_3 : BoxAt w5 (bb4) #[.int .i64 ((evT d0 d1 x2).getD (0, [])).1, .slice A4 ((evT d0 d1 x2).getD (0, [])).2.length c4] := (B4_3.toExt hx5)
  have lB5_0 := B5_0.1
  have bB5_0 := B5_0.2.1
  have lB5_1 := B5_1.1
  have bB5_1 := B5_1.2.1
  have lB5_2 := B5_2.1
  have bB5_2 := B5_2.2.1
  have lB5_3 := B5_3.1
  have bB5_3 := B5_3.2.1
  clear lB4_0 bB4_0 lB4_1 bB4_1 lB4_2 bB4_2 lB4_3 bB4_3
  go_wp2_with fail
  refine (toQuery_d s1 (VD.toExt r1 (trans_ext (trans_ext (trans_ext (trans_ext (trans_ext (trans_ext (trans_ext (trans_ext (alloc_ext w (.cells #[.slice A0 d0.length c0] 24)) (alloc_ext (w.alloc (.cells #[.slice A0 d0.length c0] 24)) (.cells #[.int .i64 d1.1, .slice A1 d1.2.1.length c1, .slice B1 d1.2.2.length e1] 28))) (alloc_ext ((w.alloc (.cells #[.slice A0 d0.length c0] 24)).alloc (.cells #[.int .i64 d1.1, .slice A1 d1.2.1.length c1, .slice B1 d1.2.2.length e1] 28)) (.cells #[.slice A2 x2.length c2] 30))) hx1) hx2) hx3) hx4) hx5) (alloc_ext w5 (.cells #[.slice A5 d0.length c5] 39))))).mono ?_
  rintro e w6 ⟨v6, u6, t6, F6, rfl, hx6, hS6, hN6, hF6⟩
  obtain ⟨A6, c6, B6, e6, rfl, rfl, rfl⟩ := sQ_form hS6
  have B6_0 : BoxAt w6 (w.heap.size) #[.slice A0 d0.length c0] := ((B5_0.toExt (alloc_ext w5 (.cells #[.slice A5 d0.length c5] 39))).toExt hx6)
  have B6_1 : BoxAt w6 (w.heap.size + 1) #[.int .i64 d1.1, .slice A1 d1.2.1.length c1, .slice B1 d1.2.2.length e1] := ((B5_1.toExt (alloc_ext w5 (.cells #[.slice A5 d0.length c5] 39))).toExt hx6)
  have B6_2 : BoxAt w6 (w.heap.size + 1 + 1) #[.slice A2 x2.length c2] := ((B5_2.toExt (alloc_ext w5 (.cells #[.slice A5 d0.length c5] 39))).toExt hx6)
  have B6_3 : BoxAt w6 (bb4) #[.int .i64 ((evT d0 d1 x2).getD (0, [])).1, .slice A4 ((evT d0 d1 x2).getD (0, [])).2.length c4] := ((B5_3.toExt (alloc_ext w5 (.cells #[.slice A5 d0.length c5] 39))).toExt hx6)
  have B6_4 : BoxAt w6 (w5.heap.size) #[.slice A5 d0.length c5] := ((BoxAt.new _ _ _).toExt hx6)
  have lB6_0 := B6_0.1
  have bB6_0 := B6_0.2.1
  have lB6_1 := B6_1.1
  have bB6_1 := B6_1.2.1
  have lB6_2 := B6_2.1
  have bB6_2 := B6_2.2.1
  have lB6_3 := B6_3.1
  have bB6_3 := B6_3.2.1
  have lB6_4 := B6_4.1
  have bB6_4 := B6_4.2.1
  clear lB5_0 bB5_0 lB5_1 bB5_1 lB5_2 bB5_2 lB5_3 bB5_3
  go_wp2_with fail
  refine (toJoinForest_any s2 (r2.toExt (trans_ext (trans_ext (trans_ext (trans_ext (trans_ext (trans_ext (trans_ext (trans_ext (trans_ext (trans_ext (alloc_ext w (.cells #[.slice A0 d0.length c0] 24)) (alloc_ext (w.alloc (.cells #[.slice A0 d0.length c0] 24)) (.cells #[.int .i64 d1.1, .slice A1 d1.2.1.length c1, .slice B1 d1.2.2.length e1] 28))) (alloc_ext ((w.alloc (.cells #[.slice A0 d0.length c0] 24)).alloc (.cells #[.int .i64 d1.1, .slice A1 d1.2.1.length c1, .slice B1 d1.2.2.length e1] 28)) (.cells #[.slice A2 x2.length c2] 30))) hx1) hx2) hx3) hx4) hx5) (alloc_ext w5 (.cells #[.slice A5 d0.length c5] 39))) hx6) (alloc_ext w6 (.cells #[.int .i64 d1.1, .slice A6 d1.2.1.length c6, .slice B6 d1.2.2.length e6] 43))))).mono ?_
  rintro e w7 ⟨v7, F7, rfl, hx7, hS7, hF7⟩
  obtain ⟨A7, c7, rfl, _, _, r7⟩ := hS7.view sI_v
  have B7_0 : BoxAt w7 (w.heap.size) #[.slice A0 d0.length c0] := ((B6_0.toExt (alloc_ext w6 (.cells #[.int .i64 d1.1, .slice A6 d1.2.1.length c6, .slice B6 d1.2.2.length e6] 43))).toExt hx7)
  have B7_1 : BoxAt w7 (w.heap.size + 1) #[.int .i64 d1.1, .slice A1 d1.2.1.length c1, .slice B1 d1.2.2.length e1] := ((B6_1.toExt (alloc_ext w6 (.cells #[.int .i64 d1.1, .slice A6 d1.2.1.length c6, .slice B6 d1.2.2.length e6] 43))).toExt hx7)
  have B7_2 : BoxAt w7 (w.heap.size + 1 + 1) #[.slice A2 x2.length c2] := ((B6_2.toExt (alloc_ext w6 (.cells #[.int .i64 d1.1, .slice A6 d1.2.1.length c6, .slice B6 d1.2.2.length e6] 43))).toExt hx7)
  have B7_3 : BoxAt w7 (bb4) #[.int .i64 ((evT d0 d1 x2).getD (0, [])).1, .slice A4 ((evT d0 d1 x2).getD (0, [])).2.length c4] := ((B6_3.toExt (alloc_ext w6 (.cells #[.int .i64 d1.1, .slice A6 d1.2.1.length c6, .slice B6 d1.2.2.length e6] 43))).toExt hx7)
  have B7_4 : BoxAt w7 (w5.heap.size) #[.slice A5 d0.length c5] := ((B6_4.toExt (alloc_ext w6 (.cells #[.int .i64 d1.1, .slice A6 d1.2.1.length c6, .slice B6 d1.2.2.length e6] 43))).toExt hx7)
  have B7_5 : BoxAt w7 (w6.heap.size) #[.int .i64 d1.1, .slice A6 d1.2.1.length c6, .slice B6 d1.2.2.length e6] := ((BoxAt.new _ _ _).toExt hx7)
  have lB7_0 := B7_0.1
  have bB7_0 := B7_0.2.1
  have lB7_1 := B7_1.1
  have bB7_1 := B7_1.2.1
  have lB7_2 := B7_2.1
  have bB7_2 := B7_2.2.1
  have lB7_3 := B7_3.1
  have bB7_3 := B7_3.2.1
  have lB7_4 := B7_4.1
  have bB7_4 := B7_4.2.1
  have lB7_5 := B7_5.1
  have bB7_5 := B7_5.2.1
  clear lB6_0 bB6_0 lB6_1 bB6_1 lB6_2 bB6_2 lB6_3 bB6_3 lB6_4 bB6_4
  go_wp2_with fail
  refine (EvaluateByJoinTree_any (BDb.w s0) (vDb_get (sDb_v _ _ _ (OD.toExt (OD.toExt (OD.toExt (OD.toExt (OD.toExt hS5 (alloc_ext w5 (.cells #[.slice A5 d0.length c5] 39))) hx6) (alloc_ext w6 (.cells #[.int .i64 d1.1, .slice A6 d1.2.1.length c6, .slice B6 d1.2.2.length e6] 43))) hx7) (alloc_ext w7 (.cells #[.slice A7 x2.length c7] 45))))).2.1 s1 (sQ_v _ _ _ (OD.toExt (OD.toExt (OD.toExt hS6 (alloc_ext w6 (.cells #[.int .i64 d1.1, .slice A6 d1.2.1.length c6, .slice B6 d1.2.2.length e6] 43))) hx7) (alloc_ext w7 (.cells #[.slice A7 x2.length c7] 45)))) (by omega) (r7.toExt (alloc_ext w7 (.cells #[.slice A7 x2.length c7] 45)))).mono ?_
  rintro e w8 ⟨v8, u8, F8, rfl, hx8, hS8, hN8, hF8⟩
  obtain ⟨A8, c8, rfl, rfl⟩ := sRel_form' hS8
  have B8_0 : BoxAt w8 (w.heap.size) #[.slice A0 d0.length c0] := ((B7_0.toExt (alloc_ext w7 (.cells #[.slice A7 x2.length c7] 45))).toExt hx8)
  have B8_1 : BoxAt w8 (w.heap.size + 1) #[.int .i64 d1.1, .slice A1 d1.2.1.length c1, .slice B1 d1.2.2.length e1] := ((B7_1.toExt (alloc_ext w7 (.cells #[.slice A7 x2.length c7] 45))).toExt hx8)
  have B8_2 : BoxAt w8 (w.heap.size + 1 + 1) #[.slice A2 x2.length c2] := ((B7_2.toExt (alloc_ext w7 (.cells #[.slice A7 x2.length c7] 45))).toExt hx8)
  have B8_3 : BoxAt w8 (bb4) #[.int .i64 ((evT d0 d1 x2).getD (0, [])).1, .slice A4 ((evT d0 d1 x2).getD (0, [])).2.length c4] := ((B7_3.toExt (alloc_ext w7 (.cells #[.slice A7 x2.length c7] 45))).toExt hx8)
  have B8_4 : BoxAt w8 (w5.heap.size) #[.slice A5 d0.length c5] := ((B7_4.toExt (alloc_ext w7 (.cells #[.slice A7 x2.length c7] 45))).toExt hx8)
  have B8_5 : BoxAt w8 (w6.heap.size) #[.int .i64 d1.1, .slice A6 d1.2.1.length c6, .slice B6 d1.2.2.length e6] := ((B7_5.toExt (alloc_ext w7 (.cells #[.slice A7 x2.length c7] 45))).toExt hx8)
  have B8_6 : BoxAt w8 (w7.heap.size) #[.slice A7 x2.length c7] := ((BoxAt.new _ _ _).toExt hx8)
  have lB8_0 := B8_0.1
  have bB8_0 := B8_0.2.1
  have lB8_1 := B8_1.1
  have bB8_1 := B8_1.2.1
  have lB8_2 := B8_2.1
  have bB8_2 := B8_2.2.1
  have lB8_3 := B8_3.1
  have bB8_3 := B8_3.2.1
  have lB8_4 := B8_4.1
  have bB8_4 := B8_4.2.1
  have lB8_5 := B8_5.1
  have bB8_5 := B8_5.2.1
  have lB8_6 := B8_6.1
  have bB8_6 := B8_6.2.1
  clear lB7_0 bB7_0 lB7_1 bB7_1 lB7_2 bB7_2 lB7_3 bB7_3 lB7_4 bB7_4 lB7_5 bB7_5
  go_wp2_with fail
  refine (eqRelation_d hb9 (sRel_v _ _ _ (OD.toExt hS8 (alloc_ext w8 (.cells #[.int .i64 ((evT d0 d1 x2).getD (0, [])).1, .slice A8 ((evT d0 d1 x2).getD (0, [])).2.length c8] 58)))) hb9 (sRel_v _ _ _ (OD.toExt (OD.toExt (OD.toExt (OD.toExt (OD.toExt (OD.toExt (OD.toExt (OD.toExt hS4 hx5) (alloc_ext w5 (.cells #[.slice A5 d0.length c5] 39))) hx6) (alloc_ext w6 (.cells #[.int .i64 d1.1, .slice A6 d1.2.1.length c6, .slice B6 d1.2.2.length e6] 43))) hx7) (alloc_ext w7 (.cells #[.slice A7 x2.length c7] 45))) hx8) (alloc_ext w8 (.cells #[.int .i64 ((evT d0 d1 x2).getD (0, [])).1, .slice A8 ((evT d0 d1 x2).getD (0, [])).2.length c8] 58))))).mono ?_
  rintro e w9 ⟨rfl, hx9⟩
  have B9_0 : BoxAt w9 (w.heap.size) #[.slice A0 d0.length c0] := ((B8_0.toExt (alloc_ext w8 (.cells #[.int .i64 ((evT d0 d1 x2).getD (0, [])).1, .slice A8 ((evT d0 d1 x2).getD (0, [])).2.length c8] 58))).toExt hx9)
  have B9_1 : BoxAt w9 (w.heap.size + 1) #[.int .i64 d1.1, .slice A1 d1.2.1.length c1, .slice B1 d1.2.2.length e1] := ((B8_1.toExt (alloc_ext w8 (.cells #[.int .i64 ((evT d0 d1 x2).getD (0, [])).1, .slice A8 ((evT d0 d1 x2).getD (0, [])).2.length c8] 58))).toExt hx9)
  have B9_2 : BoxAt w9 (w.heap.size + 1 + 1) #[.slice A2 x2.length c2] := ((B8_2.toExt (alloc_ext w8 (.cells #[.int .i64 ((evT d0 d1 x2).getD (0, [])).1, .slice A8 ((evT d0 d1 x2).getD (0, [])).2.length c8] 58))).toExt hx9)
  have B9_3 : BoxAt w9 (bb4) #[.int .i64 ((evT d0 d1 x2).getD (0, [])).1, .slice A4 ((evT d0 d1 x2).getD (0, [])).2.length c4] := ((B8_3.toExt (alloc_ext w8 (.cells #[.int .i64 ((evT d0 d1 x2).getD (0, [])).1, .slice A8 ((evT d0 d1 x2).getD (0, [])).2.length c8] 58))).toExt hx9)
  have B9_4 : BoxAt w9 (w5.heap.size) #[.slice A5 d0.length c5] := ((B8_4.toExt (alloc_ext w8 (.cells #[.int .i64 ((evT d0 d1 x2).getD (0, [])).1, .slice A8 ((evT d0 d1 x2).getD (0, [])).2.length c8] 58))).toExt hx9)
  have B9_5 : BoxAt w9 (w6.heap.size) #[.int .i64 d1.1, .slice A6 d1.2.1.length c6, .slice B6 d1.2.2.length e6] := ((B8_5.toExt (alloc_ext w8 (.cells #[.int .i64 ((evT d0 d1 x2).getD (0, [])).1, .slice A8 ((evT d0 d1 x2).getD (0, [])).2.length c8] 58))).toExt hx9)
  have B9_6 : BoxAt w9 (w7.heap.size) #[.slice A7 x2.length c7] := ((B8_6.toExt (alloc_ext w8 (.cells #[.int .i64 ((evT d0 d1 x2).getD (0, [])).1, .slice A8 ((evT d0 d1 x2).getD (0, [])).2.length c8] 58))).toExt hx9)
  have B9_7 : BoxAt w9 (w8.heap.size) #[.int .i64 ((evT d0 d1 x2).getD (0, [])).1, .slice A8 ((evT d0 d1 x2).getD (0, [])).2.length c8] := ((BoxAt.new _ _ _).toExt hx9)
  have lB9_0 := B9_0.1
  have bB9_0 := B9_0.2.1
  have lB9_1 := B9_1.1
  have bB9_1 := B9_1.2.1
  have lB9_2 := B9_2.1
  have bB9_2 := B9_2.2.1
  have lB9_3 := B9_3.1
  have bB9_3 := B9_3.2.1
  have lB9_4 := B9_4.1
  have bB9_4 := B9_4.2.1
  have lB9_5 := B9_5.1
  have bB9_5 := B9_5.2.1
  have lB9_6 := B9_6.1
  have bB9_6 := B9_6.2.1
  have lB9_7 := B9_7.1
  have bB9_7 := B9_7.2.1
  clear lB8_0 bB8_0 lB8_1 bB8_1 lB8_2 bB8_2 lB8_3 bB8_3 lB8_4 bB8_4 lB8_5 bB8_5 lB8_6 bB8_6
  go_wp2_with fail
  go_region_held3 (fun w' => (∀ a : Addr, a.block < w9.heap.size → w'.cell? a = w9.cell? a) ∧ ∃ y, w' = ext w9 y) (first | exact heldE (drew_ext w9) | exact heldE (trans_ext (drew_ext w9) hx10) | exact heldE (trans_ext (trans_ext (drew_ext w9) hx10) hx11)) (first | (go_at_call_of 9 (A0); refine (toDatabase_d s0 (VD.toExt r0 (trans_ext (trans_ext (trans_ext (trans_ext (trans_ext (trans_ext (trans_ext (trans_ext (trans_ext (trans_ext (trans_ext (trans_ext (trans_ext (trans_ext (trans_ext (trans_ext (alloc_ext w (.cells #[.slice A0 d0.length c0] 24)) (alloc_ext (w.alloc (.cells #[.slice A0 d0.length c0] 24)) (.cells #[.int .i64 d1.1, .slice A1 d1.2.1.length c1, .slice B1 d1.2.2.length e1] 28))) (alloc_ext ((w.alloc (.cells #[.slice A0 d0.length c0] 24)).alloc (.cells #[.int .i64 d1.1, .slice A1 d1.2.1.length c1, .slice B1 d1.2.2.length e1] 28)) (.cells #[.slice A2 x2.length c2] 30))) hx1) hx2) hx3) hx4) hx5) (alloc_ext w5 (.cells #[.slice A5 d0.length c5] 39))) hx6) (alloc_ext w6 (.cells #[.int .i64 d1.1, .slice A6 d1.2.1.length c6, .slice B6 d1.2.2.length e6] 43))) hx7) (alloc_ext w7 (.cells #[.slice A7 x2.length c7] 45))) hx8) (alloc_ext w8 (.cells #[.int .i64 ((evT d0 d1 x2).getD (0, [])).1, .slice A8 ((evT d0 d1 x2).getD (0, [])).2.length c8] 58))) hx9) (drew_ext w9)))).mono ?_; rintro e w10 ⟨v10, F10, rfl, hx10, hS10, hN10, hF10⟩; obtain ⟨A10, c10, rfl⟩ := sDb_form hS10) | (go_at_call 14; refine (eqDatabase_d s0 (sDb_v _ _ _ (OD.toExt (OD.toExt (OD.toExt (OD.toExt (OD.toExt (OD.toExt (OD.toExt (OD.toExt (OD.toExt (OD.toExt hS5 (alloc_ext w5 (.cells #[.slice A5 d0.length c5] 39))) hx6) (alloc_ext w6 (.cells #[.int .i64 d1.1, .slice A6 d1.2.1.length c6, .slice B6 d1.2.2.length e6] 43))) hx7) (alloc_ext w7 (.cells #[.slice A7 x2.length c7] 45))) hx8) (alloc_ext w8 (.cells #[.int .i64 ((evT d0 d1 x2).getD (0, [])).1, .slice A8 ((evT d0 d1 x2).getD (0, [])).2.length c8] 58))) hx9) (drew_ext w9)) hx10)) s0 (sDb_v _ _ _ hS10)).mono ?_; rintro e w11 ⟨rfl, hx11⟩))
  have B11_0 : BoxAt w11 (w.heap.size) #[.slice A0 d0.length c0] := B9_0.toExt (trans_ext (trans_ext (drew_ext w9) hx10) hx11)
  have B11_1 : BoxAt w11 (w.heap.size + 1) #[.int .i64 d1.1, .slice A1 d1.2.1.length c1, .slice B1 d1.2.2.length e1] := B9_1.toExt (trans_ext (trans_ext (drew_ext w9) hx10) hx11)
  have B11_2 : BoxAt w11 (w.heap.size + 1 + 1) #[.slice A2 x2.length c2] := B9_2.toExt (trans_ext (trans_ext (drew_ext w9) hx10) hx11)
  have B11_3 : BoxAt w11 (bb4) #[.int .i64 ((evT d0 d1 x2).getD (0, [])).1, .slice A4 ((evT d0 d1 x2).getD (0, [])).2.length c4] := B9_3.toExt (trans_ext (trans_ext (drew_ext w9) hx10) hx11)
  have B11_4 : BoxAt w11 (w5.heap.size) #[.slice A5 d0.length c5] := B9_4.toExt (trans_ext (trans_ext (drew_ext w9) hx10) hx11)
  have B11_5 : BoxAt w11 (w6.heap.size) #[.int .i64 d1.1, .slice A6 d1.2.1.length c6, .slice B6 d1.2.2.length e6] := B9_5.toExt (trans_ext (trans_ext (drew_ext w9) hx10) hx11)
  have B11_6 : BoxAt w11 (w7.heap.size) #[.slice A7 x2.length c7] := B9_6.toExt (trans_ext (trans_ext (drew_ext w9) hx10) hx11)
  have B11_7 : BoxAt w11 (w8.heap.size) #[.int .i64 ((evT d0 d1 x2).getD (0, [])).1, .slice A8 ((evT d0 d1 x2).getD (0, [])).2.length c8] := B9_7.toExt (trans_ext (trans_ext (drew_ext w9) hx10) hx11)
  have lB11_0 := B11_0.1
  have bB11_0 := B11_0.2.1
  have lB11_1 := B11_1.1
  have bB11_1 := B11_1.2.1
  have lB11_2 := B11_2.1
  have bB11_2 := B11_2.2.1
  have lB11_3 := B11_3.1
  have bB11_3 := B11_3.2.1
  have lB11_4 := B11_4.1
  have bB11_4 := B11_4.2.1
  have lB11_5 := B11_5.1
  have bB11_5 := B11_5.2.1
  have lB11_6 := B11_6.1
  have bB11_6 := B11_6.2.1
  have lB11_7 := B11_7.1
  have bB11_7 := B11_7.2.1
  clear lB9_0 bB9_0 lB9_1 bB9_1 lB9_2 bB9_2 lB9_3 bB9_3 lB9_4 bB9_4 lB9_5 bB9_5 lB9_6 bB9_6 lB9_7 bB9_7
  go_wp2_with fail
  go_region_held3 (fun w' => (∀ a : Addr, a.block < w11.heap.size → w'.cell? a = w11.cell? a) ∧ ∃ y, w' = ext w11 y) (first | exact heldE (drew_ext w11) | exact heldE (trans_ext (drew_ext w11) hx12) | exact heldE (trans_ext (trans_ext (drew_ext w11) hx12) hx13)) (first | (go_at_call_of 10 (A1); refine (toQuery_d s1 (VD.toExt r1 (trans_ext (trans_ext (trans_ext (trans_ext (trans_ext (trans_ext (trans_ext (trans_ext (trans_ext (trans_ext (trans_ext (trans_ext (trans_ext (trans_ext (trans_ext (trans_ext (trans_ext (trans_ext (trans_ext (alloc_ext w (.cells #[.slice A0 d0.length c0] 24)) (alloc_ext (w.alloc (.cells #[.slice A0 d0.length c0] 24)) (.cells #[.int .i64 d1.1, .slice A1 d1.2.1.length c1, .slice B1 d1.2.2.length e1] 28))) (alloc_ext ((w.alloc (.cells #[.slice A0 d0.length c0] 24)).alloc (.cells #[.int .i64 d1.1, .slice A1 d1.2.1.length c1, .slice B1 d1.2.2.length e1] 28)) (.cells #[.slice A2 x2.length c2] 30))) hx1) hx2) hx3) hx4) hx5) (alloc_ext w5 (.cells #[.slice A5 d0.length c5] 39))) hx6) (alloc_ext w6 (.cells #[.int .i64 d1.1, .slice A6 d1.2.1.length c6, .slice B6 d1.2.2.length e6] 43))) hx7) (alloc_ext w7 (.cells #[.slice A7 x2.length c7] 45))) hx8) (alloc_ext w8 (.cells #[.int .i64 ((evT d0 d1 x2).getD (0, [])).1, .slice A8 ((evT d0 d1 x2).getD (0, [])).2.length c8] 58))) hx9) (drew_ext w9)) hx10) hx11) (drew_ext w11)))).mono ?_; rintro e w12 ⟨v12, u12, t12, F12, rfl, hx12, hS12, hN12, hF12⟩; obtain ⟨A12, c12, B12, e12, rfl, rfl, rfl⟩ := sQ_form hS12) | (go_at_call 15; refine (eqQuery_d s1 (sQ_v _ _ _ (OD.toExt (OD.toExt (OD.toExt (OD.toExt (OD.toExt (OD.toExt (OD.toExt (OD.toExt (OD.toExt (OD.toExt (OD.toExt hS6 (alloc_ext w6 (.cells #[.int .i64 d1.1, .slice A6 d1.2.1.length c6, .slice B6 d1.2.2.length e6] 43))) hx7) (alloc_ext w7 (.cells #[.slice A7 x2.length c7] 45))) hx8) (alloc_ext w8 (.cells #[.int .i64 ((evT d0 d1 x2).getD (0, [])).1, .slice A8 ((evT d0 d1 x2).getD (0, [])).2.length c8] 58))) hx9) (drew_ext w9)) hx10) hx11) (drew_ext w11)) hx12)) s1 (sQ_v _ _ _ hS12)).mono ?_; rintro e w13 ⟨rfl, hx13⟩))
  have B13_0 : BoxAt w13 (w.heap.size) #[.slice A0 d0.length c0] := B11_0.toExt (trans_ext (trans_ext (drew_ext w11) hx12) hx13)
  have B13_1 : BoxAt w13 (w.heap.size + 1) #[.int .i64 d1.1, .slice A1 d1.2.1.length c1, .slice B1 d1.2.2.length e1] := B11_1.toExt (trans_ext (trans_ext (drew_ext w11) hx12) hx13)
  have B13_2 : BoxAt w13 (w.heap.size + 1 + 1) #[.slice A2 x2.length c2] := B11_2.toExt (trans_ext (trans_ext (drew_ext w11) hx12) hx13)
  have B13_3 : BoxAt w13 (bb4) #[.int .i64 ((evT d0 d1 x2).getD (0, [])).1, .slice A4 ((evT d0 d1 x2).getD (0, [])).2.length c4] := B11_3.toExt (trans_ext (trans_ext (drew_ext w11) hx12) hx13)
  have B13_4 : BoxAt w13 (w5.heap.size) #[.slice A5 d0.length c5] := B11_4.toExt (trans_ext (trans_ext (drew_ext w11) hx12) hx13)
  have B13_5 : BoxAt w13 (w6.heap.size) #[.int .i64 d1.1, .slice A6 d1.2.1.length c6, .slice B6 d1.2.2.length e6] := B11_5.toExt (trans_ext (trans_ext (drew_ext w11) hx12) hx13)
  have B13_6 : BoxAt w13 (w7.heap.size) #[.slice A7 x2.length c7] := B11_6.toExt (trans_ext (trans_ext (drew_ext w11) hx12) hx13)
  have B13_7 : BoxAt w13 (w8.heap.size) #[.int .i64 ((evT d0 d1 x2).getD (0, [])).1, .slice A8 ((evT d0 d1 x2).getD (0, [])).2.length c8] := B11_7.toExt (trans_ext (trans_ext (drew_ext w11) hx12) hx13)
  have lB13_0 := B13_0.1
  have bB13_0 := B13_0.2.1
  have lB13_1 := B13_1.1
  have bB13_1 := B13_1.2.1
  have lB13_2 := B13_2.1
  have bB13_2 := B13_2.2.1
  have lB13_3 := B13_3.1
  have bB13_3 := B13_3.2.1
  have lB13_4 := B13_4.1
  have bB13_4 := B13_4.2.1
  have lB13_5 := B13_5.1
  have bB13_5 := B13_5.2.1
  have lB13_6 := B13_6.1
  have bB13_6 := B13_6.2.1
  have lB13_7 := B13_7.1
  have bB13_7 := B13_7.2.1
  clear lB11_0 bB11_0 lB11_1 bB11_1 lB11_2 bB11_2 lB11_3 bB11_3 lB11_4 bB11_4 lB11_5 bB11_5 lB11_6 bB11_6 lB11_7 bB11_7
  go_wp2_with fail
  go_region_held3 (fun w' => (∀ a : Addr, a.block < w13.heap.size → w'.cell? a = w13.cell? a) ∧ ∃ y, w' = ext w13 y) (first | exact heldE (drew_ext w13) | exact heldE (trans_ext (drew_ext w13) hx14) | exact heldE (trans_ext (trans_ext (drew_ext w13) hx14) hx15)) (first | (go_at_call_of 11 (A2); refine (toJoinForest_any s2 (r2.toExt (trans_ext (trans_ext (trans_ext (trans_ext (trans_ext (trans_ext (trans_ext (trans_ext (trans_ext (trans_ext (trans_ext (trans_ext (trans_ext (trans_ext (trans_ext (trans_ext (trans_ext (trans_ext (trans_ext (trans_ext (trans_ext (trans_ext (alloc_ext w (.cells #[.slice A0 d0.length c0] 24)) (alloc_ext (w.alloc (.cells #[.slice A0 d0.length c0] 24)) (.cells #[.int .i64 d1.1, .slice A1 d1.2.1.length c1, .slice B1 d1.2.2.length e1] 28))) (alloc_ext ((w.alloc (.cells #[.slice A0 d0.length c0] 24)).alloc (.cells #[.int .i64 d1.1, .slice A1 d1.2.1.length c1, .slice B1 d1.2.2.length e1] 28)) (.cells #[.slice A2 x2.length c2] 30))) hx1) hx2) hx3) hx4) hx5) (alloc_ext w5 (.cells #[.slice A5 d0.length c5] 39))) hx6) (alloc_ext w6 (.cells #[.int .i64 d1.1, .slice A6 d1.2.1.length c6, .slice B6 d1.2.2.length e6] 43))) hx7) (alloc_ext w7 (.cells #[.slice A7 x2.length c7] 45))) hx8) (alloc_ext w8 (.cells #[.int .i64 ((evT d0 d1 x2).getD (0, [])).1, .slice A8 ((evT d0 d1 x2).getD (0, [])).2.length c8] 58))) hx9) (drew_ext w9)) hx10) hx11) (drew_ext w11)) hx12) hx13) (drew_ext w13)))).mono ?_; rintro e w14 ⟨v14, F14, rfl, hx14, hS14, hF14⟩; obtain ⟨A14, c14, rfl, _, _, r14⟩ := hS14.view sI_v) | (go_at_call 16; refine (eqJoinForest_any (by omega) (r7.toExt (trans_ext (trans_ext (trans_ext (trans_ext (trans_ext (trans_ext (trans_ext (trans_ext (trans_ext (trans_ext (trans_ext (alloc_ext w7 (.cells #[.slice A7 x2.length c7] 45)) hx8) (alloc_ext w8 (.cells #[.int .i64 ((evT d0 d1 x2).getD (0, [])).1, .slice A8 ((evT d0 d1 x2).getD (0, [])).2.length c8] 58))) hx9) (drew_ext w9)) hx10) hx11) (drew_ext w11)) hx12) hx13) (drew_ext w13)) hx14)) (by omega) r14).mono ?_; rintro e w15 ⟨rfl, hx15⟩))
  have B15_0 : BoxAt w15 (w.heap.size) #[.slice A0 d0.length c0] := B13_0.toExt (trans_ext (trans_ext (drew_ext w13) hx14) hx15)
  have B15_1 : BoxAt w15 (w.heap.size + 1) #[.int .i64 d1.1, .slice A1 d1.2.1.length c1, .slice B1 d1.2.2.length e1] := B13_1.toExt (trans_ext (trans_ext (drew_ext w13) hx14) hx15)
  have B15_2 : BoxAt w15 (w.heap.size + 1 + 1) #[.slice A2 x2.length c2] := B13_2.toExt (trans_ext (trans_ext (drew_ext w13) hx14) hx15)
  have B15_3 : BoxAt w15 (bb4) #[.int .i64 ((evT d0 d1 x2).getD (0, [])).1, .slice A4 ((evT d0 d1 x2).getD (0, [])).2.length c4] := B13_3.toExt (trans_ext (trans_ext (drew_ext w13) hx14) hx15)
  have B15_4 : BoxAt w15 (w5.heap.size) #[.slice A5 d0.length c5] := B13_4.toExt (trans_ext (trans_ext (drew_ext w13) hx14) hx15)
  have B15_5 : BoxAt w15 (w6.heap.size) #[.int .i64 d1.1, .slice A6 d1.2.1.length c6, .slice B6 d1.2.2.length e6] := B13_5.toExt (trans_ext (trans_ext (drew_ext w13) hx14) hx15)
  have B15_6 : BoxAt w15 (w7.heap.size) #[.slice A7 x2.length c7] := B13_6.toExt (trans_ext (trans_ext (drew_ext w13) hx14) hx15)
  have B15_7 : BoxAt w15 (w8.heap.size) #[.int .i64 ((evT d0 d1 x2).getD (0, [])).1, .slice A8 ((evT d0 d1 x2).getD (0, [])).2.length c8] := B13_7.toExt (trans_ext (trans_ext (drew_ext w13) hx14) hx15)
  have lB15_0 := B15_0.1
  have bB15_0 := B15_0.2.1
  have lB15_1 := B15_1.1
  have bB15_1 := B15_1.2.1
  have lB15_2 := B15_2.1
  have bB15_2 := B15_2.2.1
  have lB15_3 := B15_3.1
  have bB15_3 := B15_3.2.1
  have lB15_4 := B15_4.1
  have bB15_4 := B15_4.2.1
  have lB15_5 := B15_5.1
  have bB15_5 := B15_5.2.1
  have lB15_6 := B15_6.1
  have bB15_6 := B15_6.2.1
  have lB15_7 := B15_7.1
  have bB15_7 := B15_7.2.1
  clear lB13_0 bB13_0 lB13_1 bB13_1 lB13_2 bB13_2 lB13_3 bB13_3 lB13_4 bB13_4 lB13_5 bB13_5 lB13_6 bB13_6 lB13_7 bB13_7
  go_wp2_with fail
  refine (markDatabase_d s0 (OD.toExt (OD.toExt (OD.toExt (OD.toExt (OD.toExt (OD.toExt (OD.toExt (OD.toExt (OD.toExt (OD.toExt (OD.toExt (OD.toExt (OD.toExt (OD.toExt (OD.toExt (OD.toExt (OD.toExt hS5 (alloc_ext w5 (.cells #[.slice A5 d0.length c5] 39))) hx6) (alloc_ext w6 (.cells #[.int .i64 d1.1, .slice A6 d1.2.1.length c6, .slice B6 d1.2.2.length e6] 43))) hx7) (alloc_ext w7 (.cells #[.slice A7 x2.length c7] 45))) hx8) (alloc_ext w8 (.cells #[.int .i64 ((evT d0 d1 x2).getD (0, [])).1, .slice A8 ((evT d0 d1 x2).getD (0, [])).2.length c8] 58))) hx9) (drew_ext w9)) hx10) hx11) (drew_ext w11)) hx12) hx13) (drew_ext w13)) hx14) hx15) hN5 (by omega) (by omega)).mono ?_
  rintro e w16 ⟨kk16, rfl, HK16, kl16, ku16, hS16, hC16⟩
  have B16_0 : BoxAt w16 (w.heap.size) #[.slice A0 d0.length c0] := (B15_0.chg hC16 (fun hb => by have h1 := hF5 _ hb; have h2 := size_of_ext (trans_ext (trans_ext hx2 hx3) hx4); have h3 := B1_0.1; omega))
  have B16_1 : BoxAt w16 (w.heap.size + 1) #[.int .i64 d1.1, .slice A1 d1.2.1.length c1, .slice B1 d1.2.2.length e1] := (B15_1.chg hC16 (fun hb => by have h1 := hF5 _ hb; have h2 := size_of_ext (trans_ext (trans_ext hx2 hx3) hx4); have h3 := B1_1.1; omega))
  have B16_2 : BoxAt w16 (w.heap.size + 1 + 1) #[.slice A2 x2.length c2] := (B15_2.chg hC16 (fun hb => by have h1 := hF5 _ hb; have h2 := size_of_ext (trans_ext (trans_ext hx2 hx3) hx4); have h3 := B1_2.1; omega))
  have B16_3 : BoxAt w16 (bb4) #[.int .i64 ((evT d0 d1 x2).getD (0, [])).1, .slice A4 ((evT d0 d1 x2).getD (0, [])).2.length c4] := (B15_3.chg hC16 (fun hb => by have h1 := hF5 _ hb; have h2 := size_of_ext (refl_ext w4); have h3 := B4_3.1; omega))
  have B16_4 : BoxAt w16 (w5.heap.size) #[.slice A5 d0.length c5] := (B15_4.chg hC16 (fun hb => by have h1 := (SMono.lt hS5) _ hb; have h2 := size_of_ext (refl_ext w5); omega))
  have B16_5 : BoxAt w16 (w6.heap.size) #[.int .i64 d1.1, .slice A6 d1.2.1.length c6, .slice B6 d1.2.2.length e6] := (B15_5.chg hC16 (fun hb => by have h1 := (SMono.lt hS5) _ hb; have h2 := size_of_ext (trans_ext (alloc_ext w5 (.cells #[.slice A5 d0.length c5] 39)) hx6); omega))
  have B16_6 : BoxAt w16 (w7.heap.size) #[.slice A7 x2.length c7] := (B15_6.chg hC16 (fun hb => by have h1 := (SMono.lt hS5) _ hb; have h2 := size_of_ext (trans_ext (trans_ext (trans_ext (alloc_ext w5 (.cells #[.slice A5 d0.length c5] 39)) hx6) (alloc_ext w6 (.cells #[.int .i64 d1.1, .slice A6 d1.2.1.length c6, .slice B6 d1.2.2.length e6] 43))) hx7); omega))
  have B16_7 : BoxAt w16 (w8.heap.size) #[.int .i64 ((evT d0 d1 x2).getD (0, [])).1, .slice A8 ((evT d0 d1 x2).getD (0, [])).2.length c8] := (B15_7.chg hC16 (fun hb => by have h1 := (SMono.lt hS5) _ hb; have h2 := size_of_ext (trans_ext (trans_ext (trans_ext (trans_ext (trans_ext (alloc_ext w5 (.cells #[.slice A5 d0.length c5] 39)) hx6) (alloc_ext w6 (.cells #[.int .i64 d1.1, .slice A6 d1.2.1.length c6, .slice B6 d1.2.2.length e6] 43))) hx7) (alloc_ext w7 (.cells #[.slice A7 x2.length c7] 45))) hx8); omega))
  have lB16_0 := B16_0.1
  have bB16_0 := B16_0.2.1
  have lB16_1 := B16_1.1
  have bB16_1 := B16_1.2.1
  have lB16_2 := B16_2.1
  have bB16_2 := B16_2.2.1
  have lB16_3 := B16_3.1
  have bB16_3 := B16_3.2.1
  have lB16_4 := B16_4.1
  have bB16_4 := B16_4.2.1
  have lB16_5 := B16_5.1
  have bB16_5 := B16_5.2.1
  have lB16_6 := B16_6.1
  have bB16_6 := B16_6.2.1
  have lB16_7 := B16_7.1
  have bB16_7 := B16_7.2.1
  clear lB15_0 bB15_0 lB15_1 bB15_1 lB15_2 bB15_2 lB15_3 bB15_3 lB15_4 bB15_4 lB15_5 bB15_5 lB15_6 bB15_6 lB15_7 bB15_7
  go_wp2_with fail
  refine (markQuery_d s1 (OD.chg (OD.toExt (OD.toExt (OD.toExt (OD.toExt (OD.toExt (OD.toExt (OD.toExt (OD.toExt (OD.toExt (OD.toExt (OD.toExt (OD.toExt (OD.toExt (OD.toExt (OD.toExt hS6 (alloc_ext w6 (.cells #[.int .i64 d1.1, .slice A6 d1.2.1.length c6, .slice B6 d1.2.2.length e6] 43))) hx7) (alloc_ext w7 (.cells #[.slice A7 x2.length c7] 45))) hx8) (alloc_ext w8 (.cells #[.int .i64 ((evT d0 d1 x2).getD (0, [])).1, .slice A8 ((evT d0 d1 x2).getD (0, [])).2.length c8] 58))) hx9) (drew_ext w9)) hx10) hx11) (drew_ext w11)) hx12) hx13) (drew_ext w13)) hx14) hx15) hC16 (fun x ha hb => by have h1 := hF6 x ha; have h2 := (SMono.lt hS5) x hb; have h3 := size_of_ext (alloc_ext w5 (.cells #[.slice A5 d0.length c5] 39)); omega)) hN6 (by omega) (by omega)).mono ?_
  rintro e w17 ⟨kk17, rfl, HK17, kl17, ku17, hS17, hC17⟩
  have B17_0 : BoxAt w17 (w.heap.size) #[.slice A0 d0.length c0] := (B16_0.chg hC17 (fun hb => by have h1 := hF6 _ hb; have h2 := size_of_ext (trans_ext (trans_ext (trans_ext (trans_ext hx2 hx3) hx4) hx5) (alloc_ext w5 (.cells #[.slice A5 d0.length c5] 39))); have h3 := B1_0.1; omega))
  have B17_1 : BoxAt w17 (w.heap.size + 1) #[.int .i64 d1.1, .slice A1 d1.2.1.length c1, .slice B1 d1.2.2.length e1] := (B16_1.chg hC17 (fun hb => by have h1 := hF6 _ hb; have h2 := size_of_ext (trans_ext (trans_ext (trans_ext (trans_ext hx2 hx3) hx4) hx5) (alloc_ext w5 (.cells #[.slice A5 d0.length c5] 39))); have h3 := B1_1.1; omega))
  have B17_2 : BoxAt w17 (w.heap.size + 1 + 1) #[.slice A2 x2.length c2] := (B16_2.chg hC17 (fun hb => by have h1 := hF6 _ hb; have h2 := size_of_ext (trans_ext (trans_ext (trans_ext (trans_ext hx2 hx3) hx4) hx5) (alloc_ext w5 (.cells #[.slice A5 d0.length c5] 39))); have h3 := B1_2.1; omega))
  have B17_3 : BoxAt w17 (bb4) #[.int .i64 ((evT d0 d1 x2).getD (0, [])).1, .slice A4 ((evT d0 d1 x2).getD (0, [])).2.length c4] := (B16_3.chg hC17 (fun hb => by have h1 := hF6 _ hb; have h2 := size_of_ext (trans_ext hx5 (alloc_ext w5 (.cells #[.slice A5 d0.length c5] 39))); have h3 := B4_3.1; omega))
  have B17_4 : BoxAt w17 (w5.heap.size) #[.slice A5 d0.length c5] := (B16_4.chg hC17 (fun hb => by have h1 := hF6 _ hb; have h2 := (BoxAt.new w5 #[.slice A5 d0.length c5] 39).1; omega))
  have B17_5 : BoxAt w17 (w6.heap.size) #[.int .i64 d1.1, .slice A6 d1.2.1.length c6, .slice B6 d1.2.2.length e6] := (B16_5.chg hC17 (fun hb => by have h1 := (SMono.lt hS6) _ hb; have h2 := size_of_ext (refl_ext w6); omega))
  have B17_6 : BoxAt w17 (w7.heap.size) #[.slice A7 x2.length c7] := (B16_6.chg hC17 (fun hb => by have h1 := (SMono.lt hS6) _ hb; have h2 := size_of_ext (trans_ext (alloc_ext w6 (.cells #[.int .i64 d1.1, .slice A6 d1.2.1.length c6, .slice B6 d1.2.2.length e6] 43)) hx7); omega))
  have B17_7 : BoxAt w17 (w8.heap.size) #[.int .i64 ((evT d0 d1 x2).getD (0, [])).1, .slice A8 ((evT d0 d1 x2).getD (0, [])).2.length c8] := (B16_7.chg hC17 (fun hb => by have h1 := (SMono.lt hS6) _ hb; have h2 := size_of_ext (trans_ext (trans_ext (trans_ext (alloc_ext w6 (.cells #[.int .i64 d1.1, .slice A6 d1.2.1.length c6, .slice B6 d1.2.2.length e6] 43)) hx7) (alloc_ext w7 (.cells #[.slice A7 x2.length c7] 45))) hx8); omega))
  have lB17_0 := B17_0.1
  have bB17_0 := B17_0.2.1
  have lB17_1 := B17_1.1
  have bB17_1 := B17_1.2.1
  have lB17_2 := B17_2.1
  have bB17_2 := B17_2.2.1
  have lB17_3 := B17_3.1
  have bB17_3 := B17_3.2.1
  have lB17_4 := B17_4.1
  have bB17_4 := B17_4.2.1
  have lB17_5 := B17_5.1
  have bB17_5 := B17_5.2.1
  have lB17_6 := B17_6.1
  have bB17_6 := B17_6.2.1
  have lB17_7 := B17_7.1
  have bB17_7 := B17_7.2.1
  clear lB16_0 bB16_0 lB16_1 bB16_1 lB16_2 bB16_2 lB16_3 bB16_3 lB16_4 bB16_4 lB16_5 bB16_5 lB16_6 bB16_6 lB16_7 bB16_7
  go_wp2_with fail
  refine (markJoinForest_any (by omega) (((((((((((((((hS7.toExt (alloc_ext w7 (.cells #[.slice A7 x2.length c7] 45))).toExt hx8).toExt (alloc_ext w8 (.cells #[.int .i64 ((evT d0 d1 x2).getD (0, [])).1, .slice A8 ((evT d0 d1 x2).getD (0, [])).2.length c8] 58))).toExt hx9).toExt (drew_ext w9)).toExt hx10).toExt hx11).toExt (drew_ext w11)).toExt hx12).toExt hx13).toExt (drew_ext w13)).toExt hx14).toExt hx15).chg hC16 (fun x ha hb => by have h1 := hF7 x ha; have h2 := (SMono.lt hS5) x hb; have h3 := size_of_ext (trans_ext (trans_ext (alloc_ext w5 (.cells #[.slice A5 d0.length c5] 39)) hx6) (alloc_ext w6 (.cells #[.int .i64 d1.1, .slice A6 d1.2.1.length c6, .slice B6 d1.2.2.length e6] 43))); omega)).chg hC17 (fun x ha hb => by have h1 := hF7 x ha; have h2 := (SMono.lt hS6) x hb; have h3 := size_of_ext (alloc_ext w6 (.cells #[.int .i64 d1.1, .slice A6 d1.2.1.length c6, .slice B6 d1.2.2.length e6] 43)); omega)) (by omega) (by omega)).mono ?_
  rintro e w18 ⟨rfl, hS18, hC18⟩
  have B18_0 : BoxAt w18 (w.heap.size) #[.slice A0 d0.length c0] := (B17_0.chg hC18 (fun hb => by have h1 := hF7 _ hb; have h2 := size_of_ext (trans_ext (trans_ext (trans_ext (trans_ext (trans_ext (trans_ext hx2 hx3) hx4) hx5) (alloc_ext w5 (.cells #[.slice A5 d0.length c5] 39))) hx6) (alloc_ext w6 (.cells #[.int .i64 d1.1, .slice A6 d1.2.1.length c6, .slice B6 d1.2.2.length e6] 43))); have h3 := B1_0.1; omega))
  have B18_1 : BoxAt w18 (w.heap.size + 1) #[.int .i64 d1.1, .slice A1 d1.2.1.length c1, .slice B1 d1.2.2.length e1] := (B17_1.chg hC18 (fun hb => by have h1 := hF7 _ hb; have h2 := size_of_ext (trans_ext (trans_ext (trans_ext (trans_ext (trans_ext (trans_ext hx2 hx3) hx4) hx5) (alloc_ext w5 (.cells #[.slice A5 d0.length c5] 39))) hx6) (alloc_ext w6 (.cells #[.int .i64 d1.1, .slice A6 d1.2.1.length c6, .slice B6 d1.2.2.length e6] 43))); have h3 := B1_1.1; omega))
  have B18_2 : BoxAt w18 (w.heap.size + 1 + 1) #[.slice A2 x2.length c2] := (B17_2.chg hC18 (fun hb => by have h1 := hF7 _ hb; have h2 := size_of_ext (trans_ext (trans_ext (trans_ext (trans_ext (trans_ext (trans_ext hx2 hx3) hx4) hx5) (alloc_ext w5 (.cells #[.slice A5 d0.length c5] 39))) hx6) (alloc_ext w6 (.cells #[.int .i64 d1.1, .slice A6 d1.2.1.length c6, .slice B6 d1.2.2.length e6] 43))); have h3 := B1_2.1; omega))
  have B18_3 : BoxAt w18 (bb4) #[.int .i64 ((evT d0 d1 x2).getD (0, [])).1, .slice A4 ((evT d0 d1 x2).getD (0, [])).2.length c4] := (B17_3.chg hC18 (fun hb => by have h1 := hF7 _ hb; have h2 := size_of_ext (trans_ext (trans_ext (trans_ext hx5 (alloc_ext w5 (.cells #[.slice A5 d0.length c5] 39))) hx6) (alloc_ext w6 (.cells #[.int .i64 d1.1, .slice A6 d1.2.1.length c6, .slice B6 d1.2.2.length e6] 43))); have h3 := B4_3.1; omega))
  have B18_4 : BoxAt w18 (w5.heap.size) #[.slice A5 d0.length c5] := (B17_4.chg hC18 (fun hb => by have h1 := hF7 _ hb; have h2 := size_of_ext (alloc_ext w6 (.cells #[.int .i64 d1.1, .slice A6 d1.2.1.length c6, .slice B6 d1.2.2.length e6] 43)); have h3 := B6_4.1; omega))
  have B18_5 : BoxAt w18 (w6.heap.size) #[.int .i64 d1.1, .slice A6 d1.2.1.length c6, .slice B6 d1.2.2.length e6] := (B17_5.chg hC18 (fun hb => by have h1 := hF7 _ hb; have h2 := (BoxAt.new w6 #[.int .i64 d1.1, .slice A6 d1.2.1.length c6, .slice B6 d1.2.2.length e6] 43).1; omega))
  have B18_6 : BoxAt w18 (w7.heap.size) #[.slice A7 x2.length c7] := (B17_6.chg hC18 (fun hb => by have h1 := hS7.lt _ hb; have h2 := size_of_ext (refl_ext w7); omega))
  have B18_7 : BoxAt w18 (w8.heap.size) #[.int .i64 ((evT d0 d1 x2).getD (0, [])).1, .slice A8 ((evT d0 d1 x2).getD (0, [])).2.length c8] := (B17_7.chg hC18 (fun hb => by have h1 := hS7.lt _ hb; have h2 := size_of_ext (trans_ext (alloc_ext w7 (.cells #[.slice A7 x2.length c7] 45)) hx8); omega))
  have lB18_0 := B18_0.1
  have bB18_0 := B18_0.2.1
  have lB18_1 := B18_1.1
  have bB18_1 := B18_1.2.1
  have lB18_2 := B18_2.1
  have bB18_2 := B18_2.2.1
  have lB18_3 := B18_3.1
  have bB18_3 := B18_3.2.1
  have lB18_4 := B18_4.1
  have bB18_4 := B18_4.2.1
  have lB18_5 := B18_5.1
  have bB18_5 := B18_5.2.1
  have lB18_6 := B18_6.1
  have bB18_6 := B18_6.2.1
  have lB18_7 := B18_7.1
  have bB18_7 := B18_7.2.1
  clear lB17_0 bB17_0 lB17_1 bB17_1 lB17_2 bB17_2 lB17_3 bB17_3 lB17_4 bB17_4 lB17_5 bB17_5 lB17_6 bB17_6 lB17_7 bB17_7
  go_wp2_with fail
  refine (eqRelation_d hb9 (sRel_v _ _ _ (OD.chg (OD.chg (OD.chg (OD.toExt (OD.toExt (OD.toExt (OD.toExt (OD.toExt (OD.toExt (OD.toExt (OD.toExt (OD.toExt (OD.toExt (OD.toExt hS8 (alloc_ext w8 (.cells #[.int .i64 ((evT d0 d1 x2).getD (0, [])).1, .slice A8 ((evT d0 d1 x2).getD (0, [])).2.length c8] 58))) hx9) (drew_ext w9)) hx10) hx11) (drew_ext w11)) hx12) hx13) (drew_ext w13)) hx14) hx15) hC16 (fun x ha hb => by have h1 := hF8 x ha; have h2 := (SMono.lt hS5) x hb; have h3 := size_of_ext (trans_ext (trans_ext (trans_ext (trans_ext (alloc_ext w5 (.cells #[.slice A5 d0.length c5] 39)) hx6) (alloc_ext w6 (.cells #[.int .i64 d1.1, .slice A6 d1.2.1.length c6, .slice B6 d1.2.2.length e6] 43))) hx7) (alloc_ext w7 (.cells #[.slice A7 x2.length c7] 45))); omega)) hC17 (fun x ha hb => by have h1 := hF8 x ha; have h2 := (SMono.lt hS6) x hb; have h3 := size_of_ext (trans_ext (trans_ext (alloc_ext w6 (.cells #[.int .i64 d1.1, .slice A6 d1.2.1.length c6, .slice B6 d1.2.2.length e6] 43)) hx7) (alloc_ext w7 (.cells #[.slice A7 x2.length c7] 45))); omega)) hC18 (fun x ha hb => by have h1 := hF8 x ha; have h2 := hS7.lt x hb; have h3 := size_of_ext (alloc_ext w7 (.cells #[.slice A7 x2.length c7] 45)); omega))) hb9 (sRel_v _ _ _ (OD.chg (OD.chg (OD.chg (OD.toExt (OD.toExt (OD.toExt (OD.toExt (OD.toExt (OD.toExt (OD.toExt (OD.toExt (OD.toExt (OD.toExt (OD.toExt (OD.toExt (OD.toExt (OD.toExt (OD.toExt (OD.toExt (OD.toExt (OD.toExt hS4 hx5) (alloc_ext w5 (.cells #[.slice A5 d0.length c5] 39))) hx6) (alloc_ext w6 (.cells #[.int .i64 d1.1, .slice A6 d1.2.1.length c6, .slice B6 d1.2.2.length e6] 43))) hx7) (alloc_ext w7 (.cells #[.slice A7 x2.length c7] 45))) hx8) (alloc_ext w8 (.cells #[.int .i64 ((evT d0 d1 x2).getD (0, [])).1, .slice A8 ((evT d0 d1 x2).getD (0, [])).2.length c8] 58))) hx9) (drew_ext w9)) hx10) hx11) (drew_ext w11)) hx12) hx13) (drew_ext w13)) hx14) hx15) hC16 (fun x ha hb => by have h1 := hF5 x hb; have h2 := (SMono.lt hS4) x ha; have h3 := size_of_ext (refl_ext w4); omega)) hC17 (fun x ha hb => by have h1 := hF6 x hb; have h2 := (SMono.lt hS4) x ha; have h3 := size_of_ext (trans_ext hx5 (alloc_ext w5 (.cells #[.slice A5 d0.length c5] 39))); omega)) hC18 (fun x ha hb => by have h1 := hF7 x hb; have h2 := (SMono.lt hS4) x ha; have h3 := size_of_ext (trans_ext (trans_ext (trans_ext hx5 (alloc_ext w5 (.cells #[.slice A5 d0.length c5] 39))) hx6) (alloc_ext w6 (.cells #[.int .i64 d1.1, .slice A6 d1.2.1.length c6, .slice B6 d1.2.2.length e6] 43))); omega)))).mono ?_
  rintro e w19 ⟨rfl, hx19⟩
  have B19_0 : BoxAt w19 (w.heap.size) #[.slice A0 d0.length c0] := (B18_0.toExt hx19)
  have B19_1 : BoxAt w19 (w.heap.size + 1) #[.int .i64 d1.1, .slice A1 d1.2.1.length c1, .slice B1 d1.2.2.length e1] := (B18_1.toExt hx19)
  have B19_2 : BoxAt w19 (w.heap.size + 1 + 1) #[.slice A2 x2.length c2] := (B18_2.toExt hx19)
  have B19_3 : BoxAt w19 (bb4) #[.int .i64 ((evT d0 d1 x2).getD (0, [])).1, .slice A4 ((evT d0 d1 x2).getD (0, [])).2.length c4] := (B18_3.toExt hx19)
  have B19_4 : BoxAt w19 (w5.heap.size) #[.slice A5 d0.length c5] := (B18_4.toExt hx19)
  have B19_5 : BoxAt w19 (w6.heap.size) #[.int .i64 d1.1, .slice A6 d1.2.1.length c6, .slice B6 d1.2.2.length e6] := (B18_5.toExt hx19)
  have B19_6 : BoxAt w19 (w7.heap.size) #[.slice A7 x2.length c7] := (B18_6.toExt hx19)
  have B19_7 : BoxAt w19 (w8.heap.size) #[.int .i64 ((evT d0 d1 x2).getD (0, [])).1, .slice A8 ((evT d0 d1 x2).getD (0, [])).2.length c8] := (B18_7.toExt hx19)
  have lB19_0 := B19_0.1
  have bB19_0 := B19_0.2.1
  have lB19_1 := B19_1.1
  have bB19_1 := B19_1.2.1
  have lB19_2 := B19_2.1
  have bB19_2 := B19_2.2.1
  have lB19_3 := B19_3.1
  have bB19_3 := B19_3.2.1
  have lB19_4 := B19_4.1
  have bB19_4 := B19_4.2.1
  have lB19_5 := B19_5.1
  have bB19_5 := B19_5.2.1
  have lB19_6 := B19_6.1
  have bB19_6 := B19_6.2.1
  have lB19_7 := B19_7.1
  have bB19_7 := B19_7.2.1
  clear lB18_0 bB18_0 lB18_1 bB18_1 lB18_2 bB18_2 lB18_3 bB18_3 lB18_4 bB18_4 lB18_5 bB18_5 lB18_6 bB18_6 lB18_7 bB18_7
  go_wp2_with fail
  refine (markRelation_d hb9 (OD.toExt (OD.chg (OD.chg (OD.chg (OD.toExt (OD.toExt (OD.toExt (OD.toExt (OD.toExt (OD.toExt (OD.toExt (OD.toExt (OD.toExt (OD.toExt (OD.toExt hS8 (alloc_ext w8 (.cells #[.int .i64 ((evT d0 d1 x2).getD (0, [])).1, .slice A8 ((evT d0 d1 x2).getD (0, [])).2.length c8] 58))) hx9) (drew_ext w9)) hx10) hx11) (drew_ext w11)) hx12) hx13) (drew_ext w13)) hx14) hx15) hC16 (fun x ha hb => by have h1 := hF8 x ha; have h2 := (SMono.lt hS5) x hb; have h3 := size_of_ext (trans_ext (trans_ext (trans_ext (trans_ext (alloc_ext w5 (.cells #[.slice A5 d0.length c5] 39)) hx6) (alloc_ext w6 (.cells #[.int .i64 d1.1, .slice A6 d1.2.1.length c6, .slice B6 d1.2.2.length e6] 43))) hx7) (alloc_ext w7 (.cells #[.slice A7 x2.length c7] 45))); omega)) hC17 (fun x ha hb => by have h1 := hF8 x ha; have h2 := (SMono.lt hS6) x hb; have h3 := size_of_ext (trans_ext (trans_ext (alloc_ext w6 (.cells #[.int .i64 d1.1, .slice A6 d1.2.1.length c6, .slice B6 d1.2.2.length e6] 43)) hx7) (alloc_ext w7 (.cells #[.slice A7 x2.length c7] 45))); omega)) hC18 (fun x ha hb => by have h1 := hF8 x ha; have h2 := hS7.lt x hb; have h3 := size_of_ext (alloc_ext w7 (.cells #[.slice A7 x2.length c7] 45)); omega)) hx19) hN8 (by omega) (by omega)).mono ?_
  rintro e w20 ⟨kk20, rfl, HK20, kl20, ku20, hS20, hC20⟩
  have B20_0 : BoxAt w20 (w.heap.size) #[.slice A0 d0.length c0] := (B19_0.chg hC20 (fun hb => by have h1 := hF8 _ hb; have h2 := size_of_ext (trans_ext (trans_ext (trans_ext (trans_ext (trans_ext (trans_ext (trans_ext (trans_ext hx2 hx3) hx4) hx5) (alloc_ext w5 (.cells #[.slice A5 d0.length c5] 39))) hx6) (alloc_ext w6 (.cells #[.int .i64 d1.1, .slice A6 d1.2.1.length c6, .slice B6 d1.2.2.length e6] 43))) hx7) (alloc_ext w7 (.cells #[.slice A7 x2.length c7] 45))); have h3 := B1_0.1; omega))
  have B20_1 : BoxAt w20 (w.heap.size + 1) #[.int .i64 d1.1, .slice A1 d1.2.1.length c1, .slice B1 d1.2.2.length e1] := (B19_1.chg hC20 (fun hb => by have h1 := hF8 _ hb; have h2 := size_of_ext (trans_ext (trans_ext (trans_ext (trans_ext (trans_ext (trans_ext (trans_ext (trans_ext hx2 hx3) hx4) hx5) (alloc_ext w5 (.cells #[.slice A5 d0.length c5] 39))) hx6) (alloc_ext w6 (.cells #[.int .i64 d1.1, .slice A6 d1.2.1.length c6, .slice B6 d1.2.2.length e6] 43))) hx7) (alloc_ext w7 (.cells #[.slice A7 x2.length c7] 45))); have h3 := B1_1.1; omega))
  have B20_2 : BoxAt w20 (w.heap.size + 1 + 1) #[.slice A2 x2.length c2] := (B19_2.chg hC20 (fun hb => by have h1 := hF8 _ hb; have h2 := size_of_ext (trans_ext (trans_ext (trans_ext (trans_ext (trans_ext (trans_ext (trans_ext (trans_ext hx2 hx3) hx4) hx5) (alloc_ext w5 (.cells #[.slice A5 d0.length c5] 39))) hx6) (alloc_ext w6 (.cells #[.int .i64 d1.1, .slice A6 d1.2.1.length c6, .slice B6 d1.2.2.length e6] 43))) hx7) (alloc_ext w7 (.cells #[.slice A7 x2.length c7] 45))); have h3 := B1_2.1; omega))
  have B20_3 : BoxAt w20 (bb4) #[.int .i64 ((evT d0 d1 x2).getD (0, [])).1, .slice A4 ((evT d0 d1 x2).getD (0, [])).2.length c4] := (B19_3.chg hC20 (fun hb => by have h1 := hF8 _ hb; have h2 := size_of_ext (trans_ext (trans_ext (trans_ext (trans_ext (trans_ext hx5 (alloc_ext w5 (.cells #[.slice A5 d0.length c5] 39))) hx6) (alloc_ext w6 (.cells #[.int .i64 d1.1, .slice A6 d1.2.1.length c6, .slice B6 d1.2.2.length e6] 43))) hx7) (alloc_ext w7 (.cells #[.slice A7 x2.length c7] 45))); have h3 := B4_3.1; omega))
  have B20_4 : BoxAt w20 (w5.heap.size) #[.slice A5 d0.length c5] := (B19_4.chg hC20 (fun hb => by have h1 := hF8 _ hb; have h2 := size_of_ext (trans_ext (trans_ext (alloc_ext w6 (.cells #[.int .i64 d1.1, .slice A6 d1.2.1.length c6, .slice B6 d1.2.2.length e6] 43)) hx7) (alloc_ext w7 (.cells #[.slice A7 x2.length c7] 45))); have h3 := B6_4.1; omega))
  have B20_5 : BoxAt w20 (w6.heap.size) #[.int .i64 d1.1, .slice A6 d1.2.1.length c6, .slice B6 d1.2.2.length e6] := (B19_5.chg hC20 (fun hb => by have h1 := hF8 _ hb; have h2 := size_of_ext (alloc_ext w7 (.cells #[.slice A7 x2.length c7] 45)); have h3 := B7_5.1; omega))
  have B20_6 : BoxAt w20 (w7.heap.size) #[.slice A7 x2.length c7] := (B19_6.chg hC20 (fun hb => by have h1 := hF8 _ hb; have h2 := (BoxAt.new w7 #[.slice A7 x2.length c7] 45).1; omega))
  have B20_7 : BoxAt w20 (w8.heap.size) #[.int .i64 ((evT d0 d1 x2).getD (0, [])).1, .slice A8 ((evT d0 d1 x2).getD (0, [])).2.length c8] := (B19_7.chg hC20 (fun hb => by have h1 := (SMono.lt hS8) _ hb; have h2 := size_of_ext (refl_ext w8); omega))
  have lB20_0 := B20_0.1
  have bB20_0 := B20_0.2.1
  have lB20_1 := B20_1.1
  have bB20_1 := B20_1.2.1
  have lB20_2 := B20_2.1
  have bB20_2 := B20_2.2.1
  have lB20_3 := B20_3.1
  have bB20_3 := B20_3.2.1
  have lB20_4 := B20_4.1
  have bB20_4 := B20_4.2.1
  have lB20_5 := B20_5.1
  have bB20_5 := B20_5.2.1
  have lB20_6 := B20_6.1
  have bB20_6 := B20_6.2.1
  have lB20_7 := B20_7.1
  have bB20_7 := B20_7.2.1
  clear lB19_0 bB19_0 lB19_1 bB19_1 lB19_2 bB19_2 lB19_3 bB19_3 lB19_4 bB19_4 lB19_5 bB19_5 lB19_6 bB19_6 lB19_7 bB19_7
  go_wp2_with fail
  refine (heldRelation_d hb9 HK20 (sRel_v _ _ _ hS20) (by omega) (by omega)).mono ?_
  rintro e w21 ⟨rfl, hx21⟩
  have B21_0 : BoxAt w21 (w.heap.size) #[.slice A0 d0.length c0] := (B20_0.toExt hx21)
  have B21_1 : BoxAt w21 (w.heap.size + 1) #[.int .i64 d1.1, .slice A1 d1.2.1.length c1, .slice B1 d1.2.2.length e1] := (B20_1.toExt hx21)
  have B21_2 : BoxAt w21 (w.heap.size + 1 + 1) #[.slice A2 x2.length c2] := (B20_2.toExt hx21)
  have B21_3 : BoxAt w21 (bb4) #[.int .i64 ((evT d0 d1 x2).getD (0, [])).1, .slice A4 ((evT d0 d1 x2).getD (0, [])).2.length c4] := (B20_3.toExt hx21)
  have B21_4 : BoxAt w21 (w5.heap.size) #[.slice A5 d0.length c5] := (B20_4.toExt hx21)
  have B21_5 : BoxAt w21 (w6.heap.size) #[.int .i64 d1.1, .slice A6 d1.2.1.length c6, .slice B6 d1.2.2.length e6] := (B20_5.toExt hx21)
  have B21_6 : BoxAt w21 (w7.heap.size) #[.slice A7 x2.length c7] := (B20_6.toExt hx21)
  have B21_7 : BoxAt w21 (w8.heap.size) #[.int .i64 ((evT d0 d1 x2).getD (0, [])).1, .slice A8 ((evT d0 d1 x2).getD (0, [])).2.length c8] := (B20_7.toExt hx21)
  have lB21_0 := B21_0.1
  have bB21_0 := B21_0.2.1
  have lB21_1 := B21_1.1
  have bB21_1 := B21_1.2.1
  have lB21_2 := B21_2.1
  have bB21_2 := B21_2.2.1
  have lB21_3 := B21_3.1
  have bB21_3 := B21_3.2.1
  have lB21_4 := B21_4.1
  have bB21_4 := B21_4.2.1
  have lB21_5 := B21_5.1
  have bB21_5 := B21_5.2.1
  have lB21_6 := B21_6.1
  have bB21_6 := B21_6.2.1
  have lB21_7 := B21_7.1
  have bB21_7 := B21_7.2.1
  clear lB20_0 bB20_0 lB20_1 bB20_1 lB20_2 bB20_2 lB20_3 bB20_3 lB20_4 bB20_4 lB20_5 bB20_5 lB20_6 bB20_6 lB20_7 bB20_7
  go_wp2_with fail
  go_cut [18, 19] (fun vA vB wx => ∃ b A22 c22 F, vA = .pointer (some ⟨b, 0, none⟩) ∧ vB = .bool (evT d0 d1 x2).isSome ∧ BoxAt wx b #[.int .i64 ((evT d0 d1 x2).getD (0, [])).1, .slice A22 ((evT d0 d1 x2).getD (0, [])).2.length c22] ∧ sRel wx [.int .i64 ((evT d0 d1 x2).getD (0, [])).1, .slice A22 ((evT d0 d1 x2).getD (0, [])).2.length c22] (((evT d0 d1 x2).getD (0, []))) F ∧ F.Nodup ∧ (∀ x ∈ F, w21.heap.size ≤ x ∧ x ≠ b) ∧ w21.heap.size ≤ b ∧ ∃ y, wx = ext w21 y)
  case first =>
    go_region_held3 (fun w' => (∀ a : Addr, a.block < w21.heap.size → w'.cell? a = w21.cell? a) ∧ ∃ y, w' = ext w21 y) (first | exact heldE (by refine x'z ?_; repeat (with_reducible (first | exact x'a _ _ | exact x'b _ | exact x'c (by assumption) | refine x'd ?_ (by assumption) | refine x'e ?_ _ | refine x'f ?_ _ | refine x'g ?_ | refine x'h ?_ ?_ _ | refine x'i ?_ _ | refine x'j ?_ | refine x'k ?_ _ | refine x'l ?_ _ _ | refine x'm ?_ | assumption | (refine x'n ?_; omega) | omega)))) (first | (go_at_call_of 9 (A0); refine (toDatabase_d s0 (VD.toExt r0 (trans_ext (trans_ext (hC20.isExt (trans_ext (hC18.isExt (hC17.isExt (hC16.isExt (trans_ext (trans_ext (trans_ext (trans_ext (trans_ext (trans_ext (trans_ext (trans_ext (trans_ext (trans_ext (trans_ext (trans_ext (trans_ext (trans_ext (trans_ext (trans_ext (trans_ext (trans_ext (trans_ext (trans_ext (trans_ext (trans_ext (trans_ext (trans_ext (alloc_ext w (.cells #[.slice A0 d0.length c0] 24)) (alloc_ext (w.alloc (.cells #[.slice A0 d0.length c0] 24)) (.cells #[.int .i64 d1.1, .slice A1 d1.2.1.length c1, .slice B1 d1.2.2.length e1] 28))) (alloc_ext ((w.alloc (.cells #[.slice A0 d0.length c0] 24)).alloc (.cells #[.int .i64 d1.1, .slice A1 d1.2.1.length c1, .slice B1 d1.2.2.length e1] 28)) (.cells #[.slice A2 x2.length c2] 30))) hx1) hx2) hx3) hx4) hx5) (alloc_ext w5 (.cells #[.slice A5 d0.length c5] 39))) hx6) (alloc_ext w6 (.cells #[.int .i64 d1.1, .slice A6 d1.2.1.length c6, .slice B6 d1.2.2.length e6] 43))) hx7) (alloc_ext w7 (.cells #[.slice A7 x2.length c7] 45))) hx8) (alloc_ext w8 (.cells #[.int .i64 ((evT d0 d1 x2).getD (0, [])).1, .slice A8 ((evT d0 d1 x2).getD (0, [])).2.length c8] 58))) hx9) (drew_ext w9)) hx10) hx11) (drew_ext w11)) hx12) hx13) (drew_ext w13)) hx14) hx15) (fun b hb => Nat.le_trans (size_of_ext (trans_ext (trans_ext (trans_ext (trans_ext (trans_ext (trans_ext (alloc_ext w (.cells #[.slice A0 d0.length c0] 24)) (alloc_ext (w.alloc (.cells #[.slice A0 d0.length c0] 24)) (.cells #[.int .i64 d1.1, .slice A1 d1.2.1.length c1, .slice B1 d1.2.2.length e1] 28))) (alloc_ext ((w.alloc (.cells #[.slice A0 d0.length c0] 24)).alloc (.cells #[.int .i64 d1.1, .slice A1 d1.2.1.length c1, .slice B1 d1.2.2.length e1] 28)) (.cells #[.slice A2 x2.length c2] 30))) hx1) hx2) hx3) hx4)) (hF5 b hb))) (fun b hb => Nat.le_trans (size_of_ext (trans_ext (trans_ext (trans_ext (trans_ext (trans_ext (trans_ext (trans_ext (trans_ext (alloc_ext w (.cells #[.slice A0 d0.length c0] 24)) (alloc_ext (w.alloc (.cells #[.slice A0 d0.length c0] 24)) (.cells #[.int .i64 d1.1, .slice A1 d1.2.1.length c1, .slice B1 d1.2.2.length e1] 28))) (alloc_ext ((w.alloc (.cells #[.slice A0 d0.length c0] 24)).alloc (.cells #[.int .i64 d1.1, .slice A1 d1.2.1.length c1, .slice B1 d1.2.2.length e1] 28)) (.cells #[.slice A2 x2.length c2] 30))) hx1) hx2) hx3) hx4) hx5) (alloc_ext w5 (.cells #[.slice A5 d0.length c5] 39)))) (hF6 b hb))) (fun b hb => Nat.le_trans (size_of_ext (trans_ext (trans_ext (trans_ext (trans_ext (trans_ext (trans_ext (trans_ext (trans_ext (trans_ext (trans_ext (alloc_ext w (.cells #[.slice A0 d0.length c0] 24)) (alloc_ext (w.alloc (.cells #[.slice A0 d0.length c0] 24)) (.cells #[.int .i64 d1.1, .slice A1 d1.2.1.length c1, .slice B1 d1.2.2.length e1] 28))) (alloc_ext ((w.alloc (.cells #[.slice A0 d0.length c0] 24)).alloc (.cells #[.int .i64 d1.1, .slice A1 d1.2.1.length c1, .slice B1 d1.2.2.length e1] 28)) (.cells #[.slice A2 x2.length c2] 30))) hx1) hx2) hx3) hx4) hx5) (alloc_ext w5 (.cells #[.slice A5 d0.length c5] 39))) hx6) (alloc_ext w6 (.cells #[.int .i64 d1.1, .slice A6 d1.2.1.length c6, .slice B6 d1.2.2.length e6] 43)))) (hF7 b hb))) hx19) (fun b hb => Nat.le_trans (size_of_ext (trans_ext (trans_ext (trans_ext (trans_ext (trans_ext (trans_ext (trans_ext (trans_ext (trans_ext (trans_ext (trans_ext (trans_ext (alloc_ext w (.cells #[.slice A0 d0.length c0] 24)) (alloc_ext (w.alloc (.cells #[.slice A0 d0.length c0] 24)) (.cells #[.int .i64 d1.1, .slice A1 d1.2.1.length c1, .slice B1 d1.2.2.length e1] 28))) (alloc_ext ((w.alloc (.cells #[.slice A0 d0.length c0] 24)).alloc (.cells #[.int .i64 d1.1, .slice A1 d1.2.1.length c1, .slice B1 d1.2.2.length e1] 28)) (.cells #[.slice A2 x2.length c2] 30))) hx1) hx2) hx3) hx4) hx5) (alloc_ext w5 (.cells #[.slice A5 d0.length c5] 39))) hx6) (alloc_ext w6 (.cells #[.int .i64 d1.1, .slice A6 d1.2.1.length c6, .slice B6 d1.2.2.length e6] 43))) hx7) (alloc_ext w7 (.cells #[.slice A7 x2.length c7] 45)))) (hF8 b hb))) hx21) (by refine x'z ?_; repeat (with_reducible (first | exact x'a _ _ | exact x'b _ | exact x'c (by assumption) | refine x'd ?_ (by assumption) | refine x'e ?_ _ | refine x'f ?_ _ | refine x'g ?_ | refine x'h ?_ ?_ _ | refine x'i ?_ _ | refine x'j ?_ | refine x'k ?_ _ | refine x'l ?_ _ _ | refine x'm ?_ | assumption | (refine x'n ?_; omega) | omega)))))).mono ?_; rintro e w22 ⟨v22, F22, rfl, hx22, hS22, hN22, hF22⟩; obtain ⟨A22, c22, rfl⟩ := sDb_form hS22; have hz22 : w21.heap.size ≤ w22.heap.size := size_of_ext (by refine x'z ?_; repeat (with_reducible (first | exact x'a _ _ | exact x'b _ | exact x'c (by assumption) | refine x'd ?_ (by assumption) | refine x'e ?_ _ | refine x'f ?_ _ | refine x'g ?_ | refine x'h ?_ ?_ _ | refine x'i ?_ _ | refine x'j ?_ | refine x'k ?_ _ | refine x'l ?_ _ _ | refine x'm ?_ | assumption | (refine x'n ?_; omega) | omega))); (first | (have L0_22 : BoxAt w22 w21.heap.size #[.int .i64 0, .slice none 0 0] := BoxAt.toExt (BoxAt.new w21 _ _) hx22; obtain ⟨z0_l22, z0_a22, z0_b22, z0_f22⟩ := bx2 L0_22) | (have L0_22 : BoxAt w22 w21.heap.size #[.int .i64 0, .slice none 0 0] := BoxAt.toExt (BoxAt.new w21.drew _ _) hx22; obtain ⟨z0_l22, z0_a22, z0_b22, z0_f22⟩ := bx2 L0_22) | (have L0_22 : BoxAt w22 w21.heap.size #[.int .i64 0, .slice none 0 0] := BoxAt.toExt (BoxAt.new w21 _ _).drew hx22; obtain ⟨z0_l22, z0_a22, z0_b22, z0_f22⟩ := bx2 L0_22) | skip)) | (go_at_call_of 10 (A1); refine (toQuery_d s1 (VD.toExt r1 (trans_ext (trans_ext (hC20.isExt (trans_ext (hC18.isExt (hC17.isExt (hC16.isExt (trans_ext (trans_ext (trans_ext (trans_ext (trans_ext (trans_ext (trans_ext (trans_ext (trans_ext (trans_ext (trans_ext (trans_ext (trans_ext (trans_ext (trans_ext (trans_ext (trans_ext (trans_ext (trans_ext (trans_ext (trans_ext (trans_ext (trans_ext (trans_ext (alloc_ext w (.cells #[.slice A0 d0.length c0] 24)) (alloc_ext (w.alloc (.cells #[.slice A0 d0.length c0] 24)) (.cells #[.int .i64 d1.1, .slice A1 d1.2.1.length c1, .slice B1 d1.2.2.length e1] 28))) (alloc_ext ((w.alloc (.cells #[.slice A0 d0.length c0] 24)).alloc (.cells #[.int .i64 d1.1, .slice A1 d1.2.1.length c1, .slice B1 d1.2.2.length e1] 28)) (.cells #[.slice A2 x2.length c2] 30))) hx1) hx2) hx3) hx4) hx5) (alloc_ext w5 (.cells #[.slice A5 d0.length c5] 39))) hx6) (alloc_ext w6 (.cells #[.int .i64 d1.1, .slice A6 d1.2.1.length c6, .slice B6 d1.2.2.length e6] 43))) hx7) (alloc_ext w7 (.cells #[.slice A7 x2.length c7] 45))) hx8) (alloc_ext w8 (.cells #[.int .i64 ((evT d0 d1 x2).getD (0, [])).1, .slice A8 ((evT d0 d1 x2).getD (0, [])).2.length c8] 58))) hx9) (drew_ext w9)) hx10) hx11) (drew_ext w11)) hx12) hx13) (drew_ext w13)) hx14) hx15) (fun b hb => Nat.le_trans (size_of_ext (trans_ext (trans_ext (trans_ext (trans_ext (trans_ext (trans_ext (alloc_ext w (.cells #[.slice A0 d0.length c0] 24)) (alloc_ext (w.alloc (.cells #[.slice A0 d0.length c0] 24)) (.cells #[.int .i64 d1.1, .slice A1 d1.2.1.length c1, .slice B1 d1.2.2.length e1] 28))) (alloc_ext ((w.alloc (.cells #[.slice A0 d0.length c0] 24)).alloc (.cells #[.int .i64 d1.1, .slice A1 d1.2.1.length c1, .slice B1 d1.2.2.length e1] 28)) (.cells #[.slice A2 x2.length c2] 30))) hx1) hx2) hx3) hx4)) (hF5 b hb))) (fun b hb => Nat.le_trans (size_of_ext (trans_ext (trans_ext (trans_ext (trans_ext (trans_ext (trans_ext (trans_ext (trans_ext (alloc_ext w (.cells #[.slice A0 d0.length c0] 24)) (alloc_ext (w.alloc (.cells #[.slice A0 d0.length c0] 24)) (.cells #[.int .i64 d1.1, .slice A1 d1.2.1.length c1, .slice B1 d1.2.2.length e1] 28))) (alloc_ext ((w.alloc (.cells #[.slice A0 d0.length c0] 24)).alloc (.cells #[.int .i64 d1.1, .slice A1 d1.2.1.length c1, .slice B1 d1.2.2.length e1] 28)) (.cells #[.slice A2 x2.length c2] 30))) hx1) hx2) hx3) hx4) hx5) (alloc_ext w5 (.cells #[.slice A5 d0.length c5] 39)))) (hF6 b hb))) (fun b hb => Nat.le_trans (size_of_ext (trans_ext (trans_ext (trans_ext (trans_ext (trans_ext (trans_ext (trans_ext (trans_ext (trans_ext (trans_ext (alloc_ext w (.cells #[.slice A0 d0.length c0] 24)) (alloc_ext (w.alloc (.cells #[.slice A0 d0.length c0] 24)) (.cells #[.int .i64 d1.1, .slice A1 d1.2.1.length c1, .slice B1 d1.2.2.length e1] 28))) (alloc_ext ((w.alloc (.cells #[.slice A0 d0.length c0] 24)).alloc (.cells #[.int .i64 d1.1, .slice A1 d1.2.1.length c1, .slice B1 d1.2.2.length e1] 28)) (.cells #[.slice A2 x2.length c2] 30))) hx1) hx2) hx3) hx4) hx5) (alloc_ext w5 (.cells #[.slice A5 d0.length c5] 39))) hx6) (alloc_ext w6 (.cells #[.int .i64 d1.1, .slice A6 d1.2.1.length c6, .slice B6 d1.2.2.length e6] 43)))) (hF7 b hb))) hx19) (fun b hb => Nat.le_trans (size_of_ext (trans_ext (trans_ext (trans_ext (trans_ext (trans_ext (trans_ext (trans_ext (trans_ext (trans_ext (trans_ext (trans_ext (trans_ext (alloc_ext w (.cells #[.slice A0 d0.length c0] 24)) (alloc_ext (w.alloc (.cells #[.slice A0 d0.length c0] 24)) (.cells #[.int .i64 d1.1, .slice A1 d1.2.1.length c1, .slice B1 d1.2.2.length e1] 28))) (alloc_ext ((w.alloc (.cells #[.slice A0 d0.length c0] 24)).alloc (.cells #[.int .i64 d1.1, .slice A1 d1.2.1.length c1, .slice B1 d1.2.2.length e1] 28)) (.cells #[.slice A2 x2.length c2] 30))) hx1) hx2) hx3) hx4) hx5) (alloc_ext w5 (.cells #[.slice A5 d0.length c5] 39))) hx6) (alloc_ext w6 (.cells #[.int .i64 d1.1, .slice A6 d1.2.1.length c6, .slice B6 d1.2.2.length e6] 43))) hx7) (alloc_ext w7 (.cells #[.slice A7 x2.length c7] 45)))) (hF8 b hb))) hx21) (by refine x'z ?_; repeat (with_reducible (first | exact x'a _ _ | exact x'b _ | exact x'c (by assumption) | refine x'd ?_ (by assumption) | refine x'e ?_ _ | refine x'f ?_ _ | refine x'g ?_ | refine x'h ?_ ?_ _ | refine x'i ?_ _ | refine x'j ?_ | refine x'k ?_ _ | refine x'l ?_ _ _ | refine x'm ?_ | assumption | (refine x'n ?_; omega) | omega)))))).mono ?_; rintro e w23 ⟨v23, u23, t23, F23, rfl, hx23, hS23, hN23, hF23⟩; obtain ⟨A23, c23, B23, e23, rfl, rfl, rfl⟩ := sQ_form hS23; have hz23 : w22.heap.size ≤ w23.heap.size := size_of_ext (by refine x'z ?_; repeat (with_reducible (first | exact x'a _ _ | exact x'b _ | exact x'c (by assumption) | refine x'd ?_ (by assumption) | refine x'e ?_ _ | refine x'f ?_ _ | refine x'g ?_ | refine x'h ?_ ?_ _ | refine x'i ?_ _ | refine x'j ?_ | refine x'k ?_ _ | refine x'l ?_ _ _ | refine x'm ?_ | assumption | (refine x'n ?_; omega) | omega))); (first | (have L0_23 : BoxAt w23 w21.heap.size #[.int .i64 0, .slice none 0 0] := BoxAt.toExt L0_22 hx23; obtain ⟨z0_l23, z0_a23, z0_b23, z0_f23⟩ := bx2 L0_23) | skip); (first | (have L1_23 : BoxAt w23 w22.heap.size #[.int .i64 0, .slice none 0 0] := BoxAt.toExt (BoxAt.new w22 _ _) hx23; obtain ⟨z1_l23, z1_a23, z1_b23, z1_f23⟩ := bx2 L1_23) | (have L1_23 : BoxAt w23 w22.heap.size #[.int .i64 0, .slice none 0 0] := BoxAt.toExt (BoxAt.new w22.drew _ _) hx23; obtain ⟨z1_l23, z1_a23, z1_b23, z1_f23⟩ := bx2 L1_23) | (have L1_23 : BoxAt w23 w22.heap.size #[.int .i64 0, .slice none 0 0] := BoxAt.toExt (BoxAt.new w22 _ _).drew hx23; obtain ⟨z1_l23, z1_a23, z1_b23, z1_f23⟩ := bx2 L1_23) | skip)) | (go_at_call_of 11 (A2); refine (toJoinForest_any s2 (r2.toExt (trans_ext (trans_ext (hC20.isExt (trans_ext (hC18.isExt (hC17.isExt (hC16.isExt (trans_ext (trans_ext (trans_ext (trans_ext (trans_ext (trans_ext (trans_ext (trans_ext (trans_ext (trans_ext (trans_ext (trans_ext (trans_ext (trans_ext (trans_ext (trans_ext (trans_ext (trans_ext (trans_ext (trans_ext (trans_ext (trans_ext (trans_ext (trans_ext (alloc_ext w (.cells #[.slice A0 d0.length c0] 24)) (alloc_ext (w.alloc (.cells #[.slice A0 d0.length c0] 24)) (.cells #[.int .i64 d1.1, .slice A1 d1.2.1.length c1, .slice B1 d1.2.2.length e1] 28))) (alloc_ext ((w.alloc (.cells #[.slice A0 d0.length c0] 24)).alloc (.cells #[.int .i64 d1.1, .slice A1 d1.2.1.length c1, .slice B1 d1.2.2.length e1] 28)) (.cells #[.slice A2 x2.length c2] 30))) hx1) hx2) hx3) hx4) hx5) (alloc_ext w5 (.cells #[.slice A5 d0.length c5] 39))) hx6) (alloc_ext w6 (.cells #[.int .i64 d1.1, .slice A6 d1.2.1.length c6, .slice B6 d1.2.2.length e6] 43))) hx7) (alloc_ext w7 (.cells #[.slice A7 x2.length c7] 45))) hx8) (alloc_ext w8 (.cells #[.int .i64 ((evT d0 d1 x2).getD (0, [])).1, .slice A8 ((evT d0 d1 x2).getD (0, [])).2.length c8] 58))) hx9) (drew_ext w9)) hx10) hx11) (drew_ext w11)) hx12) hx13) (drew_ext w13)) hx14) hx15) (fun b hb => Nat.le_trans (size_of_ext (trans_ext (trans_ext (trans_ext (trans_ext (trans_ext (trans_ext (alloc_ext w (.cells #[.slice A0 d0.length c0] 24)) (alloc_ext (w.alloc (.cells #[.slice A0 d0.length c0] 24)) (.cells #[.int .i64 d1.1, .slice A1 d1.2.1.length c1, .slice B1 d1.2.2.length e1] 28))) (alloc_ext ((w.alloc (.cells #[.slice A0 d0.length c0] 24)).alloc (.cells #[.int .i64 d1.1, .slice A1 d1.2.1.length c1, .slice B1 d1.2.2.length e1] 28)) (.cells #[.slice A2 x2.length c2] 30))) hx1) hx2) hx3) hx4)) (hF5 b hb))) (fun b hb => Nat.le_trans (size_of_ext (trans_ext (trans_ext (trans_ext (trans_ext (trans_ext (trans_ext (trans_ext (trans_ext (alloc_ext w (.cells #[.slice A0 d0.length c0] 24)) (alloc_ext (w.alloc (.cells #[.slice A0 d0.length c0] 24)) (.cells #[.int .i64 d1.1, .slice A1 d1.2.1.length c1, .slice B1 d1.2.2.length e1] 28))) (alloc_ext ((w.alloc (.cells #[.slice A0 d0.length c0] 24)).alloc (.cells #[.int .i64 d1.1, .slice A1 d1.2.1.length c1, .slice B1 d1.2.2.length e1] 28)) (.cells #[.slice A2 x2.length c2] 30))) hx1) hx2) hx3) hx4) hx5) (alloc_ext w5 (.cells #[.slice A5 d0.length c5] 39)))) (hF6 b hb))) (fun b hb => Nat.le_trans (size_of_ext (trans_ext (trans_ext (trans_ext (trans_ext (trans_ext (trans_ext (trans_ext (trans_ext (trans_ext (trans_ext (alloc_ext w (.cells #[.slice A0 d0.length c0] 24)) (alloc_ext (w.alloc (.cells #[.slice A0 d0.length c0] 24)) (.cells #[.int .i64 d1.1, .slice A1 d1.2.1.length c1, .slice B1 d1.2.2.length e1] 28))) (alloc_ext ((w.alloc (.cells #[.slice A0 d0.length c0] 24)).alloc (.cells #[.int .i64 d1.1, .slice A1 d1.2.1.length c1, .slice B1 d1.2.2.length e1] 28)) (.cells #[.slice A2 x2.length c2] 30))) hx1) hx2) hx3) hx4) hx5) (alloc_ext w5 (.cells #[.slice A5 d0.length c5] 39))) hx6) (alloc_ext w6 (.cells #[.int .i64 d1.1, .slice A6 d1.2.1.length c6, .slice B6 d1.2.2.length e6] 43)))) (hF7 b hb))) hx19) (fun b hb => Nat.le_trans (size_of_ext (trans_ext (trans_ext (trans_ext (trans_ext (trans_ext (trans_ext (trans_ext (trans_ext (trans_ext (trans_ext (trans_ext (trans_ext (alloc_ext w (.cells #[.slice A0 d0.length c0] 24)) (alloc_ext (w.alloc (.cells #[.slice A0 d0.length c0] 24)) (.cells #[.int .i64 d1.1, .slice A1 d1.2.1.length c1, .slice B1 d1.2.2.length e1] 28))) (alloc_ext ((w.alloc (.cells #[.slice A0 d0.length c0] 24)).alloc (.cells #[.int .i64 d1.1, .slice A1 d1.2.1.length c1, .slice B1 d1.2.2.length e1] 28)) (.cells #[.slice A2 x2.length c2] 30))) hx1) hx2) hx3) hx4) hx5) (alloc_ext w5 (.cells #[.slice A5 d0.length c5] 39))) hx6) (alloc_ext w6 (.cells #[.int .i64 d1.1, .slice A6 d1.2.1.length c6, .slice B6 d1.2.2.length e6] 43))) hx7) (alloc_ext w7 (.cells #[.slice A7 x2.length c7] 45)))) (hF8 b hb))) hx21) (by refine x'z ?_; repeat (with_reducible (first | exact x'a _ _ | exact x'b _ | exact x'c (by assumption) | refine x'd ?_ (by assumption) | refine x'e ?_ _ | refine x'f ?_ _ | refine x'g ?_ | refine x'h ?_ ?_ _ | refine x'i ?_ _ | refine x'j ?_ | refine x'k ?_ _ | refine x'l ?_ _ _ | refine x'm ?_ | assumption | (refine x'n ?_; omega) | omega)))))).mono ?_; rintro e w24 ⟨v24, F24, rfl, hx24, hS24, hF24⟩; obtain ⟨A24, c24, rfl, _, _, r24⟩ := hS24.view sI_v; have hz24 : w23.heap.size ≤ w24.heap.size := size_of_ext (by refine x'z ?_; repeat (with_reducible (first | exact x'a _ _ | exact x'b _ | exact x'c (by assumption) | refine x'd ?_ (by assumption) | refine x'e ?_ _ | refine x'f ?_ _ | refine x'g ?_ | refine x'h ?_ ?_ _ | refine x'i ?_ _ | refine x'j ?_ | refine x'k ?_ _ | refine x'l ?_ _ _ | refine x'm ?_ | assumption | (refine x'n ?_; omega) | omega))); (first | (have L0_24 : BoxAt w24 w21.heap.size #[.int .i64 0, .slice none 0 0] := BoxAt.toExt L0_23 hx24; obtain ⟨z0_l24, z0_a24, z0_b24, z0_f24⟩ := bx2 L0_24) | skip); (first | (have L1_24 : BoxAt w24 w22.heap.size #[.int .i64 0, .slice none 0 0] := BoxAt.toExt L1_23 hx24; obtain ⟨z1_l24, z1_a24, z1_b24, z1_f24⟩ := bx2 L1_24) | skip); (first | (have L2_24 : BoxAt w24 w23.heap.size #[.int .i64 0, .slice none 0 0] := BoxAt.toExt (BoxAt.new w23 _ _) hx24; obtain ⟨z2_l24, z2_a24, z2_b24, z2_f24⟩ := bx2 L2_24) | (have L2_24 : BoxAt w24 w23.heap.size #[.int .i64 0, .slice none 0 0] := BoxAt.toExt (BoxAt.new w23.drew _ _) hx24; obtain ⟨z2_l24, z2_a24, z2_b24, z2_f24⟩ := bx2 L2_24) | (have L2_24 : BoxAt w24 w23.heap.size #[.int .i64 0, .slice none 0 0] := BoxAt.toExt (BoxAt.new w23 _ _).drew hx24; obtain ⟨z2_l24, z2_a24, z2_b24, z2_f24⟩ := bx2 L2_24) | skip)) | (go_at_call 23; refine (EvaluateByJoinTree_any (BDb.w s0) (vDb_get (sDb_v _ _ _ (OD.toExt hS22 (by refine x'z ?_; repeat (with_reducible (first | exact x'a _ _ | exact x'b _ | exact x'c (by assumption) | refine x'd ?_ (by assumption) | refine x'e ?_ _ | refine x'f ?_ _ | refine x'g ?_ | refine x'h ?_ ?_ _ | refine x'i ?_ _ | refine x'j ?_ | refine x'k ?_ _ | refine x'l ?_ _ _ | refine x'm ?_ | assumption | (refine x'n ?_; omega) | omega)))))).2.1 s1 (sQ_v _ _ _ (OD.toExt hS23 (by refine x'z ?_; repeat (with_reducible (first | exact x'a _ _ | exact x'b _ | exact x'c (by assumption) | refine x'd ?_ (by assumption) | refine x'e ?_ _ | refine x'f ?_ _ | refine x'g ?_ | refine x'h ?_ ?_ _ | refine x'i ?_ _ | refine x'j ?_ | refine x'k ?_ _ | refine x'l ?_ _ _ | refine x'm ?_ | assumption | (refine x'n ?_; omega) | omega))))) (by omega) (r24.toExt (by refine x'z ?_; repeat (with_reducible (first | exact x'a _ _ | exact x'b _ | exact x'c (by assumption) | refine x'd ?_ (by assumption) | refine x'e ?_ _ | refine x'f ?_ _ | refine x'g ?_ | refine x'h ?_ ?_ _ | refine x'i ?_ _ | refine x'j ?_ | refine x'k ?_ _ | refine x'l ?_ _ _ | refine x'm ?_ | assumption | (refine x'n ?_; omega) | omega))))).mono ?_; rintro e w25 ⟨v25, u25, F25, rfl, hx25, hS25, hN25, hF25⟩; obtain ⟨A25, c25, rfl, rfl⟩ := sRel_form' hS25; have hz25 : w24.heap.size ≤ w25.heap.size := size_of_ext (by refine x'z ?_; repeat (with_reducible (first | exact x'a _ _ | exact x'b _ | exact x'c (by assumption) | refine x'd ?_ (by assumption) | refine x'e ?_ _ | refine x'f ?_ _ | refine x'g ?_ | refine x'h ?_ ?_ _ | refine x'i ?_ _ | refine x'j ?_ | refine x'k ?_ _ | refine x'l ?_ _ _ | refine x'm ?_ | assumption | (refine x'n ?_; omega) | omega))); (first | (have L0_25 : BoxAt w25 w21.heap.size #[.int .i64 0, .slice none 0 0] := BoxAt.toExt L0_24 hx25; obtain ⟨z0_l25, z0_a25, z0_b25, z0_f25⟩ := bx2 L0_25) | skip); (first | (have L1_25 : BoxAt w25 w22.heap.size #[.int .i64 0, .slice none 0 0] := BoxAt.toExt L1_24 hx25; obtain ⟨z1_l25, z1_a25, z1_b25, z1_f25⟩ := bx2 L1_25) | skip); (first | (have L2_25 : BoxAt w25 w23.heap.size #[.int .i64 0, .slice none 0 0] := BoxAt.toExt L2_24 hx25; obtain ⟨z2_l25, z2_a25, z2_b25, z2_f25⟩ := bx2 L2_25) | skip); (first | (have L3_25 : BoxAt w25 w24.heap.size #[.int .i64 0, .slice none 0 0] := BoxAt.toExt (BoxAt.new w24 _ _) hx25; obtain ⟨z3_l25, z3_a25, z3_b25, z3_f25⟩ := bx2 L3_25) | (have L3_25 : BoxAt w25 w24.heap.size #[.int .i64 0, .slice none 0 0] := BoxAt.toExt (BoxAt.new w24.drew _ _) hx25; obtain ⟨z3_l25, z3_a25, z3_b25, z3_f25⟩ := bx2 L3_25) | (have L3_25 : BoxAt w25 w24.heap.size #[.int .i64 0, .slice none 0 0] := BoxAt.toExt (BoxAt.new w24 _ _).drew hx25; obtain ⟨z3_l25, z3_a25, z3_b25, z3_f25⟩ := bx2 L3_25) | skip)))
    all_goals
      go_wp2_with fail
      go_meet
      have hl25 := SMono.lt hS25
      have hdr : w21.drew.heap.size = w21.heap.size := rfl
      have hG25 : ∀ x ∈ F25, w24.heap.size ≤ x := fun x hx => Nat.le_trans (size_of_ext (by refine x'z ?_; repeat (with_reducible (first | exact x'a _ _ | exact x'b _ | exact x'c (by assumption) | refine x'd ?_ (by assumption) | refine x'e ?_ _ | refine x'f ?_ _ | refine x'g ?_ | refine x'h ?_ ?_ _ | refine x'i ?_ _ | refine x'j ?_ | refine x'k ?_ _ | refine x'l ?_ _ _ | refine x'm ?_ | assumption | (refine x'n ?_; omega) | omega)))) (hF25 x hx)
      first
        | exact ⟨w25.heap.size, A25, c25, F25, rfl, rfl, BoxAt.new _ _ _, OD.toExt hS25 (alloc_ext _ _), hN25, fun x hx => ⟨by have := hG25 x hx; omega, by have := hl25 x hx; omega⟩, by omega, (by refine x'z ?_; repeat (with_reducible (first | exact x'a _ _ | exact x'b _ | exact x'c (by assumption) | refine x'd ?_ (by assumption) | refine x'e ?_ _ | refine x'f ?_ _ | refine x'g ?_ | refine x'h ?_ ?_ _ | refine x'i ?_ _ | refine x'j ?_ | refine x'k ?_ _ | refine x'l ?_ _ _ | refine x'm ?_ | assumption | (refine x'n ?_; omega) | omega)))⟩
        | exact ⟨w21.heap.size, A25, c25, F25, rfl, rfl, (by repeat (with_reducible (first | assumption | exact BoxAt.new _ _ _ | apply BoxAt.set2 | refine BoxAt.set2' ?_ (by omega) | apply BoxAt.setP0 | apply BoxAt.setP1 | refine BoxAt.setO ?_ (by omega) | refine BoxAt.alloc ?_ _ | refine BoxAt.drew ?_ | refine BoxAt.toExt ?_ (by assumption)))), OD.chg (G := [w21.heap.size]) hS25 (by repeat (with_reducible (first | exact Chg.refl _ _ | refine Chg.trans0 ?_ (by assumption) | refine Chg.extS ?_ _ | refine Chg.alloc ?_ _ | refine Chg.drew ?_ | refine Chg.setCell ?_ (.inl (by simp)) _))) (fun x hx hm => by have := hG25 x hx; have h9 := L0_24.1; rw [List.mem_singleton.1 hm] at this; omega), hN25, fun x hx => ⟨by have := hG25 x hx; omega, by have := hG25 x hx; have h9 := L0_24.1; omega⟩, by omega, (by refine x'z ?_; repeat (with_reducible (first | exact x'a _ _ | exact x'b _ | exact x'c (by assumption) | refine x'd ?_ (by assumption) | refine x'e ?_ _ | refine x'f ?_ _ | refine x'g ?_ | refine x'h ?_ ?_ _ | refine x'i ?_ _ | refine x'j ?_ | refine x'k ?_ _ | refine x'l ?_ _ _ | refine x'm ?_ | assumption | (refine x'n ?_; omega) | omega)))⟩
        | exact ⟨w22.heap.size, A25, c25, F25, rfl, rfl, (by repeat (with_reducible (first | assumption | exact BoxAt.new _ _ _ | apply BoxAt.set2 | refine BoxAt.set2' ?_ (by omega) | apply BoxAt.setP0 | apply BoxAt.setP1 | refine BoxAt.setO ?_ (by omega) | refine BoxAt.alloc ?_ _ | refine BoxAt.drew ?_ | refine BoxAt.toExt ?_ (by assumption)))), OD.chg (G := [w22.heap.size]) hS25 (by repeat (with_reducible (first | exact Chg.refl _ _ | refine Chg.trans0 ?_ (by assumption) | refine Chg.extS ?_ _ | refine Chg.alloc ?_ _ | refine Chg.drew ?_ | refine Chg.setCell ?_ (.inl (by simp)) _))) (fun x hx hm => by have := hG25 x hx; have h9 := L1_24.1; rw [List.mem_singleton.1 hm] at this; omega), hN25, fun x hx => ⟨by have := hG25 x hx; omega, by have := hG25 x hx; have h9 := L1_24.1; omega⟩, by omega, (by refine x'z ?_; repeat (with_reducible (first | exact x'a _ _ | exact x'b _ | exact x'c (by assumption) | refine x'd ?_ (by assumption) | refine x'e ?_ _ | refine x'f ?_ _ | refine x'g ?_ | refine x'h ?_ ?_ _ | refine x'i ?_ _ | refine x'j ?_ | refine x'k ?_ _ | refine x'l ?_ _ _ | refine x'm ?_ | assumption | (refine x'n ?_; omega) | omega)))⟩
        | exact ⟨w23.heap.size, A25, c25, F25, rfl, rfl, (by repeat (with_reducible (first | assumption | exact BoxAt.new _ _ _ | apply BoxAt.set2 | refine BoxAt.set2' ?_ (by omega) | apply BoxAt.setP0 | apply BoxAt.setP1 | refine BoxAt.setO ?_ (by omega) | refine BoxAt.alloc ?_ _ | refine BoxAt.drew ?_ | refine BoxAt.toExt ?_ (by assumption)))), OD.chg (G := [w23.heap.size]) hS25 (by repeat (with_reducible (first | exact Chg.refl _ _ | refine Chg.trans0 ?_ (by assumption) | refine Chg.extS ?_ _ | refine Chg.alloc ?_ _ | refine Chg.drew ?_ | refine Chg.setCell ?_ (.inl (by simp)) _))) (fun x hx hm => by have := hG25 x hx; have h9 := L2_24.1; rw [List.mem_singleton.1 hm] at this; omega), hN25, fun x hx => ⟨by have := hG25 x hx; omega, by have := hG25 x hx; have h9 := L2_24.1; omega⟩, by omega, (by refine x'z ?_; repeat (with_reducible (first | exact x'a _ _ | exact x'b _ | exact x'c (by assumption) | refine x'd ?_ (by assumption) | refine x'e ?_ _ | refine x'f ?_ _ | refine x'g ?_ | refine x'h ?_ ?_ _ | refine x'i ?_ _ | refine x'j ?_ | refine x'k ?_ _ | refine x'l ?_ _ _ | refine x'm ?_ | assumption | (refine x'n ?_; omega) | omega)))⟩
        | exact ⟨w24.heap.size, A25, c25, F25, rfl, rfl, (by repeat (with_reducible (first | assumption | exact BoxAt.new _ _ _ | apply BoxAt.set2 | refine BoxAt.set2' ?_ (by omega) | apply BoxAt.setP0 | apply BoxAt.setP1 | refine BoxAt.setO ?_ (by omega) | refine BoxAt.alloc ?_ _ | refine BoxAt.drew ?_ | refine BoxAt.toExt ?_ (by assumption)))), OD.chg (G := [w24.heap.size]) hS25 (by repeat (with_reducible (first | exact Chg.refl _ _ | refine Chg.trans0 ?_ (by assumption) | refine Chg.extS ?_ _ | refine Chg.alloc ?_ _ | refine Chg.drew ?_ | refine Chg.setCell ?_ (.inl (by simp)) _))) (fun x hx hm => by have := hF25 x hx; rw [World.size_alloc] at this; rw [List.mem_singleton.1 hm] at this; omega), hN25, fun x hx => ⟨by have := hG25 x hx; omega, by have := hF25 x hx; rw [World.size_alloc] at this; omega⟩, by omega, (by refine x'z ?_; repeat (with_reducible (first | exact x'a _ _ | exact x'b _ | exact x'c (by assumption) | refine x'd ?_ (by assumption) | refine x'e ?_ _ | refine x'f ?_ _ | refine x'g ?_ | refine x'h ?_ ?_ _ | refine x'i ?_ _ | refine x'j ?_ | refine x'k ?_ _ | refine x'l ?_ _ _ | refine x'm ?_ | assumption | (refine x'n ?_; omega) | omega)))⟩
  obtain ⟨bb22, A22, c22, F22, rfl, rfl, BB22, hS22, hN22, hD22, hbb22, hx22⟩ := hcut
  obtain ⟨w22, rfl⟩ : ∃ W, W = wc := ⟨_, rfl⟩
  have hF22 : ∀ x ∈ F22, w21.heap.size ≤ x := fun x hx => (hD22 x hx).1
  have B22_0 : BoxAt w22 (w.heap.size) #[.slice A0 d0.length c0] := B21_0.toExt hx22
  have B22_1 : BoxAt w22 (w.heap.size + 1) #[.int .i64 d1.1, .slice A1 d1.2.1.length c1, .slice B1 d1.2.2.length e1] := B21_1.toExt hx22
  have B22_2 : BoxAt w22 (w.heap.size + 1 + 1) #[.slice A2 x2.length c2] := B21_2.toExt hx22
  have B22_3 : BoxAt w22 (bb4) #[.int .i64 ((evT d0 d1 x2).getD (0, [])).1, .slice A4 ((evT d0 d1 x2).getD (0, [])).2.length c4] := B21_3.toExt hx22
  have B22_4 : BoxAt w22 (w5.heap.size) #[.slice A5 d0.length c5] := B21_4.toExt hx22
  have B22_5 : BoxAt w22 (w6.heap.size) #[.int .i64 d1.1, .slice A6 d1.2.1.length c6, .slice B6 d1.2.2.length e6] := B21_5.toExt hx22
  have B22_6 : BoxAt w22 (w7.heap.size) #[.slice A7 x2.length c7] := B21_6.toExt hx22
  have B22_7 : BoxAt w22 (w8.heap.size) #[.int .i64 ((evT d0 d1 x2).getD (0, [])).1, .slice A8 ((evT d0 d1 x2).getD (0, [])).2.length c8] := B21_7.toExt hx22
  have B22_8 := BB22
  have lB22_0 := B22_0.1
  have bB22_0 := B22_0.2.1
  have lB22_1 := B22_1.1
  have bB22_1 := B22_1.2.1
  have lB22_2 := B22_2.1
  have bB22_2 := B22_2.2.1
  have lB22_3 := B22_3.1
  have bB22_3 := B22_3.2.1
  have lB22_4 := B22_4.1
  have bB22_4 := B22_4.2.1
  have lB22_5 := B22_5.1
  have bB22_5 := B22_5.2.1
  have lB22_6 := B22_6.1
  have bB22_6 := B22_6.2.1
  have lB22_7 := B22_7.1
  have bB22_7 := B22_7.2.1
  have lB22_8 := B22_8.1
  have bB22_8 := B22_8.2.1
  clear lB21_0 bB21_0 lB21_1 bB21_1 lB21_2 bB21_2 lB21_3 bB21_3 lB21_4 bB21_4 lB21_5 bB21_5 lB21_6 bB21_6 lB21_7 bB21_7
  go_wp2_with fail
  refine (eqRelation_d hb9 (sRel_v _ _ _ hS22) hb9 (sRel_v _ _ _ (OD.toExt (OD.toExt (OD.chg (OD.toExt (OD.chg (OD.chg (OD.chg (OD.toExt (OD.toExt (OD.toExt (OD.toExt (OD.toExt (OD.toExt (OD.toExt (OD.toExt (OD.toExt (OD.toExt (OD.toExt (OD.toExt (OD.toExt (OD.toExt (OD.toExt (OD.toExt (OD.toExt (OD.toExt hS4 hx5) (alloc_ext w5 (.cells #[.slice A5 d0.length c5] 39))) hx6) (alloc_ext w6 (.cells #[.int .i64 d1.1, .slice A6 d1.2.1.length c6, .slice B6 d1.2.2.length e6] 43))) hx7) (alloc_ext w7 (.cells #[.slice A7 x2.length c7] 45))) hx8) (alloc_ext w8 (.cells #[.int .i64 ((evT d0 d1 x2).getD (0, [])).1, .slice A8 ((evT d0 d1 x2).getD (0, [])).2.length c8] 58))) hx9) (drew_ext w9)) hx10) hx11) (drew_ext w11)) hx12) hx13) (drew_ext w13)) hx14) hx15) hC16 (fun x ha hb => by have h1 := hF5 x hb; have h2 := (SMono.lt hS4) x ha; have h3 := size_of_ext (refl_ext w4); omega)) hC17 (fun x ha hb => by have h1 := hF6 x hb; have h2 := (SMono.lt hS4) x ha; have h3 := size_of_ext (trans_ext hx5 (alloc_ext w5 (.cells #[.slice A5 d0.length c5] 39))); omega)) hC18 (fun x ha hb => by have h1 := hF7 x hb; have h2 := (SMono.lt hS4) x ha; have h3 := size_of_ext (trans_ext (trans_ext (trans_ext hx5 (alloc_ext w5 (.cells #[.slice A5 d0.length c5] 39))) hx6) (alloc_ext w6 (.cells #[.int .i64 d1.1, .slice A6 d1.2.1.length c6, .slice B6 d1.2.2.length e6] 43))); omega)) hx19) hC20 (fun x ha hb => by have h1 := hF8 x hb; have h2 := (SMono.lt hS4) x ha; have h3 := size_of_ext (trans_ext (trans_ext (trans_ext (trans_ext (trans_ext hx5 (alloc_ext w5 (.cells #[.slice A5 d0.length c5] 39))) hx6) (alloc_ext w6 (.cells #[.int .i64 d1.1, .slice A6 d1.2.1.length c6, .slice B6 d1.2.2.length e6] 43))) hx7) (alloc_ext w7 (.cells #[.slice A7 x2.length c7] 45))); omega)) hx21) hx22))).mono ?_
  rintro e w23 ⟨rfl, hx23⟩
  have B23_0 : BoxAt w23 (w.heap.size) #[.slice A0 d0.length c0] := (B22_0.toExt hx23)
  have B23_1 : BoxAt w23 (w.heap.size + 1) #[.int .i64 d1.1, .slice A1 d1.2.1.length c1, .slice B1 d1.2.2.length e1] := (B22_1.toExt hx23)
  have B23_2 : BoxAt w23 (w.heap.size + 1 + 1) #[.slice A2 x2.length c2] := (B22_2.toExt hx23)
  have B23_3 : BoxAt w23 (bb4) #[.int .i64 ((evT d0 d1 x2).getD (0, [])).1, .slice A4 ((evT d0 d1 x2).getD (0, [])).2.length c4] := (B22_3.toExt hx23)
  have B23_4 : BoxAt w23 (w5.heap.size) #[.slice A5 d0.length c5] := (B22_4.toExt hx23)
  have B23_5 : BoxAt w23 (w6.heap.size) #[.int .i64 d1.1, .slice A6 d1.2.1.length c6, .slice B6 d1.2.2.length e6] := (B22_5.toExt hx23)
  have B23_6 : BoxAt w23 (w7.heap.size) #[.slice A7 x2.length c7] := (B22_6.toExt hx23)
  have B23_7 : BoxAt w23 (w8.heap.size) #[.int .i64 ((evT d0 d1 x2).getD (0, [])).1, .slice A8 ((evT d0 d1 x2).getD (0, [])).2.length c8] := (B22_7.toExt hx23)
  have B23_8 : BoxAt w23 (bb22) #[.int .i64 ((evT d0 d1 x2).getD (0, [])).1, .slice A22 ((evT d0 d1 x2).getD (0, [])).2.length c22] := (B22_8.toExt hx23)
  have lB23_0 := B23_0.1
  have bB23_0 := B23_0.2.1
  have lB23_1 := B23_1.1
  have bB23_1 := B23_1.2.1
  have lB23_2 := B23_2.1
  have bB23_2 := B23_2.2.1
  have lB23_3 := B23_3.1
  have bB23_3 := B23_3.2.1
  have lB23_4 := B23_4.1
  have bB23_4 := B23_4.2.1
  have lB23_5 := B23_5.1
  have bB23_5 := B23_5.2.1
  have lB23_6 := B23_6.1
  have bB23_6 := B23_6.2.1
  have lB23_7 := B23_7.1
  have bB23_7 := B23_7.2.1
  have lB23_8 := B23_8.1
  have bB23_8 := B23_8.2.1
  clear lB22_0 bB22_0 lB22_1 bB22_1 lB22_2 bB22_2 lB22_3 bB22_3 lB22_4 bB22_4 lB22_5 bB22_5 lB22_6 bB22_6 lB22_7 bB22_7 lB22_8 bB22_8
  go_wp2_with fail
  refine (heldRelation_d hb9 HK20 (sRel_v _ _ _ (OD.toExt (OD.toExt (OD.toExt hS20 hx21) hx22) hx23)) (by omega) (by omega)).mono ?_
  rintro e w24 ⟨rfl, hx24⟩
  have B24_0 : BoxAt w24 (w.heap.size) #[.slice A0 d0.length c0] := (B23_0.toExt hx24)
  have B24_1 : BoxAt w24 (w.heap.size + 1) #[.int .i64 d1.1, .slice A1 d1.2.1.length c1, .slice B1 d1.2.2.length e1] := (B23_1.toExt hx24)
  have B24_2 : BoxAt w24 (w.heap.size + 1 + 1) #[.slice A2 x2.length c2] := (B23_2.toExt hx24)
  have B24_3 : BoxAt w24 (bb4) #[.int .i64 ((evT d0 d1 x2).getD (0, [])).1, .slice A4 ((evT d0 d1 x2).getD (0, [])).2.length c4] := (B23_3.toExt hx24)
  have B24_4 : BoxAt w24 (w5.heap.size) #[.slice A5 d0.length c5] := (B23_4.toExt hx24)
  have B24_5 : BoxAt w24 (w6.heap.size) #[.int .i64 d1.1, .slice A6 d1.2.1.length c6, .slice B6 d1.2.2.length e6] := (B23_5.toExt hx24)
  have B24_6 : BoxAt w24 (w7.heap.size) #[.slice A7 x2.length c7] := (B23_6.toExt hx24)
  have B24_7 : BoxAt w24 (w8.heap.size) #[.int .i64 ((evT d0 d1 x2).getD (0, [])).1, .slice A8 ((evT d0 d1 x2).getD (0, [])).2.length c8] := (B23_7.toExt hx24)
  have B24_8 : BoxAt w24 (bb22) #[.int .i64 ((evT d0 d1 x2).getD (0, [])).1, .slice A22 ((evT d0 d1 x2).getD (0, [])).2.length c22] := (B23_8.toExt hx24)
  have lB24_0 := B24_0.1
  have bB24_0 := B24_0.2.1
  have lB24_1 := B24_1.1
  have bB24_1 := B24_1.2.1
  have lB24_2 := B24_2.1
  have bB24_2 := B24_2.2.1
  have lB24_3 := B24_3.1
  have bB24_3 := B24_3.2.1
  have lB24_4 := B24_4.1
  have bB24_4 := B24_4.2.1
  have lB24_5 := B24_5.1
  have bB24_5 := B24_5.2.1
  have lB24_6 := B24_6.1
  have bB24_6 := B24_6.2.1
  have lB24_7 := B24_7.1
  have bB24_7 := B24_7.2.1
  have lB24_8 := B24_8.1
  have bB24_8 := B24_8.2.1
  clear lB23_0 bB23_0 lB23_1 bB23_1 lB23_2 bB23_2 lB23_3 bB23_3 lB23_4 bB23_4 lB23_5 bB23_5 lB23_6 bB23_6 lB23_7 bB23_7 lB23_8 bB23_8
  go_wp2
  go_ret
  exact ⟨rfl, (trans_ext (trans_ext (trans_ext (trans_ext (hC20.isExt (trans_ext (hC18.isExt (hC17.isExt (hC16.isExt (trans_ext (trans_ext (trans_ext (trans_ext (trans_ext (trans_ext (trans_ext (trans_ext (trans_ext (trans_ext (trans_ext (trans_ext (trans_ext (trans_ext (trans_ext (trans_ext (trans_ext (trans_ext (trans_ext (trans_ext (trans_ext (trans_ext (trans_ext (trans_ext (alloc_ext w (.cells #[.slice A0 d0.length c0] 24)) (alloc_ext (w.alloc (.cells #[.slice A0 d0.length c0] 24)) (.cells #[.int .i64 d1.1, .slice A1 d1.2.1.length c1, .slice B1 d1.2.2.length e1] 28))) (alloc_ext ((w.alloc (.cells #[.slice A0 d0.length c0] 24)).alloc (.cells #[.int .i64 d1.1, .slice A1 d1.2.1.length c1, .slice B1 d1.2.2.length e1] 28)) (.cells #[.slice A2 x2.length c2] 30))) hx1) hx2) hx3) hx4) hx5) (alloc_ext w5 (.cells #[.slice A5 d0.length c5] 39))) hx6) (alloc_ext w6 (.cells #[.int .i64 d1.1, .slice A6 d1.2.1.length c6, .slice B6 d1.2.2.length e6] 43))) hx7) (alloc_ext w7 (.cells #[.slice A7 x2.length c7] 45))) hx8) (alloc_ext w8 (.cells #[.int .i64 ((evT d0 d1 x2).getD (0, [])).1, .slice A8 ((evT d0 d1 x2).getD (0, [])).2.length c8] 58))) hx9) (drew_ext w9)) hx10) hx11) (drew_ext w11)) hx12) hx13) (drew_ext w13)) hx14) hx15) (fun b hb => Nat.le_trans (size_of_ext (trans_ext (trans_ext (trans_ext (trans_ext (trans_ext (trans_ext (alloc_ext w (.cells #[.slice A0 d0.length c0] 24)) (alloc_ext (w.alloc (.cells #[.slice A0 d0.length c0] 24)) (.cells #[.int .i64 d1.1, .slice A1 d1.2.1.length c1, .slice B1 d1.2.2.length e1] 28))) (alloc_ext ((w.alloc (.cells #[.slice A0 d0.length c0] 24)).alloc (.cells #[.int .i64 d1.1, .slice A1 d1.2.1.length c1, .slice B1 d1.2.2.length e1] 28)) (.cells #[.slice A2 x2.length c2] 30))) hx1) hx2) hx3) hx4)) (hF5 b hb))) (fun b hb => Nat.le_trans (size_of_ext (trans_ext (trans_ext (trans_ext (trans_ext (trans_ext (trans_ext (trans_ext (trans_ext (alloc_ext w (.cells #[.slice A0 d0.length c0] 24)) (alloc_ext (w.alloc (.cells #[.slice A0 d0.length c0] 24)) (.cells #[.int .i64 d1.1, .slice A1 d1.2.1.length c1, .slice B1 d1.2.2.length e1] 28))) (alloc_ext ((w.alloc (.cells #[.slice A0 d0.length c0] 24)).alloc (.cells #[.int .i64 d1.1, .slice A1 d1.2.1.length c1, .slice B1 d1.2.2.length e1] 28)) (.cells #[.slice A2 x2.length c2] 30))) hx1) hx2) hx3) hx4) hx5) (alloc_ext w5 (.cells #[.slice A5 d0.length c5] 39)))) (hF6 b hb))) (fun b hb => Nat.le_trans (size_of_ext (trans_ext (trans_ext (trans_ext (trans_ext (trans_ext (trans_ext (trans_ext (trans_ext (trans_ext (trans_ext (alloc_ext w (.cells #[.slice A0 d0.length c0] 24)) (alloc_ext (w.alloc (.cells #[.slice A0 d0.length c0] 24)) (.cells #[.int .i64 d1.1, .slice A1 d1.2.1.length c1, .slice B1 d1.2.2.length e1] 28))) (alloc_ext ((w.alloc (.cells #[.slice A0 d0.length c0] 24)).alloc (.cells #[.int .i64 d1.1, .slice A1 d1.2.1.length c1, .slice B1 d1.2.2.length e1] 28)) (.cells #[.slice A2 x2.length c2] 30))) hx1) hx2) hx3) hx4) hx5) (alloc_ext w5 (.cells #[.slice A5 d0.length c5] 39))) hx6) (alloc_ext w6 (.cells #[.int .i64 d1.1, .slice A6 d1.2.1.length c6, .slice B6 d1.2.2.length e6] 43)))) (hF7 b hb))) hx19) (fun b hb => Nat.le_trans (size_of_ext (trans_ext (trans_ext (trans_ext (trans_ext (trans_ext (trans_ext (trans_ext (trans_ext (trans_ext (trans_ext (trans_ext (trans_ext (alloc_ext w (.cells #[.slice A0 d0.length c0] 24)) (alloc_ext (w.alloc (.cells #[.slice A0 d0.length c0] 24)) (.cells #[.int .i64 d1.1, .slice A1 d1.2.1.length c1, .slice B1 d1.2.2.length e1] 28))) (alloc_ext ((w.alloc (.cells #[.slice A0 d0.length c0] 24)).alloc (.cells #[.int .i64 d1.1, .slice A1 d1.2.1.length c1, .slice B1 d1.2.2.length e1] 28)) (.cells #[.slice A2 x2.length c2] 30))) hx1) hx2) hx3) hx4) hx5) (alloc_ext w5 (.cells #[.slice A5 d0.length c5] 39))) hx6) (alloc_ext w6 (.cells #[.int .i64 d1.1, .slice A6 d1.2.1.length c6, .slice B6 d1.2.2.length e6] 43))) hx7) (alloc_ext w7 (.cells #[.slice A7 x2.length c7] 45)))) (hF8 b hb))) hx21) hx22) hx23) hx24)⟩
theorem law_EvaluateByJoinTree (A0 : Option Addr) (c0 : Nat) (d0 : Dbd) (A1 : Option Addr) (c1 : Nat) (B1 : Option Addr) (e1 : Nat) (d1 : Qd) (A2 : Option Addr) (c2 : Nat) (x2 : List Int) (w : World) (q0 : QDb d0) (r0 : vDb w [.slice A0 d0.length c0] d0) (q1 : QQ d1) (r1 : vQ w [.int .i64 d1.1, .slice A1 d1.2.1.length c1, .slice B1 d1.2.2.length e1] d1) (l2 : x2.length ≤ 9223372036854775807) (r2 : RI w A2 x2) : Calls Tryz.prog 4 #[.agg #[.slice A0 d0.length c0], .agg #[.int .i64 d1.1, .slice A1 d1.2.1.length c1, .slice B1 d1.2.2.length e1], .agg #[.slice A2 x2.length c2]] w fun e w' => e = .returned (.bool true) ∧ ∃ y, w' = ext w y := by
  by_cases hz0 : 0 ≤ szN szTb (1048576) d0
  · have hy0 : szN szTb (1048576) d0 ≤ 1048576 := szDb_le hz0
    by_cases hz1 : 0 ≤ szQ (szN szTb (1048576) d0) d1
    · have hy1 : szQ (szN szTb (1048576) d0) d1 ≤ 1048576 := Int.le_trans (szQ_le hz1) hy0
      by_cases hz2 : 0 ≤ szL (szQ (szN szTb (1048576) d0) d1) x2.length
      · have hy2 : szL (szQ (szN szTb (1048576) d0) d1) x2.length ≤ 1048576 := Int.le_trans (szL_le hz2) hy1
        have b09 := szDb_small q0 hz0 (by omega)
        have b19 := szQ_small q1.1 hz1 (by omega)
        have q2 := szL_small hz2
        exact law_EvaluateByJoinTree_m _ _ _ _ _ _ _ _ _ _ _ w q0 r0 q1 r1 l2 r2 hz0 hy0 hz1 hy1 hz2 hy2 (b09) (b19) (by omega)
      · exact law_EvaluateByJoinTree_z2 _ _ _ _ _ _ _ _ _ _ _ w q0 r0 q1 r1 l2 hz0 hy0 hz1 hy1 (by omega)
    · exact law_EvaluateByJoinTree_z1 _ _ _ _ _ _ _ _ _ _ _ w q0 r0 q1 r1 hz0 hy0 (by omega)
  · exact law_EvaluateByJoinTree_z0 _ _ _ _ _ _ _ _ _ _ _ w q0 r0 (by omega)
end Go.Proofs.YtfigcfajkilhiaaGreat
