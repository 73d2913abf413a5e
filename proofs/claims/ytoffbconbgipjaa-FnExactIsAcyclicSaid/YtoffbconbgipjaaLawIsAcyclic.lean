/- For all arguments the program's IsAcyclic and the reference's give the same, the arguments are left alone, and what is handed back shares no memory with them. -/
import Derived.Test.YtoffbconbgipjaaTypes
import Derived.Test.YtoffbconbgipjaaQuery
import Derived.Test.YtoffbconbgipjaaMarkQ
import Derived.Test.YtoffbconbgipjaaAcyc
namespace Go.Proofs.Ytoffbconbgipjaa
open Go.ChangeShapes Go.WideShapes Go.ChangeAt Go.RowKit

set_option maxHeartbeats 2000000 in
theorem law_IsAcyclic_z0 (A0 : Option Addr) (c0 : Nat) (B0 : Option Addr) (e0 : Nat) (d0 : Qd) (w : World) (q0 : QQ d0) (r0 : vQ w [.int .i64 d0.1, .slice A0 d0.2.1.length c0, .slice B0 d0.2.2.length e0] d0) (hz0 : szQ (1048576) d0 < 0) : Calls Try.prog 8 #[.agg #[.int .i64 d0.1, .slice A0 d0.2.1.length c0, .slice B0 d0.2.2.length e0]] w fun e w' => e = .returned (.bool true) ∧ ∃ y, w' = ext w y := by
  go_enter Try.func8, Try.ntmps8
  go_wp2_with fail
  refine (szQuery_d q0 (VD.toExt r0 (alloc_ext w (.cells #[.int .i64 d0.1, .slice A0 d0.2.1.length c0, .slice B0 d0.2.2.length e0] 36))) (by omega) (by omega)).mono ?_
  rintro e w1 ⟨rfl, hx1⟩
  have B1_0 : BoxAt w1 (w.heap.size) #[.int .i64 d0.1, .slice A0 d0.2.1.length c0, .slice B0 d0.2.2.length e0] := by obtain ⟨y, e⟩ := hx1; rw [e]; refine ⟨?_, fun j => ?_, fun j => ?_⟩ <;> go_simp
  have lB1_0 := B1_0.1
  have bB1_0 := B1_0.2.1
  go_wp2_with fail
  go_ret
  exact ⟨rfl, (trans_ext (alloc_ext w (.cells #[.int .i64 d0.1, .slice A0 d0.2.1.length c0, .slice B0 d0.2.2.length e0] 36)) hx1)⟩

set_option maxHeartbeats 2000000 in
theorem law_IsAcyclic_m (A0 : Option Addr) (c0 : Nat) (B0 : Option Addr) (e0 : Nat) (d0 : Qd) (w : World) (q0 : QQ d0) (r0 : vQ w [.int .i64 d0.1, .slice A0 d0.2.1.length c0, .slice B0 d0.2.2.length e0] d0) (hz0 : 0 ≤ szQ (1048576) d0) (hy0 : szQ (1048576) d0 ≤ 1048576) (s0 : BQ d0) : Calls Try.prog 8 #[.agg #[.int .i64 d0.1, .slice A0 d0.2.1.length c0, .slice B0 d0.2.2.length e0]] w fun e w' => e = .returned (.bool true) ∧ ∃ y, w' = ext w y := by
  go_enter Try.func8, Try.ntmps8
  go_wp2_with fail
  refine (szQuery_d q0 (VD.toExt r0 (alloc_ext w (.cells #[.int .i64 d0.1, .slice A0 d0.2.1.length c0, .slice B0 d0.2.2.length e0] 36))) (by omega) (by omega)).mono ?_
  rintro e w1 ⟨rfl, hx1⟩
  have B1_0 : BoxAt w1 (w.heap.size) #[.int .i64 d0.1, .slice A0 d0.2.1.length c0, .slice B0 d0.2.2.length e0] := by obtain ⟨y, e⟩ := hx1; rw [e]; refine ⟨?_, fun j => ?_, fun j => ?_⟩ <;> go_simp
  have lB1_0 := B1_0.1
  have bB1_0 := B1_0.2.1
  go_wp2_with fail
  refine (toQuery_d s0 (VD.toExt r0 (trans_ext (alloc_ext w (.cells #[.int .i64 d0.1, .slice A0 d0.2.1.length c0, .slice B0 d0.2.2.length e0] 36)) hx1))).mono ?_
  rintro e w2 ⟨v2, u2, t2, F2, rfl, hx2, hS2, hN2, hF2⟩
  obtain ⟨A2, c2, B2, e2, rfl, rfl, rfl⟩ := sQ_form hS2
  have B2_0 : BoxAt w2 (w.heap.size) #[.int .i64 d0.1, .slice A0 d0.2.1.length c0, .slice B0 d0.2.2.length e0] := (B1_0.toExt hx2)
  have lB2_0 := B2_0.1
  have bB2_0 := B2_0.2.1
  clear lB1_0 bB1_0
  go_wp2_with fail
  refine (specIsAcyclic_any s0 (sQ_v _ _ _ hS2)).mono ?_
  rintro e w3 ⟨rfl, hx3⟩
  have B3_0 : BoxAt w3 (w.heap.size) #[.int .i64 d0.1, .slice A0 d0.2.1.length c0, .slice B0 d0.2.2.length e0] := (B2_0.toExt hx3)
  have lB3_0 := B3_0.1
  have bB3_0 := B3_0.2.1
  clear lB2_0 bB2_0
  go_wp2_with fail
  refine (toQuery_d s0 (VD.toExt r0 (trans_ext (trans_ext (trans_ext (alloc_ext w (.cells #[.int .i64 d0.1, .slice A0 d0.2.1.length c0, .slice B0 d0.2.2.length e0] 36)) hx1) hx2) hx3))).mono ?_
  rintro e w4 ⟨v4, u4, t4, F4, rfl, hx4, hS4, hN4, hF4⟩
  obtain ⟨A4, c4, B4, e4, rfl, rfl, rfl⟩ := sQ_form hS4
  have B4_0 : BoxAt w4 (w.heap.size) #[.int .i64 d0.1, .slice A0 d0.2.1.length c0, .slice B0 d0.2.2.length e0] := (B3_0.toExt hx4)
  have lB4_0 := B4_0.1
  have bB4_0 := B4_0.2.1
  clear lB3_0 bB3_0
  go_wp2_with fail
  refine (IsAcyclic_any s0 (sQ_v _ _ _ (OD.toExt hS4 (alloc_ext w4 (.cells #[.int .i64 d0.1, .slice A4 d0.2.1.length c4, .slice B4 d0.2.2.length e4] 41))))).mono ?_
  rintro e w5 ⟨rfl, hx5⟩
  have B5_0 : BoxAt w5 (w.heap.size) #[.int .i64 d0.1, .slice A0 d0.2.1.length c0, .slice B0 d0.2.2.length e0] := ((B4_0.toExt (alloc_ext w4 (.cells #[.int .i64 d0.1, .slice A4 d0.2.1.length c4, .slice B4 d0.2.2.length e4] 41))).toExt hx5)
  have B5_1 : BoxAt w5 (w4.heap.size) #[.int .i64 d0.1, .slice A4 d0.2.1.length c4, .slice B4 d0.2.2.length e4] := ((BoxAt.new _ _ _).toExt hx5)
  have lB5_0 := B5_0.1
  have bB5_0 := B5_0.2.1
  have lB5_1 := B5_1.1
  have bB5_1 := B5_1.2.1
  clear lB4_0 bB4_0
  go_wp2_with fail
  go_region_held3 (fun w' => (∀ a : Addr, a.block < w5.heap.size → w'.cell? a = w5.cell? a) ∧ ∃ y, w' = ext w5 y) (first | exact heldE (drew_ext w5) | exact heldE (trans_ext (drew_ext w5) hx6) | exact heldE (trans_ext (trans_ext (drew_ext w5) hx6) hx7)) (first | (go_at_call_of 24 (A0); refine (toQuery_d s0 (VD.toExt r0 (trans_ext (trans_ext (trans_ext (trans_ext (trans_ext (trans_ext (trans_ext (alloc_ext w (.cells #[.int .i64 d0.1, .slice A0 d0.2.1.length c0, .slice B0 d0.2.2.length e0] 36)) hx1) hx2) hx3) hx4) (alloc_ext w4 (.cells #[.int .i64 d0.1, .slice A4 d0.2.1.length c4, .slice B4 d0.2.2.length e4] 41))) hx5) (drew_ext w5)))).mono ?_; rintro e w6 ⟨v6, u6, t6, F6, rfl, hx6, hS6, hN6, hF6⟩; obtain ⟨A6, c6, B6, e6, rfl, rfl, rfl⟩ := sQ_form hS6) | (go_at_call 26; refine (eqQuery_d s0 (sQ_v _ _ _ (OD.toExt (OD.toExt (OD.toExt (OD.toExt hS4 (alloc_ext w4 (.cells #[.int .i64 d0.1, .slice A4 d0.2.1.length c4, .slice B4 d0.2.2.length e4] 41))) hx5) (drew_ext w5)) hx6)) s0 (sQ_v _ _ _ hS6)).mono ?_; rintro e w7 ⟨rfl, hx7⟩))
  have B7_0 : BoxAt w7 (w.heap.size) #[.int .i64 d0.1, .slice A0 d0.2.1.length c0, .slice B0 d0.2.2.length e0] := B5_0.toExt (trans_ext (trans_ext (drew_ext w5) hx6) hx7)
  have B7_1 : BoxAt w7 (w4.heap.size) #[.int .i64 d0.1, .slice A4 d0.2.1.length c4, .slice B4 d0.2.2.length e4] := B5_1.toExt (trans_ext (trans_ext (drew_ext w5) hx6) hx7)
  have lB7_0 := B7_0.1
  have bB7_0 := B7_0.2.1
  have lB7_1 := B7_1.1
  have bB7_1 := B7_1.2.1
  clear lB5_0 bB5_0 lB5_1 bB5_1
  go_wp2
  go_ret
  exact ⟨rfl, (trans_ext (trans_ext (trans_ext (trans_ext (trans_ext (trans_ext (trans_ext (trans_ext (trans_ext (alloc_ext w (.cells #[.int .i64 d0.1, .slice A0 d0.2.1.length c0, .slice B0 d0.2.2.length e0] 36)) hx1) hx2) hx3) hx4) (alloc_ext w4 (.cells #[.int .i64 d0.1, .slice A4 d0.2.1.length c4, .slice B4 d0.2.2.length e4] 41))) hx5) (drew_ext w5)) hx6) hx7)⟩

theorem law_IsAcyclic (A0 : Option Addr) (c0 : Nat) (B0 : Option Addr) (e0 : Nat) (d0 : Qd) (w : World) (q0 : QQ d0) (r0 : vQ w [.int .i64 d0.1, .slice A0 d0.2.1.length c0, .slice B0 d0.2.2.length e0] d0) : Calls Try.prog 8 #[.agg #[.int .i64 d0.1, .slice A0 d0.2.1.length c0, .slice B0 d0.2.2.length e0]] w fun e w' => e = .returned (.bool true) ∧ ∃ y, w' = ext w y := by
  by_cases hz0 : 0 ≤ szQ (1048576) d0
  · have hy0 : szQ (1048576) d0 ≤ 1048576 := szQ_le hz0
    have b09 := szQ_small q0.1 hz0 (by omega)
    exact law_IsAcyclic_m _ _ _ _ _ w q0 r0 hz0 hy0 (b09)
  · exact law_IsAcyclic_z0 _ _ _ _ _ w q0 r0 (by omega)

set_option maxRecDepth 100000 in
theorem lifted_FnExactIsAcyclic (os : Os) (started : os.Started) (H : Type) (enc : TypeId × Value → H) :
    ReturnsInHanded {} Try.checked os 8 .any (Rows.fnExactIsAcyclicSpec.pre6 enc Try.prog Try.f8 Rows.fnExactIsAcyclicRow.domain false) (Rows.fnExactIsAcyclicSpec.post enc Try.prog Try.f8 false true false false) := by
  refine returnsInHanded_of_change (C := Try.checked) Try.own started (by kernel_rfl) Try.func8 (ChangeSpec.witness6 (enc := enc) (C := Try.checked) false ⟨#[], #[.agg #[.int .i64 0, .slice none 0 0, .slice none 0 0]], []⟩ 8 (by kernel_rfl) (by kernel_rfl) (by kernel_rfl) (by kernel_rfl)) ?_
  intro W base args ds gs before hval0 hW hcnd _
  have hval : ∀ (j : Nat) t v, Try.f8.params[j]? = some t → args[j]? = some v → Value.okWide Try.prog W .any base t v := hval0
  clear hval0 hcnd
  obtain ⟨_, _, hA0, hV0, _, _, _⟩ := id hW
  have hA : DataW.TrodAll enc Try.prog W 0 (fun _ => true) true Try.f8.params.toList args.toList ds _ := hA0
  clear hA0
  rw [Try.params8] at hA hval
  obtain ⟨v0, d0, rfl, rfl, h0⟩ := trodAll_one hA
  obtain ⟨cs0, rfl, _⟩ := okWide_struct Try.underlying36 (hval 0 _ v0 rfl rfl)
  obtain ⟨d0, r0, qq0⟩ := openArg oQ h0
  obtain ⟨A0, c0, B0, e0, hc0⟩ := vQ_shape r0
  obtain rfl := agg3 hc0
  refine (law_IsAcyclic A0 c0 B0 e0 d0 W qq0 r0).mono fun e W' ⟨he, hw⟩ => ?_
  exact ⟨_, he, law_post Try.laidOut hW rfl rfl rfl Try.underlying4 (by kernel_rfl) hw⟩

theorem fnExactIsAcyclic_holds : Rows.FnExactIsAcyclicSaid :=
  OpenClaim.holds_of_wide 8 Try.f8 rfl rfl rfl rfl rfl rfl rfl ⟨rfl, rfl, rfl, rfl, rfl⟩ rfl rfl rfl rfl rfl (by kernel_rfl) Try.func8 (by kernel_rfl)
    (of_decide_eq_true (by kernel_rfl)) (by unfold Func.isWrapper; rw [if_neg (of_decide_eq_false (by kernel_rfl))]; exact ⟨rfl, rfl⟩)
    (fun os started H enc _ => lifted_FnExactIsAcyclic os started H enc)

end Go.Proofs.Ytoffbconbgipjaa
