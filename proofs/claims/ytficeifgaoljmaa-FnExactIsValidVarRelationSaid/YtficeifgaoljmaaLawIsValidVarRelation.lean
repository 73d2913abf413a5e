/- For all arguments the program's IsValidVarRelation and the reference's give the same, the arguments are left alone, and what is handed back shares no memory with them. -/
import Derived.Test.YtficeifgaoljmaaTypes
import Derived.Test.YtficeifgaoljmaaRelT
import Derived.Test.YtficeifgaoljmaaTypesR
import Derived.Test.YtficeifgaoljmaaRelOk2
namespace Go.Proofs.Ytficeifgaoljmaa
open Go.ChangeShapes Go.WideShapes Go.ChangeAt Go.RowKit

set_option maxHeartbeats 2000000 in
theorem law_IsValidVarRelation_z0 (A0 : Option Addr) (c0 : Nat) (B0 : Option Addr) (e0 : Nat) (d0 : VRd) (w : World) (q0 : QVR d0) (r0 : vVR w [.slice A0 d0.1.length c0, .int .i64 d0.2.1, .slice B0 d0.2.2.length e0] d0) (hz0 : szVR (1048576) d0 < 0) : Calls Try.prog 4 #[.agg #[.slice A0 d0.1.length c0, .int .i64 d0.2.1, .slice B0 d0.2.2.length e0]] w fun e w' => e = .returned (.bool true) ∧ ∃ y, w' = ext w y := by
  go_enter Try.func4, Try.ntmps4
  go_wp2_with fail
  refine (szVarRelation_d q0 (VD.toExt r0 (alloc_ext w (.cells #[.slice A0 d0.1.length c0, .int .i64 d0.2.1, .slice B0 d0.2.2.length e0] 27))) (by omega) (by omega)).mono ?_
  rintro e w1 ⟨rfl, hx1⟩
  have B1_0 : BoxAt w1 (w.heap.size) #[.slice A0 d0.1.length c0, .int .i64 d0.2.1, .slice B0 d0.2.2.length e0] := by obtain ⟨y, e⟩ := hx1; rw [e]; refine ⟨?_, fun j => ?_, fun j => ?_⟩ <;> go_simp
  have lB1_0 := B1_0.1
  have bB1_0 := B1_0.2.1
  go_wp2_with fail
  go_ret
  exact ⟨rfl, (trans_ext (alloc_ext w (.cells #[.slice A0 d0.1.length c0, .int .i64 d0.2.1, .slice B0 d0.2.2.length e0] 27)) hx1)⟩

set_option maxHeartbeats 2000000 in
theorem law_IsValidVarRelation_m (A0 : Option Addr) (c0 : Nat) (B0 : Option Addr) (e0 : Nat) (d0 : VRd) (w : World) (q0 : QVR d0) (r0 : vVR w [.slice A0 d0.1.length c0, .int .i64 d0.2.1, .slice B0 d0.2.2.length e0] d0) (hz0 : 0 ≤ szVR (1048576) d0) (hy0 : szVR (1048576) d0 ≤ 1048576) (s0 : BVR d0) : Calls Try.prog 4 #[.agg #[.slice A0 d0.1.length c0, .int .i64 d0.2.1, .slice B0 d0.2.2.length e0]] w fun e w' => e = .returned (.bool true) ∧ ∃ y, w' = ext w y := by
  go_enter Try.func4, Try.ntmps4
  go_wp2_with fail
  refine (szVarRelation_d q0 (VD.toExt r0 (alloc_ext w (.cells #[.slice A0 d0.1.length c0, .int .i64 d0.2.1, .slice B0 d0.2.2.length e0] 27))) (by omega) (by omega)).mono ?_
  rintro e w1 ⟨rfl, hx1⟩
  have B1_0 : BoxAt w1 (w.heap.size) #[.slice A0 d0.1.length c0, .int .i64 d0.2.1, .slice B0 d0.2.2.length e0] := by obtain ⟨y, e⟩ := hx1; rw [e]; refine ⟨?_, fun j => ?_, fun j => ?_⟩ <;> go_simp
  have lB1_0 := B1_0.1
  have bB1_0 := B1_0.2.1
  go_wp2_with fail
  refine (toVarRelation_d s0 (VD.toExt r0 (trans_ext (alloc_ext w (.cells #[.slice A0 d0.1.length c0, .int .i64 d0.2.1, .slice B0 d0.2.2.length e0] 27)) hx1))).mono ?_
  rintro e w2 ⟨v2, u2, t2, F2, rfl, hx2, hS2, hN2, hF2⟩
  obtain ⟨A2, c2, B2, e2, rfl, rfl, rfl⟩ := sVR_form hS2
  have B2_0 : BoxAt w2 (w.heap.size) #[.slice A0 d0.1.length c0, .int .i64 d0.2.1, .slice B0 d0.2.2.length e0] := (B1_0.toExt hx2)
  have lB2_0 := B2_0.1
  have bB2_0 := B2_0.2.1
  clear lB1_0 bB1_0
  go_wp2_with fail
  refine (specIsValidVarRelation_any s0 (sVR_v _ _ _ hS2)).mono ?_
  rintro e w3 ⟨rfl, hx3⟩
  have B3_0 : BoxAt w3 (w.heap.size) #[.slice A0 d0.1.length c0, .int .i64 d0.2.1, .slice B0 d0.2.2.length e0] := (B2_0.toExt hx3)
  have lB3_0 := B3_0.1
  have bB3_0 := B3_0.2.1
  clear lB2_0 bB2_0
  go_wp2_with fail
  refine (toVarRelation_d s0 (VD.toExt r0 (trans_ext (trans_ext (trans_ext (alloc_ext w (.cells #[.slice A0 d0.1.length c0, .int .i64 d0.2.1, .slice B0 d0.2.2.length e0] 27)) hx1) hx2) hx3))).mono ?_
  rintro e w4 ⟨v4, u4, t4, F4, rfl, hx4, hS4, hN4, hF4⟩
  obtain ⟨A4, c4, B4, e4, rfl, rfl, rfl⟩ := sVR_form hS4
  have B4_0 : BoxAt w4 (w.heap.size) #[.slice A0 d0.1.length c0, .int .i64 d0.2.1, .slice B0 d0.2.2.length e0] := (B3_0.toExt hx4)
  have lB4_0 := B4_0.1
  have bB4_0 := B4_0.2.1
  clear lB3_0 bB3_0
  go_wp2_with fail
  refine (IsValidVarRelation_any s0 (sVR_v _ _ _ (OD.toExt hS4 (alloc_ext w4 (.cells #[.slice A4 d0.1.length c4, .int .i64 d0.2.1, .slice B4 d0.2.2.length e4] 32))))).mono ?_
  rintro e w5 ⟨rfl, hx5⟩
  have B5_0 : BoxAt w5 (w.heap.size) #[.slice A0 d0.1.length c0, .int .i64 d0.2.1, .slice B0 d0.2.2.length e0] := ((B4_0.toExt (alloc_ext w4 (.cells #[.slice A4 d0.1.length c4, .int .i64 d0.2.1, .slice B4 d0.2.2.length e4] 32))).toExt hx5)
  have B5_1 : BoxAt w5 (w4.heap.size) #[.slice A4 d0.1.length c4, .int .i64 d0.2.1, .slice B4 d0.2.2.length e4] := ((BoxAt.new _ _ _).toExt hx5)
  have lB5_0 := B5_0.1
  have bB5_0 := B5_0.2.1
  have lB5_1 := B5_1.1
  have bB5_1 := B5_1.2.1
  clear lB4_0 bB4_0
  go_wp2_with fail
  go_region_held3 (fun w' => (∀ a : Addr, a.block < w5.heap.size → w'.cell? a = w5.cell? a) ∧ ∃ y, w' = ext w5 y) (first | exact heldE (drew_ext w5) | exact heldE (trans_ext (drew_ext w5) hx6) | exact heldE (trans_ext (trans_ext (drew_ext w5) hx6) hx7)) (first | (go_at_call_of 7 (A0); refine (toVarRelation_d s0 (VD.toExt r0 (trans_ext (trans_ext (trans_ext (trans_ext (trans_ext (trans_ext (trans_ext (alloc_ext w (.cells #[.slice A0 d0.1.length c0, .int .i64 d0.2.1, .slice B0 d0.2.2.length e0] 27)) hx1) hx2) hx3) hx4) (alloc_ext w4 (.cells #[.slice A4 d0.1.length c4, .int .i64 d0.2.1, .slice B4 d0.2.2.length e4] 32))) hx5) (drew_ext w5)))).mono ?_; rintro e w6 ⟨v6, u6, t6, F6, rfl, hx6, hS6, hN6, hF6⟩; obtain ⟨A6, c6, B6, e6, rfl, rfl, rfl⟩ := sVR_form hS6) | (go_at_call 9; refine (eqVarRelation_d s0 (sVR_v _ _ _ (OD.toExt (OD.toExt (OD.toExt (OD.toExt hS4 (alloc_ext w4 (.cells #[.slice A4 d0.1.length c4, .int .i64 d0.2.1, .slice B4 d0.2.2.length e4] 32))) hx5) (drew_ext w5)) hx6)) s0 (sVR_v _ _ _ hS6)).mono ?_; rintro e w7 ⟨rfl, hx7⟩))
  have B7_0 : BoxAt w7 (w.heap.size) #[.slice A0 d0.1.length c0, .int .i64 d0.2.1, .slice B0 d0.2.2.length e0] := B5_0.toExt (trans_ext (trans_ext (drew_ext w5) hx6) hx7)
  have B7_1 : BoxAt w7 (w4.heap.size) #[.slice A4 d0.1.length c4, .int .i64 d0.2.1, .slice B4 d0.2.2.length e4] := B5_1.toExt (trans_ext (trans_ext (drew_ext w5) hx6) hx7)
  have lB7_0 := B7_0.1
  have bB7_0 := B7_0.2.1
  have lB7_1 := B7_1.1
  have bB7_1 := B7_1.2.1
  clear lB5_0 bB5_0 lB5_1 bB5_1
  go_wp2
  go_ret
  exact ⟨rfl, (trans_ext (trans_ext (trans_ext (trans_ext (trans_ext (trans_ext (trans_ext (trans_ext (trans_ext (alloc_ext w (.cells #[.slice A0 d0.1.length c0, .int .i64 d0.2.1, .slice B0 d0.2.2.length e0] 27)) hx1) hx2) hx3) hx4) (alloc_ext w4 (.cells #[.slice A4 d0.1.length c4, .int .i64 d0.2.1, .slice B4 d0.2.2.length e4] 32))) hx5) (drew_ext w5)) hx6) hx7)⟩

theorem law_IsValidVarRelation (A0 : Option Addr) (c0 : Nat) (B0 : Option Addr) (e0 : Nat) (d0 : VRd) (w : World) (q0 : QVR d0) (r0 : vVR w [.slice A0 d0.1.length c0, .int .i64 d0.2.1, .slice B0 d0.2.2.length e0] d0) : Calls Try.prog 4 #[.agg #[.slice A0 d0.1.length c0, .int .i64 d0.2.1, .slice B0 d0.2.2.length e0]] w fun e w' => e = .returned (.bool true) ∧ ∃ y, w' = ext w y := by
  by_cases hz0 : 0 ≤ szVR (1048576) d0
  · have hy0 : szVR (1048576) d0 ≤ 1048576 := szVR_le hz0
    have b09 := szVR_small q0.2.1 hz0 (by omega)
    exact law_IsValidVarRelation_m _ _ _ _ _ w q0 r0 hz0 hy0 (b09)
  · exact law_IsValidVarRelation_z0 _ _ _ _ _ w q0 r0 (by omega)

set_option maxRecDepth 100000 in
theorem lifted_FnExactIsValidVarRelation (os : Os) (started : os.Started) (H : Type) (enc : TypeId × Value → H) :
    ReturnsInHanded {} Try.checked os 4 .any (Rows.fnExactIsValidVarRelationSpec.pre6 enc Try.prog Try.f4 Rows.fnExactIsValidVarRelationRow.domain false) (Rows.fnExactIsValidVarRelationSpec.post enc Try.prog Try.f4 false true false false) := by
  refine returnsInHanded_of_change (C := Try.checked) Try.own started (by kernel_rfl) Try.func4 (ChangeSpec.witness6 (enc := enc) (C := Try.checked) false ⟨#[], #[.agg #[.slice none 0 0, .int .i64 0, .slice none 0 0]], []⟩ 8 (by kernel_rfl) (by kernel_rfl) (by kernel_rfl) (by kernel_rfl)) ?_
  intro W base args ds gs before hval0 hW hcnd _
  have hval : ∀ (j : Nat) t v, Try.f4.params[j]? = some t → args[j]? = some v → Value.okWide Try.prog W .any base t v := hval0
  clear hval0 hcnd
  obtain ⟨_, _, hA0, hV0, _, _, _⟩ := id hW
  have hA : DataW.TrodAll enc Try.prog W 0 (fun _ => true) true Try.f4.params.toList args.toList ds _ := hA0
  clear hA0
  rw [Try.params4] at hA hval
  obtain ⟨v0, d0, rfl, rfl, h0⟩ := trodAll_one hA
  obtain ⟨cs0, rfl, _⟩ := okWide_struct Try.underlying27 (hval 0 _ v0 rfl rfl)
  obtain ⟨d0, r0, qq0⟩ := openArg oVR h0
  obtain ⟨A0, c0, B0, e0, hc0⟩ := vVR_shape r0
  obtain rfl := agg3 hc0
  refine (law_IsValidVarRelation A0 c0 B0 e0 d0 W qq0 r0).mono fun e W' ⟨he, hw⟩ => ?_
  exact ⟨_, he, law_post Try.laidOut hW rfl rfl rfl Try.underlying4 (by kernel_rfl) hw⟩

theorem fnExactIsValidVarRelation_holds : Rows.FnExactIsValidVarRelationSaid :=
  OpenClaim.holds_of_wide 4 Try.f4 rfl rfl rfl rfl rfl rfl rfl ⟨rfl, rfl, rfl, rfl, rfl⟩ rfl rfl rfl rfl rfl (by kernel_rfl) Try.func4 (by kernel_rfl)
    (of_decide_eq_true (by kernel_rfl)) (by unfold Func.isWrapper; rw [if_neg (of_decide_eq_false (by kernel_rfl))]; exact ⟨rfl, rfl⟩)
    (fun os started H enc _ => lifted_FnExactIsValidVarRelation os started H enc)

end Go.Proofs.Ytficeifgaoljmaa
