/- For all arguments the program's ContainsVariable and the reference's give the same, the arguments are left alone, and what is handed back shares no memory with them. -/
import Derived.Test.YtjblggoekfmfpaaTypes
import Derived.Test.YtjblggoekfmfpaaAtom
namespace Go.Proofs.Ytjblggoekfmfpaa
open Go.ChangeShapes Go.WideShapes Go.ChangeAt Go.RowKit

set_option maxHeartbeats 2000000 in
theorem law_ContainsVariable_z0 (t0 : ByteArray) (A0 : Option Addr) (c0 : Nat) (x0 : List Int) (n1 : Int) (w : World) (k0 : t0.size ≤ 9223372036854775807) (l0 : x0.length ≤ 9223372036854775807) (hz0 : szA (1048576) t0.size x0.length < 0) : Calls Try.prog 6 #[.agg #[.string t0, .slice A0 x0.length c0], .int .i64 n1] w fun e w' => e = .returned (.bool true) ∧ ∃ y, w' = ext w y := by
  go_enter Try.func6, Try.ntmps6
  go_wp2_with fail
  refine (szAtom_any k0 l0 (by omega) (by omega)).mono ?_
  rintro e w1 ⟨rfl, hx1⟩
  have B1_0 : BoxAt w1 (w.heap.size) #[.string t0, .slice A0 x0.length c0] := by obtain ⟨y, e⟩ := hx1; rw [e]; refine ⟨?_, fun j => ?_⟩ <;> go_simp
  have lB1_0 := B1_0.1
  have bB1_0 := B1_0.2
  go_wp2_with fail
  go_ret
  exact ⟨rfl, (trans_ext (alloc_ext w (.cells #[.string t0, .slice A0 x0.length c0] 40)) hx1)⟩

set_option maxHeartbeats 2000000 in
theorem law_ContainsVariable_m (t0 : ByteArray) (A0 : Option Addr) (c0 : Nat) (x0 : List Int) (n1 : Int) (w : World) (k0 : t0.size ≤ 9223372036854775807) (l0 : x0.length ≤ 9223372036854775807) (r0 : RI w A0 x0) (hz0 : 0 ≤ szA (1048576) t0.size x0.length) (hy0 : szA (1048576) t0.size x0.length ≤ 1048576) (s0 : x0.length ≤ 1048576) : Calls Try.prog 6 #[.agg #[.string t0, .slice A0 x0.length c0], .int .i64 n1] w fun e w' => e = .returned (.bool true) ∧ ∃ y, w' = ext w y := by
  go_enter Try.func6, Try.ntmps6
  go_wp2_with fail
  refine (szAtom_any k0 l0 (by omega) (by omega)).mono ?_
  rintro e w1 ⟨rfl, hx1⟩
  have B1_0 : BoxAt w1 (w.heap.size) #[.string t0, .slice A0 x0.length c0] := by obtain ⟨y, e⟩ := hx1; rw [e]; refine ⟨?_, fun j => ?_⟩ <;> go_simp
  have lB1_0 := B1_0.1
  have bB1_0 := B1_0.2
  go_wp2_with fail
  refine (toAtom_any s0 (r0.toExt (trans_ext (alloc_ext w (.cells #[.string t0, .slice A0 x0.length c0] 40)) hx1))).mono ?_
  rintro e w2 ⟨v2, F2, rfl, hx2, hS2, hF2⟩
  obtain ⟨A2, c2, rfl, _, _, r2⟩ := hS2.view sI_v
  have B2_0 : BoxAt w2 (w.heap.size) #[.string t0, .slice A0 x0.length c0] := (B1_0.toExt hx2)
  have lB2_0 := B2_0.1
  have bB2_0 := B2_0.2
  clear lB1_0 bB1_0
  go_wp2_with fail
  refine (specContains_any (by omega) r2 ).mono ?_
  rintro e w3 ⟨rfl, hx3⟩
  have B3_0 : BoxAt w3 (w.heap.size) #[.string t0, .slice A0 x0.length c0] := (B2_0.toExt hx3)
  have lB3_0 := B3_0.1
  have bB3_0 := B3_0.2
  clear lB2_0 bB2_0
  go_wp2_with fail
  refine (toAtom_any s0 (r0.toExt (trans_ext (trans_ext (trans_ext (alloc_ext w (.cells #[.string t0, .slice A0 x0.length c0] 40)) hx1) hx2) hx3))).mono ?_
  rintro e w4 ⟨v4, F4, rfl, hx4, hS4, hF4⟩
  obtain ⟨A4, c4, rfl, _, _, r4⟩ := hS4.view sI_v
  have B4_0 : BoxAt w4 (w.heap.size) #[.string t0, .slice A0 x0.length c0] := (B3_0.toExt hx4)
  have lB4_0 := B4_0.1
  have bB4_0 := B4_0.2
  clear lB3_0 bB3_0
  go_wp2_with fail
  refine (Contains_any (by omega) (r4.toExt (alloc_ext w4 (.cells #[.string t0, .slice A4 x0.length c4] 43))) ).mono ?_
  rintro e w5 ⟨rfl, hx5⟩
  have B5_0 : BoxAt w5 (w.heap.size) #[.string t0, .slice A0 x0.length c0] := ((B4_0.toExt (alloc_ext w4 (.cells #[.string t0, .slice A4 x0.length c4] 43))).toExt hx5)
  have B5_1 : BoxAt w5 (w4.heap.size) #[.string t0, .slice A4 x0.length c4] := ((BoxAt.new _ _ _).toExt hx5)
  have lB5_0 := B5_0.1
  have bB5_0 := B5_0.2
  have lB5_1 := B5_1.1
  have bB5_1 := B5_1.2
  clear lB4_0 bB4_0
  go_wp2_with fail
  go_region_held3 (fun w' => (∀ a : Addr, a.block < w5.heap.size → w'.cell? a = w5.cell? a) ∧ ∃ y, w' = ext w5 y) (first | exact heldE (drew_ext w5) | exact heldE (trans_ext (drew_ext w5) hx6) | exact heldE (trans_ext (trans_ext (drew_ext w5) hx6) hx7)) (first | (go_at_call_of 24 (A0); refine (toAtom_any s0 (r0.toExt (trans_ext (trans_ext (trans_ext (trans_ext (trans_ext (trans_ext (trans_ext (alloc_ext w (.cells #[.string t0, .slice A0 x0.length c0] 40)) hx1) hx2) hx3) hx4) (alloc_ext w4 (.cells #[.string t0, .slice A4 x0.length c4] 43))) hx5) (drew_ext w5)))).mono ?_; rintro e w6 ⟨v6, F6, rfl, hx6, hS6, hF6⟩; obtain ⟨A6, c6, rfl, _, _, r6⟩ := hS6.view sI_v) | (go_at_call 26; refine (eqAtom_any (by omega) (r4.toExt (trans_ext (trans_ext (trans_ext (alloc_ext w4 (.cells #[.string t0, .slice A4 x0.length c4] 43)) hx5) (drew_ext w5)) hx6)) (by omega) r6).mono ?_; rintro e w7 ⟨rfl, hx7⟩))
  have B7_0 : BoxAt w7 (w.heap.size) #[.string t0, .slice A0 x0.length c0] := B5_0.toExt (trans_ext (trans_ext (drew_ext w5) hx6) hx7)
  have B7_1 : BoxAt w7 (w4.heap.size) #[.string t0, .slice A4 x0.length c4] := B5_1.toExt (trans_ext (trans_ext (drew_ext w5) hx6) hx7)
  have lB7_0 := B7_0.1
  have bB7_0 := B7_0.2
  have lB7_1 := B7_1.1
  have bB7_1 := B7_1.2
  clear lB5_0 bB5_0 lB5_1 bB5_1
  go_wp2
  go_ret
  exact ⟨rfl, (trans_ext (trans_ext (trans_ext (trans_ext (trans_ext (trans_ext (trans_ext (trans_ext (trans_ext (alloc_ext w (.cells #[.string t0, .slice A0 x0.length c0] 40)) hx1) hx2) hx3) hx4) (alloc_ext w4 (.cells #[.string t0, .slice A4 x0.length c4] 43))) hx5) (drew_ext w5)) hx6) hx7)⟩

theorem law_ContainsVariable (t0 : ByteArray) (A0 : Option Addr) (c0 : Nat) (x0 : List Int) (n1 : Int) (w : World) (k0 : t0.size ≤ 9223372036854775807) (l0 : x0.length ≤ 9223372036854775807) (r0 : RI w A0 x0) : Calls Try.prog 6 #[.agg #[.string t0, .slice A0 x0.length c0], .int .i64 n1] w fun e w' => e = .returned (.bool true) ∧ ∃ y, w' = ext w y := by
  by_cases hz0 : 0 ≤ szA (1048576) t0.size x0.length
  · have hy0 : szA (1048576) t0.size x0.length ≤ 1048576 := szA_le hz0
    have q0 := szA_small hz0
    exact law_ContainsVariable_m _ _ _ _ _ w k0 l0 r0 hz0 hy0 (by omega)
  · exact law_ContainsVariable_z0 _ _ _ _ _ w k0 l0 (by omega)

set_option maxRecDepth 100000 in
theorem lifted_FnExactContainsVariable (os : Os) (started : os.Started) (H : Type) (enc : TypeId × Value → H) :
    ReturnsInHanded {} Try.checked os 6 .any (Rows.fnExactContainsVariableSpec.pre6 enc Try.prog Try.f6 Rows.fnExactContainsVariableRow.domain false) (Rows.fnExactContainsVariableSpec.post enc Try.prog Try.f6 false true false false) := by
  refine returnsInHanded_of_change (C := Try.checked) Try.own started (by kernel_rfl) Try.func6 (ChangeSpec.witness6 (enc := enc) (C := Try.checked) false ⟨#[], #[.agg #[.string ⟨#[]⟩, .slice none 0 0], .int .i64 0], []⟩ 8 (by kernel_rfl) (by kernel_rfl) (by kernel_rfl) (by kernel_rfl)) ?_
  intro W base args ds gs before hval0 hW hcnd _
  have hval : ∀ (j : Nat) t v, Try.f6.params[j]? = some t → args[j]? = some v → Value.okWide Try.prog W .any base t v := hval0
  clear hval0 hcnd
  obtain ⟨_, _, hA0, hV0, _, _, _⟩ := id hW
  have hA : DataW.TrodAll enc Try.prog W 0 (fun _ => true) true Try.f6.params.toList args.toList ds _ := hA0
  clear hA0
  rw [Try.params6] at hA hval
  obtain ⟨v0, v1, d0, d1, p0, p1, rfl, rfl, e9, h0, h1⟩ := trodAll_two hA
  obtain ⟨cs0, rfl, _⟩ := okWide_struct Try.underlying40 (hval 0 _ v0 rfl rfl)
  obtain ⟨⟨t0, x0⟩, ⟨_, _, hc0, _, rfl, A0, c0, rfl, r0⟩, k0, l0, _⟩ := openArg oAtom h0
  obtain rfl := agg2 hc0
  obtain ⟨n1, rfl, rfl, rfl, _⟩ := open_int Try.underlying3 (hval 1 3 v1 rfl rfl) h1
  refine (law_ContainsVariable t0 A0 c0 x0 n1 W (le_maxLen k0) (le_maxLen l0) r0).mono fun e W' ⟨he, hw⟩ => ?_
  exact ⟨_, he, law_post Try.laidOut hW rfl rfl rfl Try.underlying4 (by kernel_rfl) hw⟩

theorem fnExactContainsVariable_holds : Rows.FnExactContainsVariableSaid :=
  OpenClaim.holds_of_wide 6 Try.f6 rfl rfl rfl rfl rfl rfl rfl ⟨rfl, rfl, rfl, rfl, rfl⟩ rfl rfl rfl rfl rfl (by kernel_rfl) Try.func6 (by kernel_rfl)
    (of_decide_eq_true (by kernel_rfl)) (by unfold Func.isWrapper; rw [if_neg (of_decide_eq_false (by kernel_rfl))]; exact ⟨rfl, rfl⟩)
    (fun os started H enc _ => lifted_FnExactContainsVariable os started H enc)

end Go.Proofs.Ytjblggoekfmfpaa
