/- For all arguments the program's EvaluateQuery and the reference's give the same, the arguments are left alone, and what is handed back shares no memory with them. -/
import Derived.Test.YtfigcfajkilhiaaXLawEvaluateQuerya
namespace Go.Proofs.Ytfigcfajkilhiaa
open Go.ChangeShapes Go.WideShapes Go.ChangeAt Go.RowKit

set_option maxRecDepth 100000 in
theorem lifted_FnExactEvaluateQuery (os : Os) (started : os.Started) (H : Type) (enc : TypeId × Value → H) :
    ReturnsInHanded {} Try.checked os 7 .any (Rows.fnExactEvaluateQuerySpec.pre6 enc Try.prog Try.f7 Rows.fnExactEvaluateQueryRow.domain false) (Rows.fnExactEvaluateQuerySpec.post enc Try.prog Try.f7 false true false false) := by
  refine returnsInHanded_of_change (C := Try.checked) Try.own started (by kernel_rfl) Try.func7 (ChangeSpec.witness6 (enc := enc) (C := Try.checked) false ⟨#[], #[.agg #[.slice none 0 0], .agg #[.int .i64 0, .slice none 0 0, .slice none 0 0]], []⟩ 8 (by kernel_rfl) (by kernel_rfl) (by kernel_rfl) (by kernel_rfl)) ?_
  intro W base args ds gs before hval0 hW hcnd _
  have hval : ∀ (j : Nat) t v, Try.f7.params[j]? = some t → args[j]? = some v → Value.okWide Try.prog W .any base t v := hval0
  clear hval0 hcnd
  obtain ⟨_, _, hA0, hV0, _, _, _⟩ := id hW
  have hA : DataW.TrodAll enc Try.prog W 0 (fun _ => true) true Try.f7.params.toList args.toList ds _ := hA0
  clear hA0
  rw [Try.params7] at hA hval
  obtain ⟨v0, v1, d0, d1, p0, p1, rfl, rfl, e9, h0, h1⟩ := trodAll_two hA
  obtain ⟨cs0, rfl, _⟩ := okWide_struct Try.underlying24 (hval 0 _ v0 rfl rfl)
  obtain ⟨d0, r0, qq0⟩ := openArg oDb h0
  obtain ⟨A0, c0, hc0⟩ := vDb_shape r0
  obtain rfl := agg1 hc0
  obtain ⟨cs1, rfl, _⟩ := okWide_struct Try.underlying50 (hval 1 _ v1 rfl rfl)
  obtain ⟨d1, r1, qq1⟩ := openArg oQ h1
  obtain ⟨A1, c1, B1, e1, hc1⟩ := vQ_shape r1
  obtain rfl := agg3 hc1
  refine (law_EvaluateQuery A0 c0 d0 A1 c1 B1 e1 d1 W qq0 r0 qq1 r1).mono fun e W' ⟨he, hw⟩ => ?_
  exact ⟨_, he, law_post Try.laidOut hW rfl rfl rfl Try.underlying4 (by kernel_rfl) hw⟩

theorem fnExactEvaluateQuery_and {a b : Bool} (ha : a = true) (hb : b = true) : (a && b) = true := by rw [ha, hb]; rfl
set_option maxHeartbeats 16000000 in
theorem fnExactEvaluateQuery_closed : joinedFacts Try.checked.prog 7 Try.f7 Rows.fnExactEvaluateQuerySpec Rows.fnExactEvaluateQueryRow = true := by
  unfold joinedFacts
  repeat' (with_reducible refine fnExactEvaluateQuery_and ?_ ?_)
  all_goals (as_aux_lemma => kernel_rfl)
theorem fnExactEvaluateQuery_holds : Rows.FnExactEvaluateQuerySaid :=
  OpenClaim.holds_of_wide 7 Try.f7 rfl rfl rfl rfl rfl rfl rfl ⟨rfl, rfl, rfl, rfl, rfl⟩ rfl rfl rfl rfl rfl (by kernel_rfl) Try.func7 fnExactEvaluateQuery_closed
    (of_decide_eq_true (by kernel_rfl)) (by unfold Func.isWrapper; rw [if_neg (of_decide_eq_false (by kernel_rfl))]; exact ⟨rfl, rfl⟩)
    (fun os started H enc _ => lifted_FnExactEvaluateQuery os started H enc)

end Go.Proofs.Ytfigcfajkilhiaa
