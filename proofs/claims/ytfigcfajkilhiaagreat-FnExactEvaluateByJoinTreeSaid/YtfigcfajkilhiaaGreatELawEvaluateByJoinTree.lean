/- For all arguments the program's EvaluateByJoinTree and the reference's give the same, the arguments are left alone, and what is handed back shares no memory with them. -/
import Derived.Test.YtfigcfajkilhiaaGreatE37
namespace Go.Proofs.YtfigcfajkilhiaaGreat
open Go.ChangeShapes Go.WideShapes Go.ChangeAt Go.RowKit
set_option maxRecDepth 100000 in
theorem lifted_FnExactEvaluateByJoinTree (os : Os) (started : os.Started) (H : Type) (enc : TypeId × Value → H) :
    ReturnsInHanded {} Tryz.checked os 4 .any (Rows.fnExactEvaluateByJoinTreeSpec.pre6 enc Tryz.prog Tryz.f4 Rows.fnExactEvaluateByJoinTreeRow.domain false) (Rows.fnExactEvaluateByJoinTreeSpec.post enc Tryz.prog Tryz.f4 false true false false) := by
  refine returnsInHanded_of_change (C := Tryz.checked) Tryz.own started (by kernel_rfl) Tryz.func4 (ChangeSpec.witness6 (enc := enc) (C := Tryz.checked) false ⟨#[], #[.agg #[.slice none 0 0], .agg #[.int .i64 0, .slice none 0 0, .slice none 0 0], .agg #[.slice none 0 0]], []⟩ 8 (by kernel_rfl) (by kernel_rfl) (by kernel_rfl) (by kernel_rfl)) ?_
  intro W base args ds gs before hval0 hW hcnd _
  have hval : ∀ (j : Nat) t v, Tryz.f4.params[j]? = some t → args[j]? = some v → Value.okWide Tryz.prog W .any base t v := hval0
  clear hval0 hcnd
  obtain ⟨_, _, hA0, hV0, _, _, _⟩ := id hW
  have hA : DataW.TrodAll enc Tryz.prog W 0 (fun _ => true) true Tryz.f4.params.toList args.toList ds _ := hA0
  clear hA0
  rw [Tryz.params4] at hA hval
  obtain ⟨v0, v1, v2, d0, d1, d2, p0, p1, p2, rfl, rfl, e9, h0, h1, h2⟩ := trodAll_three hA
  obtain ⟨cs0, rfl, _⟩ := okWide_struct Tryz.underlying24 (hval 0 _ v0 rfl rfl)
  obtain ⟨d0, r0, qq0⟩ := openArg oDb h0
  obtain ⟨A0, c0, hc0⟩ := vDb_shape r0
  obtain rfl := agg1 hc0
  obtain ⟨cs1, rfl, _⟩ := okWide_struct Tryz.underlying28 (hval 1 _ v1 rfl rfl)
  obtain ⟨d1, r1, qq1⟩ := openArg oQ h1
  obtain ⟨A1, c1, B1, e1, hc1⟩ := vQ_shape r1
  obtain rfl := agg3 hc1
  obtain ⟨cs2, rfl, _⟩ := okWide_struct Tryz.underlying30 (hval 2 _ v2 rfl rfl)
  obtain ⟨x2, ⟨A2, c2, hc2, r2⟩, l2, _⟩ := openArg oForest h2
  obtain rfl := agg1 hc2
  refine (law_EvaluateByJoinTree A0 c0 d0 A1 c1 B1 e1 d1 A2 (x2.length + c2) x2 W qq0 r0 qq1 r1 (le_maxLen l2) r2).mono fun e W' ⟨he, hw⟩ => ?_
  exact ⟨_, he, law_post Tryz.laidOut hW rfl rfl rfl Tryz.underlying4 (by kernel_rfl) hw⟩
theorem fnExactEvaluateByJoinTree_and {a b : Bool} (ha : a = true) (hb : b = true) : (a && b) = true := by rw [ha, hb]; rfl
set_option maxHeartbeats 16000000 in
theorem fnExactEvaluateByJoinTree_closed : joinedFacts Tryz.checked.prog 4 Tryz.f4 Rows.fnExactEvaluateByJoinTreeSpec Rows.fnExactEvaluateByJoinTreeRow = true := by
  unfold joinedFacts
  repeat' (with_reducible refine fnExactEvaluateByJoinTree_and ?_ ?_)
  all_goals (as_aux_lemma => kernel_rfl)
theorem fnExactEvaluateByJoinTree_holds : Rows.FnExactEvaluateByJoinTreeSaid :=
  OpenClaim.holds_of_wide 4 Tryz.f4 rfl rfl rfl rfl rfl rfl rfl ⟨rfl, rfl, rfl, rfl, rfl⟩ rfl rfl rfl rfl rfl (by kernel_rfl) Tryz.func4 fnExactEvaluateByJoinTree_closed
    (of_decide_eq_true (by kernel_rfl)) (by unfold Func.isWrapper; rw [if_neg (of_decide_eq_false (by kernel_rfl))]; exact ⟨rfl, rfl⟩)
    (fun os started H enc _ => lifted_FnExactEvaluateByJoinTree os started H enc)
end Go.Proofs.YtfigcfajkilhiaaGreat
