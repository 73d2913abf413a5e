/- For all arguments the program's FormatDatabase and the reference's give the same, the arguments are left alone, and what is handed back shares no memory with them. -/
import Derived.Test.YtfigcfajkilhiaaXLawFormatDatabasea
namespace Go.Proofs.Ytfigcfajkilhiaa
open Go.ChangeShapes Go.WideShapes Go.ChangeAt Go.RowKit

set_option maxRecDepth 100000 in
theorem lifted_FnExactFormatDatabase (os : Os) (started : os.Started) (H : Type) (enc : TypeId × Value → H) :
    ReturnsInHanded {} Try.checked os 3 .any (Rows.fnExactFormatDatabaseSpec.pre6 enc Try.prog Try.f3 Rows.fnExactFormatDatabaseRow.domain false) (Rows.fnExactFormatDatabaseSpec.post enc Try.prog Try.f3 false true false false) := by
  refine returnsInHanded_of_change (C := Try.checked) Try.own started (by kernel_rfl) Try.func3 (ChangeSpec.witness6 (enc := enc) (C := Try.checked) false ⟨#[], #[.agg #[.slice none 0 0]], []⟩ 8 (by kernel_rfl) (by kernel_rfl) (by kernel_rfl) (by kernel_rfl)) ?_
  intro W base args ds gs before hval0 hW hcnd _
  have hval : ∀ (j : Nat) t v, Try.f3.params[j]? = some t → args[j]? = some v → Value.okWide Try.prog W .any base t v := hval0
  clear hval0 hcnd
  obtain ⟨_, _, hA0, hV0, _, _, _⟩ := id hW
  have hA : DataW.TrodAll enc Try.prog W 0 (fun _ => true) true Try.f3.params.toList args.toList ds _ := hA0
  clear hA0
  rw [Try.params3] at hA hval
  obtain ⟨v0, d0, rfl, rfl, h0⟩ := trodAll_one hA
  obtain ⟨cs0, rfl, _⟩ := okWide_struct Try.underlying24 (hval 0 _ v0 rfl rfl)
  obtain ⟨d0, r0, qq0⟩ := openArg oDb h0
  obtain ⟨A0, c0, hc0⟩ := vDb_shape r0
  obtain rfl := agg1 hc0
  refine (law_FormatDatabase A0 c0 d0 W qq0 r0).mono fun e W' ⟨he, hw⟩ => ?_
  exact ⟨_, he, law_post Try.laidOut hW rfl rfl rfl Try.underlying4 (by kernel_rfl) hw⟩

theorem fnExactFormatDatabase_and {a b : Bool} (ha : a = true) (hb : b = true) : (a && b) = true := by rw [ha, hb]; rfl
set_option maxHeartbeats 16000000 in
theorem fnExactFormatDatabase_closed : joinedFacts Try.checked.prog 3 Try.f3 Rows.fnExactFormatDatabaseSpec Rows.fnExactFormatDatabaseRow = true := by
  unfold joinedFacts
  repeat' (with_reducible refine fnExactFormatDatabase_and ?_ ?_)
  all_goals (as_aux_lemma => kernel_rfl)
theorem fnExactFormatDatabase_holds : Rows.FnExactFormatDatabaseSaid :=
  OpenClaim.holds_of_wide 3 Try.f3 rfl rfl rfl rfl rfl rfl rfl ⟨rfl, rfl, rfl, rfl, rfl⟩ rfl rfl rfl rfl rfl (by kernel_rfl) Try.func3 fnExactFormatDatabase_closed
    (of_decide_eq_true (by kernel_rfl)) (by unfold Func.isWrapper; rw [if_neg (of_decide_eq_false (by kernel_rfl))]; exact ⟨rfl, rfl⟩)
    (fun os started H enc _ => lifted_FnExactFormatDatabase os started H enc)

end Go.Proofs.Ytfigcfajkilhiaa
