/- For all arguments the program's ParseRationals and the reference's give the same, the arguments are left alone, and what is handed back shares no memory with them. -/
import Derived.Test.YtnchebfemacebaaTypes
import Derived.Test.YtnchebfemacebaaRats
import Derived.Test.YtnchebfemacebaaParseRat2
import Derived.Test.YtnchebfemacebaaRatMarks
namespace Go.Proofs.Ytnchebfemacebaa
open Go.ChangeShapes Go.WideShapes Go.ChangeAt Go.RowKit

theorem pRats_len (s : ByteArray) : ((pRats s).getD []).length ≤ s.size + 1 := by
  cases h : pRats s with
  | none => simp
  | some l => exact pRats_length h

set_option maxHeartbeats 2000000 in
theorem law_ParseRationals_g0 (t0 : ByteArray) (w : World)  (hg0 : 1048576 < t0.size) : Calls Try.prog 9 #[.string t0] w fun e w' => e = .returned (.bool true) ∧ ∃ y, w' = ext w y := by
  go_enter Try.func9, Try.ntmps9
  go_wp2_with fail
  go_ret
  exact ⟨rfl, (refl_ext w)⟩

set_option maxHeartbeats 2000000 in
theorem law_ParseRationals_m (t0 : ByteArray) (w : World)  (k0 : t0.size ≤ 1048576) : Calls Try.prog 9 #[.string t0] w fun e w' => e = .returned (.bool true) ∧ ∃ y, w' = ext w y := by
  have hb9 := pRats_len t0
  go_enter Try.func9, Try.ntmps9
  go_wp2_with fail
  refine (specParseRationals_any (by omega)).mono ?_
  rintro e w1 ⟨v1, F1, rfl, hx1, hS1, hF1⟩
  obtain ⟨A1, c1, rfl, _, _, r1⟩ := hS1.view sR_v
  go_wp2_with fail
  refine (ParseRationals_any (by omega)).mono ?_
  rintro e w2 ⟨v2, F2, rfl, hx2, hS2, hF2⟩
  obtain ⟨A2, c2, rfl, _, _, r2⟩ := hS2.view sR_v
  go_wp2_with fail
  refine (eqRationalS_any (by omega) r2 (by omega) (r1.toExt hx2)).mono ?_
  rintro e w3 ⟨rfl, hx3⟩
  go_wp2_with fail
  refine (markRationalS_any (by omega) (hS2.toExt hx3) (by omega) (by omega)).mono ?_
  rintro e w4 ⟨rfl, hS4, hC4⟩
  go_wp2_with fail
  refine (heldRationalS_any (by omega) (SV.toView hS4 sR_v) (by omega) (by omega)).mono ?_
  rintro e w5 ⟨rfl, hx5⟩
  go_wp2_with fail
  refine (ParseRationals_any (by omega)).mono ?_
  rintro e w6 ⟨v6, F6, rfl, hx6, hS6, hF6⟩
  obtain ⟨A6, c6, rfl, _, _, r6⟩ := hS6.view sR_v
  go_wp2_with fail
  refine (eqRationalS_any (by omega) r6 (by omega) (r1.toExt (trans_ext (trans_ext (hC4.isExt (trans_ext hx2 hx3) (fun b hb => Nat.le_trans (size_of_ext (refl_ext w1)) (hF2 b hb))) hx5) hx6))).mono ?_
  rintro e w7 ⟨rfl, hx7⟩
  go_wp2_with fail
  refine (heldRationalS_any (by omega) (SV.toView (((hS4.toExt hx5).toExt hx6).toExt hx7) sR_v) (by omega) (by omega)).mono ?_
  rintro e w8 ⟨rfl, hx8⟩
  go_wp2
  go_ret
  exact ⟨rfl, (trans_ext (trans_ext (trans_ext (trans_ext (hC4.isExt (trans_ext (trans_ext hx1 hx2) hx3) (fun b hb => Nat.le_trans (size_of_ext hx1) (hF2 b hb))) hx5) hx6) hx7) hx8)⟩

theorem law_ParseRationals (t0 : ByteArray) (w : World)  : Calls Try.prog 9 #[.string t0] w fun e w' => e = .returned (.bool true) ∧ ∃ y, w' = ext w y := by
  by_cases hg0 : 1048576 < t0.size
  · exact law_ParseRationals_g0 _ w hg0
  exact law_ParseRationals_m _ w (by omega)

set_option maxRecDepth 100000 in
theorem lifted_FnExactParseRationals (os : Os) (started : os.Started) (H : Type) (enc : TypeId × Value → H) :
    ReturnsInHanded {} Try.checked os 9 .any (Rows.fnExactParseRationalsSpec.pre6 enc Try.prog Try.f9 Rows.fnExactParseRationalsRow.domain false) (Rows.fnExactParseRationalsSpec.post enc Try.prog Try.f9 false true false false) := by
  refine returnsInHanded_of_change (C := Try.checked) Try.own started (by kernel_rfl) Try.func9 (ChangeSpec.witness6 (enc := enc) (C := Try.checked) false ⟨#[], #[.string ⟨#[]⟩], []⟩ 8 (by kernel_rfl) (by kernel_rfl) (by kernel_rfl) (by kernel_rfl)) ?_
  intro W base args ds gs before hval0 hW hcnd _
  have hval : ∀ (j : Nat) t v, Try.f9.params[j]? = some t → args[j]? = some v → Value.okWide Try.prog W .any base t v := hval0
  clear hval0 hcnd
  obtain ⟨_, _, hA0, hV0, _, _, _⟩ := id hW
  have hA : DataW.TrodAll enc Try.prog W 0 (fun _ => true) true Try.f9.params.toList args.toList ds _ := hA0
  clear hA0
  rw [Try.params9] at hA hval
  obtain ⟨v0, d0, rfl, rfl, h0⟩ := trodAll_one hA
  obtain ⟨t0, rfl, rfl, rfl, _⟩ := Go.ChangeMaps.open_string Try.underlying9 (hval 0 9 v0 rfl rfl) h0
  refine (law_ParseRationals t0 W ).mono fun e W' ⟨he, hw⟩ => ?_
  exact ⟨_, he, law_post Try.laidOut hW rfl rfl rfl Try.underlying4 (by kernel_rfl) hw⟩

theorem fnExactParseRationals_holds : Rows.FnExactParseRationalsSaid :=
  OpenClaim.holds_of_wide 9 Try.f9 rfl rfl rfl rfl rfl rfl rfl ⟨rfl, rfl, rfl, rfl, rfl⟩ rfl rfl rfl rfl rfl (by kernel_rfl) Try.func9 (by kernel_rfl)
    (of_decide_eq_true (by kernel_rfl)) (by unfold Func.isWrapper; rw [if_neg (of_decide_eq_false (by kernel_rfl))]; exact ⟨rfl, rfl⟩)
    (fun os started H enc _ => lifted_FnExactParseRationals os started H enc)

end Go.Proofs.Ytnchebfemacebaa
