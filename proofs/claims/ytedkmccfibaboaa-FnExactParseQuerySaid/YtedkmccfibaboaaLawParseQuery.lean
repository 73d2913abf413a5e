/- For all arguments the program's ParseQuery and the reference's give the same, the arguments are left alone, and what is handed back shares no memory with them. -/
import Derived.Test.YtedkmccfibaboaaTypes
import Derived.Test.YtedkmccfibaboaaQuery
import Derived.Test.YtedkmccfibaboaaMarkQ
import Derived.Test.YtedkmccfibaboaaHeldQ
import Derived.Test.YtedkmccfibaboaaPQ3
namespace Go.Proofs.Ytedkmccfibaboaa
open Go.ChangeShapes Go.WideShapes Go.ChangeAt Go.RowKit

theorem pQ_bd (s : ByteArray) : BQ ((pQ s).getD zQ) := by
  cases h : pQ s with
  | none => exact ⟨⟨by decide, by decide⟩, ⟨by decide, by decide⟩, by decide⟩
  | some d =>
    obtain ⟨h1, _⟩ := pQ_some h
    obtain ⟨g1, g2, g3⟩ := vqB_facts h1
    have g4 : ∀ (l : List At), (∀ x ∈ l, x.1.size ≤ 4 ∧ x.2.length ≤ 5) → (l.map cAt).sum ≤ 9 * l.length := by
      intro l
      induction l with
      | nil => simp
      | cons x l ih =>
        intro h
        have h1 := h x (by simp)
        have h2 := ih fun y hy => h y (by simp [hy])
        simp only [List.map_cons, List.sum_cons, List.length_cons, cAt]
        omega
    have g5 := g4 d.2.1 g3
    unfold vqB at h1
    simp only [Bool.and_eq_true] at h1
    have b1 := inB_t h1.1.1.1.1
    exact ⟨⟨by simp only [Option.getD_some]; omega, by simp only [Option.getD_some]; omega⟩, ⟨by simp only [Option.getD_some]; omega, by simp only [Option.getD_some]; omega⟩, by simp only [Option.getD_some]; omega⟩

set_option maxHeartbeats 2000000 in
theorem law_ParseQuery_g0 (t0 : ByteArray) (w : World)  (hg0 : 1048576 < t0.size) : Calls Try.prog 3 #[.string t0] w fun e w' => e = .returned (.bool true) ∧ ∃ y, w' = ext w y := by
  go_enter Try.func3, Try.ntmps3
  go_wp2_with fail
  go_ret
  exact ⟨rfl, (refl_ext w)⟩

set_option maxHeartbeats 2000000 in
theorem law_ParseQuery_m (t0 : ByteArray) (w : World)  (k0 : t0.size ≤ 1048576) : Calls Try.prog 3 #[.string t0] w fun e w' => e = .returned (.bool true) ∧ ∃ y, w' = ext w y := by
  have hb9 := pQ_bd t0
  go_enter Try.func3, Try.ntmps3
  go_wp2_with fail
  refine (specParseQuery_any (by omega)).mono ?_
  rintro e w1 ⟨v1, u1, t1, F1, rfl, hx1, hS1, hN1, hF1⟩
  obtain ⟨A1, c1, B1, e1, rfl, rfl, rfl⟩ := sQ_form hS1
  go_wp2_with fail
  refine (ParseQuery_any (by omega)).mono ?_
  rintro e w2 ⟨v2, u2, t2, F2, rfl, hx2, hS2, hN2, hF2⟩
  obtain ⟨A2, c2, B2, e2, rfl, rfl, rfl⟩ := sQ_form hS2
  have B2_0 : BoxAt w2 (w1.heap.size) #[.int .i64 ((pQ t0).getD zQ).1, .slice A1 ((pQ t0).getD zQ).2.1.length c1, .slice B1 ((pQ t0).getD zQ).2.2.length e1] := ((BoxAt.new _ _ _).toExt hx2)
  have lB2_0 := B2_0.1
  have bB2_0 := B2_0.2.1
  go_wp2_with fail
  refine (eqQuery_d hb9 (sQ_v _ _ _ (OD.toExt hS2 (alloc_ext w2 (.cells #[.int .i64 ((pQ t0).getD zQ).1, .slice A2 ((pQ t0).getD zQ).2.1.length c2, .slice B2 ((pQ t0).getD zQ).2.2.length e2] 25)))) hb9 (sQ_v _ _ _ (OD.toExt (OD.toExt (OD.toExt hS1 (alloc_ext w1 (.cells #[.int .i64 ((pQ t0).getD zQ).1, .slice A1 ((pQ t0).getD zQ).2.1.length c1, .slice B1 ((pQ t0).getD zQ).2.2.length e1] 25))) hx2) (alloc_ext w2 (.cells #[.int .i64 ((pQ t0).getD zQ).1, .slice A2 ((pQ t0).getD zQ).2.1.length c2, .slice B2 ((pQ t0).getD zQ).2.2.length e2] 25))))).mono ?_
  rintro e w3 ⟨rfl, hx3⟩
  have B3_0 : BoxAt w3 (w1.heap.size) #[.int .i64 ((pQ t0).getD zQ).1, .slice A1 ((pQ t0).getD zQ).2.1.length c1, .slice B1 ((pQ t0).getD zQ).2.2.length e1] := ((B2_0.toExt (alloc_ext w2 (.cells #[.int .i64 ((pQ t0).getD zQ).1, .slice A2 ((pQ t0).getD zQ).2.1.length c2, .slice B2 ((pQ t0).getD zQ).2.2.length e2] 25))).toExt hx3)
  have B3_1 : BoxAt w3 (w2.heap.size) #[.int .i64 ((pQ t0).getD zQ).1, .slice A2 ((pQ t0).getD zQ).2.1.length c2, .slice B2 ((pQ t0).getD zQ).2.2.length e2] := ((BoxAt.new _ _ _).toExt hx3)
  have lB3_0 := B3_0.1
  have bB3_0 := B3_0.2.1
  have lB3_1 := B3_1.1
  have bB3_1 := B3_1.2.1
  clear lB2_0 bB2_0
  go_wp2_with fail
  refine (markQuery_d hb9 (OD.toExt (OD.toExt hS2 (alloc_ext w2 (.cells #[.int .i64 ((pQ t0).getD zQ).1, .slice A2 ((pQ t0).getD zQ).2.1.length c2, .slice B2 ((pQ t0).getD zQ).2.2.length e2] 25))) hx3) hN2 (by omega) (by omega)).mono ?_
  rintro e w4 ⟨kk4, rfl, HK4, kl4, ku4, hS4, hC4⟩
  have B4_0 : BoxAt w4 (w1.heap.size) #[.int .i64 ((pQ t0).getD zQ).1, .slice A1 ((pQ t0).getD zQ).2.1.length c1, .slice B1 ((pQ t0).getD zQ).2.2.length e1] := (B3_0.chg hC4 (fun hb => by have h1 := hF2 _ hb; have h2 := (BoxAt.new w1 #[.int .i64 ((pQ t0).getD zQ).1, .slice A1 ((pQ t0).getD zQ).2.1.length c1, .slice B1 ((pQ t0).getD zQ).2.2.length e1] 25).1; omega))
  have B4_1 : BoxAt w4 (w2.heap.size) #[.int .i64 ((pQ t0).getD zQ).1, .slice A2 ((pQ t0).getD zQ).2.1.length c2, .slice B2 ((pQ t0).getD zQ).2.2.length e2] := (B3_1.chg hC4 (fun hb => by have h1 := (SMono.lt hS2) _ hb; have h2 := size_of_ext (refl_ext w2); omega))
  have lB4_0 := B4_0.1
  have bB4_0 := B4_0.2.1
  have lB4_1 := B4_1.1
  have bB4_1 := B4_1.2.1
  clear lB3_0 bB3_0 lB3_1 bB3_1
  go_wp2_with fail
  refine (heldQuery_d hb9 HK4 (sQ_v _ _ _ hS4) (by omega) (by omega)).mono ?_
  rintro e w5 ⟨rfl, hx5⟩
  have B5_0 : BoxAt w5 (w1.heap.size) #[.int .i64 ((pQ t0).getD zQ).1, .slice A1 ((pQ t0).getD zQ).2.1.length c1, .slice B1 ((pQ t0).getD zQ).2.2.length e1] := (B4_0.toExt hx5)
  have B5_1 : BoxAt w5 (w2.heap.size) #[.int .i64 ((pQ t0).getD zQ).1, .slice A2 ((pQ t0).getD zQ).2.1.length c2, .slice B2 ((pQ t0).getD zQ).2.2.length e2] := (B4_1.toExt hx5)
  have lB5_0 := B5_0.1
  have bB5_0 := B5_0.2.1
  have lB5_1 := B5_1.1
  have bB5_1 := B5_1.2.1
  clear lB4_0 bB4_0 lB4_1 bB4_1
  go_wp2_with fail
  refine (ParseQuery_any (by omega)).mono ?_
  rintro e w6 ⟨v6, u6, t6, F6, rfl, hx6, hS6, hN6, hF6⟩
  obtain ⟨A6, c6, B6, e6, rfl, rfl, rfl⟩ := sQ_form hS6
  have B6_0 : BoxAt w6 (w1.heap.size) #[.int .i64 ((pQ t0).getD zQ).1, .slice A1 ((pQ t0).getD zQ).2.1.length c1, .slice B1 ((pQ t0).getD zQ).2.2.length e1] := (B5_0.toExt hx6)
  have B6_1 : BoxAt w6 (w2.heap.size) #[.int .i64 ((pQ t0).getD zQ).1, .slice A2 ((pQ t0).getD zQ).2.1.length c2, .slice B2 ((pQ t0).getD zQ).2.2.length e2] := (B5_1.toExt hx6)
  have lB6_0 := B6_0.1
  have bB6_0 := B6_0.2.1
  have lB6_1 := B6_1.1
  have bB6_1 := B6_1.2.1
  clear lB5_0 bB5_0 lB5_1 bB5_1
  go_wp2_with fail
  refine (eqQuery_d hb9 (sQ_v _ _ _ (OD.toExt hS6 (alloc_ext w6 (.cells #[.int .i64 ((pQ t0).getD zQ).1, .slice A6 ((pQ t0).getD zQ).2.1.length c6, .slice B6 ((pQ t0).getD zQ).2.2.length e6] 25)))) hb9 (sQ_v _ _ _ (OD.toExt (OD.toExt (OD.toExt (OD.chg (OD.toExt (OD.toExt (OD.toExt (OD.toExt hS1 (alloc_ext w1 (.cells #[.int .i64 ((pQ t0).getD zQ).1, .slice A1 ((pQ t0).getD zQ).2.1.length c1, .slice B1 ((pQ t0).getD zQ).2.2.length e1] 25))) hx2) (alloc_ext w2 (.cells #[.int .i64 ((pQ t0).getD zQ).1, .slice A2 ((pQ t0).getD zQ).2.1.length c2, .slice B2 ((pQ t0).getD zQ).2.2.length e2] 25))) hx3) hC4 (fun x ha hb => by have h1 := hF2 x hb; have h2 := (SMono.lt hS1) x ha; have h3 := size_of_ext (alloc_ext w1 (.cells #[.int .i64 ((pQ t0).getD zQ).1, .slice A1 ((pQ t0).getD zQ).2.1.length c1, .slice B1 ((pQ t0).getD zQ).2.2.length e1] 25)); omega)) hx5) hx6) (alloc_ext w6 (.cells #[.int .i64 ((pQ t0).getD zQ).1, .slice A6 ((pQ t0).getD zQ).2.1.length c6, .slice B6 ((pQ t0).getD zQ).2.2.length e6] 25))))).mono ?_
  rintro e w7 ⟨rfl, hx7⟩
  have B7_0 : BoxAt w7 (w1.heap.size) #[.int .i64 ((pQ t0).getD zQ).1, .slice A1 ((pQ t0).getD zQ).2.1.length c1, .slice B1 ((pQ t0).getD zQ).2.2.length e1] := ((B6_0.toExt (alloc_ext w6 (.cells #[.int .i64 ((pQ t0).getD zQ).1, .slice A6 ((pQ t0).getD zQ).2.1.length c6, .slice B6 ((pQ t0).getD zQ).2.2.length e6] 25))).toExt hx7)
  have B7_1 : BoxAt w7 (w2.heap.size) #[.int .i64 ((pQ t0).getD zQ).1, .slice A2 ((pQ t0).getD zQ).2.1.length c2, .slice B2 ((pQ t0).getD zQ).2.2.length e2] := ((B6_1.toExt (alloc_ext w6 (.cells #[.int .i64 ((pQ t0).getD zQ).1, .slice A6 ((pQ t0).getD zQ).2.1.length c6, .slice B6 ((pQ t0).getD zQ).2.2.length e6] 25))).toExt hx7)
  have B7_2 : BoxAt w7 (w6.heap.size) #[.int .i64 ((pQ t0).getD zQ).1, .slice A6 ((pQ t0).getD zQ).2.1.length c6, .slice B6 ((pQ t0).getD zQ).2.2.length e6] := ((BoxAt.new _ _ _).toExt hx7)
  have lB7_0 := B7_0.1
  have bB7_0 := B7_0.2.1
  have lB7_1 := B7_1.1
  have bB7_1 := B7_1.2.1
  have lB7_2 := B7_2.1
  have bB7_2 := B7_2.2.1
  clear lB6_0 bB6_0 lB6_1 bB6_1
  go_wp2_with fail
  refine (heldQuery_d hb9 HK4 (sQ_v _ _ _ (OD.toExt (OD.toExt (OD.toExt (OD.toExt hS4 hx5) hx6) (alloc_ext w6 (.cells #[.int .i64 ((pQ t0).getD zQ).1, .slice A6 ((pQ t0).getD zQ).2.1.length c6, .slice B6 ((pQ t0).getD zQ).2.2.length e6] 25))) hx7)) (by omega) (by omega)).mono ?_
  rintro e w8 ⟨rfl, hx8⟩
  have B8_0 : BoxAt w8 (w1.heap.size) #[.int .i64 ((pQ t0).getD zQ).1, .slice A1 ((pQ t0).getD zQ).2.1.length c1, .slice B1 ((pQ t0).getD zQ).2.2.length e1] := (B7_0.toExt hx8)
  have B8_1 : BoxAt w8 (w2.heap.size) #[.int .i64 ((pQ t0).getD zQ).1, .slice A2 ((pQ t0).getD zQ).2.1.length c2, .slice B2 ((pQ t0).getD zQ).2.2.length e2] := (B7_1.toExt hx8)
  have B8_2 : BoxAt w8 (w6.heap.size) #[.int .i64 ((pQ t0).getD zQ).1, .slice A6 ((pQ t0).getD zQ).2.1.length c6, .slice B6 ((pQ t0).getD zQ).2.2.length e6] := (B7_2.toExt hx8)
  have lB8_0 := B8_0.1
  have bB8_0 := B8_0.2.1
  have lB8_1 := B8_1.1
  have bB8_1 := B8_1.2.1
  have lB8_2 := B8_2.1
  have bB8_2 := B8_2.2.1
  clear lB7_0 bB7_0 lB7_1 bB7_1 lB7_2 bB7_2
  go_wp2
  go_ret
  exact ⟨rfl, (trans_ext (trans_ext (trans_ext (trans_ext (trans_ext (hC4.isExt (trans_ext (trans_ext (trans_ext (trans_ext hx1 (alloc_ext w1 (.cells #[.int .i64 ((pQ t0).getD zQ).1, .slice A1 ((pQ t0).getD zQ).2.1.length c1, .slice B1 ((pQ t0).getD zQ).2.2.length e1] 25))) hx2) (alloc_ext w2 (.cells #[.int .i64 ((pQ t0).getD zQ).1, .slice A2 ((pQ t0).getD zQ).2.1.length c2, .slice B2 ((pQ t0).getD zQ).2.2.length e2] 25))) hx3) (fun b hb => Nat.le_trans (size_of_ext (trans_ext hx1 (alloc_ext w1 (.cells #[.int .i64 ((pQ t0).getD zQ).1, .slice A1 ((pQ t0).getD zQ).2.1.length c1, .slice B1 ((pQ t0).getD zQ).2.2.length e1] 25)))) (hF2 b hb))) hx5) hx6) (alloc_ext w6 (.cells #[.int .i64 ((pQ t0).getD zQ).1, .slice A6 ((pQ t0).getD zQ).2.1.length c6, .slice B6 ((pQ t0).getD zQ).2.2.length e6] 25))) hx7) hx8)⟩

theorem law_ParseQuery (t0 : ByteArray) (w : World)  : Calls Try.prog 3 #[.string t0] w fun e w' => e = .returned (.bool true) ∧ ∃ y, w' = ext w y := by
  by_cases hg0 : 1048576 < t0.size
  · exact law_ParseQuery_g0 _ w hg0
  exact law_ParseQuery_m _ w (by omega)

set_option maxRecDepth 100000 in
theorem lifted_FnExactParseQuery (os : Os) (started : os.Started) (H : Type) (enc : TypeId × Value → H) :
    ReturnsInHanded {} Try.checked os 3 .any (Rows.fnExactParseQuerySpec.pre6 enc Try.prog Try.f3 Rows.fnExactParseQueryRow.domain false) (Rows.fnExactParseQuerySpec.post enc Try.prog Try.f3 false true false false) := by
  refine returnsInHanded_of_change (C := Try.checked) Try.own started (by kernel_rfl) Try.func3 (ChangeSpec.witness6 (enc := enc) (C := Try.checked) false ⟨#[], #[.string ⟨#[]⟩], []⟩ 8 (by kernel_rfl) (by kernel_rfl) (by kernel_rfl) (by kernel_rfl)) ?_
  intro W base args ds gs before hval0 hW hcnd _
  have hval : ∀ (j : Nat) t v, Try.f3.params[j]? = some t → args[j]? = some v → Value.okWide Try.prog W .any base t v := hval0
  clear hval0 hcnd
  obtain ⟨_, _, hA0, hV0, _, _, _⟩ := id hW
  have hA : DataW.TrodAll enc Try.prog W 0 (fun _ => true) true Try.f3.params.toList args.toList ds _ := hA0
  clear hA0
  rw [Try.params3] at hA hval
  obtain ⟨v0, d0, rfl, rfl, h0⟩ := trodAll_one hA
  obtain ⟨t0, rfl, rfl, rfl, _⟩ := Go.ChangeMaps.open_string Try.underlying9 (hval 0 9 v0 rfl rfl) h0
  refine (law_ParseQuery t0 W ).mono fun e W' ⟨he, hw⟩ => ?_
  exact ⟨_, he, law_post Try.laidOut hW rfl rfl rfl Try.underlying4 (by kernel_rfl) hw⟩

theorem fnExactParseQuery_holds : Rows.FnExactParseQuerySaid :=
  OpenClaim.holds_of_wide 3 Try.f3 rfl rfl rfl rfl rfl rfl rfl ⟨rfl, rfl, rfl, rfl, rfl⟩ rfl rfl rfl rfl rfl (by kernel_rfl) Try.func3 (by kernel_rfl)
    (of_decide_eq_true (by kernel_rfl)) (by unfold Func.isWrapper; rw [if_neg (of_decide_eq_false (by kernel_rfl))]; exact ⟨rfl, rfl⟩)
    (fun os started H enc _ => lifted_FnExactParseQuery os started H enc)

end Go.Proofs.Ytedkmccfibaboaa
