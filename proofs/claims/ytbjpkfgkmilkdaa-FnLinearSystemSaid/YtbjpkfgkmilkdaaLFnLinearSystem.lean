/- A linear system drawn from any bytes: both ways give the same answer, and a solution satisfies the system. -/
import Derived.Test.YtbjpkfgkmilkdaaL01
import Derived.Test.YtbjpkfgkmilkdaaL03
import Derived.Test.YtbjpkfgkmilkdaaL14
namespace Go.Proofs.Ytbjpkfgkmilkdaa
open Go.ChangeShapes Go.WideShapes Go.ChangeAt Go.RowKit
set_option maxHeartbeats 2000000 in
theorem law_LinSys_big (A : Option Addr) (c : Nat) (bs : List UInt8) (w : World) (hb : 1048576 < bs.length) (hl : bs.length ≤ 9223372036854775807) : Calls Try.prog 4 #[.slice A bs.length c] w fun e w' => e = .returned (.bool true) ∧ ∃ y, w' = ext w y := by
  go_enter Try.func4, Try.ntmps4
  go_wp2_with fail
  refine (lawBig_any hl).mono ?_
  rintro e w1 ⟨rfl, hx1⟩
  rw [decide_eq_true hb]
  go_wp2_with fail
  go_ret
  exact ⟨rfl, hx1⟩
set_option maxRecDepth 100000 in
set_option maxHeartbeats 8000000 in
theorem law_LinSys_m (A : Option Addr) (c : Nat) (bs : List UInt8) (w : World) (hb : bs.length ≤ 1048576) (h1 : RU w A bs) : Calls Try.prog 4 #[.slice A bs.length c] w fun e w' => e = .returned (.bool true) ∧ ∃ y, w' = ext w y := by
  go_enter Try.func4, Try.ntmps4
  go_wp2_with fail
  refine (lawBig_any (by omega)).mono ?_
  rintro e w1 ⟨rfl, hx1⟩
  rw [decide_eq_false (show ¬ 1048576 < bs.length by omega)]
  go_wp2_with fail
  refine (DrawSolve_any hb (h1.toExt hx1)).mono ?_
  rintro e w2 ⟨v, F, ds, v', F', ys, rfl, hx2, hS, hS', hl, hr, hy⟩
  obtain ⟨A1, c1, rfl, _, _, r1⟩ := hS.view (sSl_v sR_v)
  obtain ⟨A2, c2, rfl, _, _, r2⟩ := hS'.view sR_v
  have HR : Hid (∀ x ∈ ds, x.length ≤ 1000000000) := Lib.hid (fun x hx => by have := hr x hx; omega)
  clear hS hS' hr
  have hsl := sol_len ds ys
  have HMV := Lib.hid (fun x c => solve_mv (a := ds) (b := ys) (x := x) (c := c))
  obtain ⟨S, hS0⟩ : ∃ S, solR ds ys = S := ⟨_, rfl⟩
  have HS := Lib.hid hS0
  rw [hS0] at hsl
  clear hS0
  go_wp2_with fail
  refine (SolveLinearSystem_any (by omega) r1 HR.out (by omega) r2).mono ?_
  rintro e w3 ⟨v3, F3, rfl, hx3, hS3, hF3⟩
  rw [HS.out] at hS3 ⊢
  obtain ⟨A3, c3, rfl, _, _, r3⟩ := hS3.view sR_v
  clear hS3 hF3
  go_wp2_with fail
  refine (specSolveLinearSystem_any (by omega) (r1.toExt hx3) HR.out (by omega) (r2.toExt hx3)).mono ?_
  rintro e w4 ⟨v4, F4, rfl, hx4, hS4, hF4⟩
  rw [HS.out] at hS4 ⊢
  obtain ⟨A4, c4, rfl, _, _, r4⟩ := hS4.view sR_v
  clear hS4 hF4
  have x14 := trans_ext (trans_ext (trans_ext hx1 hx2) hx3) hx4
  have r1' := r1.toExt (trans_ext hx3 hx4)
  have r2' := r2.toExt (trans_ext hx3 hx4)
  have r3' := r3.toExt hx4
  have H14 := Lib.hid x14
  clear hx1 hx2 hx3 hx4 x14 r1 r2 r3 h1
  cases S with
  | none =>
    simp only [Option.getD_none, Option.isSome_none] at hsl r3' r4 ⊢
    go_wp2_with (go_at_call 20; refine (specEqualRationals_any (by simp) r3' (by simp) r4).mono ?_; rintro e w5 ⟨rfl, hx5⟩; rw [decide_eq_true rfl])
    go_ret
    exact ⟨rfl, trans_ext H14.out hx5⟩
  | some x =>
    simp only [Option.getD_some, Option.isSome_some] at hsl r3' r4 ⊢
    have hx9 : x.length ≤ 1000000000 := by omega
    have HMV2 := Lib.hid (fun c => HMV.out x c HS.out)
    go_wp2_with (first
      | (go_at_call 20; refine (specEqualRationals_any hx9 r3' hx9 r4).mono ?_; rintro e w5 ⟨rfl, hx5⟩; rw [decide_eq_true rfl])
      | fail)
    refine (MatrixVectorProduct_any (by omega) (r1'.toExt hx5) HR.out hx9 (r3'.toExt hx5)).mono ?_
    rintro e w6 ⟨v6, F6, rfl, hx6, hS6, hF6⟩
    obtain ⟨M, hM⟩ : ∃ M, mvG [] ds x = M := ⟨_, rfl⟩
    have HM := Lib.hid hM
    have hml : ((mvG [] ds x).getD []).length ≤ ds.length := mv_len ds x
    rw [hM] at hS6 hml ⊢
    clear hM
    obtain ⟨A6, c6, rfl, _, _, r6⟩ := hS6.view sR_v
    have H16 := Lib.hid (trans_ext (trans_ext H14.out hx5) hx6)
    have r2'' := r2'.toExt (trans_ext hx5 hx6)
    clear hS6 hF6 hx5 hx6
    cases M with
    | none =>
      simp only [Option.getD_none, Option.isSome_none] at hml r6 ⊢
      go_wp2_with fail
      go_ret
      exact ⟨rfl, H16.out⟩
    | some cc =>
      simp only [Option.getD_some, Option.isSome_some] at hml r6 ⊢
      have HE := Lib.hid (HMV2.out cc HM.out)
      go_wp2_with (go_at_call 20; refine (specEqualRationals_any (by omega) r6 (by omega) r2'').mono ?_; rintro e w7 ⟨rfl, hx7⟩; rw [decide_eq_true HE.out])
      go_ret
      exact ⟨rfl, trans_ext H16.out hx7⟩
theorem law_LinSys (A : Option Addr) (c : Nat) (bs : List UInt8) (w : World) (hl : bs.length ≤ 9223372036854775807) (h1 : RU w A bs) : Calls Try.prog 4 #[.slice A bs.length c] w fun e w' => e = .returned (.bool true) ∧ ∃ y, w' = ext w y := by
  by_cases hb : 1048576 < bs.length
  · exact law_LinSys_big A c bs w hb hl
  · exact law_LinSys_m A c bs w (by omega) h1
set_option maxRecDepth 100000 in
theorem lifted_FnLinearSystem (os : Os) (started : os.Started) (H : Type) (enc : TypeId × Value → H) :
    ReturnsInHanded {} Try.checked os 4 .any (Rows.fnLinearSystemSpec.pre6 enc Try.prog Try.f4 Rows.fnLinearSystemRow.domain false) (Rows.fnLinearSystemSpec.post enc Try.prog Try.f4 false true false false) := by
  refine returnsInHanded_of_change (C := Try.checked) Try.own started (by kernel_rfl) Try.func4 (ChangeSpec.witness6 (enc := enc) (C := Try.checked) false ⟨#[], #[.slice none 0 0], []⟩ 8 (by kernel_rfl) (by kernel_rfl) (by kernel_rfl) (by kernel_rfl)) ?_
  intro W base args ds gs before hval0 hW hcnd _
  have hval : ∀ (j : Nat) t v, Try.f4.params[j]? = some t → args[j]? = some v → Value.okWide Try.prog W .any base t v := hval0
  clear hval0 hcnd
  obtain ⟨_, _, hA0, hV0, _, _, _⟩ := id hW
  have hA : DataW.TrodAll enc Try.prog W 0 (fun _ => true) true Try.f4.params.toList args.toList ds _ := hA0
  clear hA0
  rw [Try.params4] at hA hval
  obtain ⟨v0, d0, rfl, rfl, h0⟩ := trodAll_one hA
  obtain ⟨x0, ⟨A0, c0, hc0, r0⟩, l0, _⟩ := openArg oBytes h0
  obtain rfl := one1 hc0 (okWide_slice Try.underlying37 (hval 0 _ v0 rfl rfl))
  refine (law_LinSys A0 _ x0 W (le_maxLen l0) r0).mono fun e W' ⟨he, hw⟩ => ?_
  exact ⟨_, he, law_post Try.laidOut hW rfl rfl rfl Try.underlying4 (by kernel_rfl) hw⟩
theorem fnLinearSystem_and {a b : Bool} (ha : a = true) (hb : b = true) : (a && b) = true := by rw [ha, hb]; rfl
set_option maxHeartbeats 16000000 in
theorem fnLinearSystem_closed : joinedFacts Try.checked.prog 4 Try.f4 Rows.fnLinearSystemSpec Rows.fnLinearSystemRow = true := by
  unfold joinedFacts
  repeat' (with_reducible refine fnLinearSystem_and ?_ ?_)
  all_goals (as_aux_lemma => kernel_rfl)
theorem fnLinearSystem_holds : Rows.FnLinearSystemSaid :=
  OpenClaim.holds_of_wide 4 Try.f4 rfl rfl rfl rfl rfl rfl rfl ⟨rfl, rfl, rfl, rfl, rfl⟩ rfl rfl rfl rfl rfl (by kernel_rfl) Try.func4 fnLinearSystem_closed
    (of_decide_eq_true (by kernel_rfl)) (by unfold Func.isWrapper; rw [if_neg (of_decide_eq_false (by kernel_rfl))]; exact ⟨rfl, rfl⟩)
    (fun os started H enc _ => lifted_FnLinearSystem os started H enc)
end Go.Proofs.Ytbjpkfgkmilkdaa
