/- A matrix drawn from any bytes, transposed twice, is the matrix; the product of two drawn rows is the same both ways. -/
import Derived.Test.YtbaheampmiecmaaFnScal1
import Derived.Test.YtbaheampmiecmaaDrawT
import Derived.Test.YtbaheampmiecmaaTransPl
namespace Go.Proofs.Ytbaheampmiecmaa
open Go.ChangeShapes Go.WideShapes Go.ChangeAt Go.RowKit

set_option maxHeartbeats 2000000 in
theorem law_Transp_big (A : Option Addr) (c : Nat) (bs : List UInt8) (w : World) (hb : 1048576 < bs.length) (hl : bs.length ≤ 9223372036854775807) : Calls Try.prog 4 #[.slice A bs.length c] w fun e w' => e = .returned (.bool true) ∧ ∃ y, w' = ext w y := by
  go_enter Try.func4, Try.ntmps4
  go_wp2_with fail
  refine (lawBig_any hl).mono ?_
  rintro e w1 ⟨rfl, hx1⟩
  rw [decide_eq_true hb]
  go_wp2_with fail
  go_ret
  exact ⟨rfl, hx1⟩

set_option maxRecDepth 100000 in
set_option maxHeartbeats 8000000 in
theorem law_Transp_m (A : Option Addr) (c : Nat) (bs : List UInt8) (w : World) (hb : bs.length ≤ 1048576) (h1 : RU w A bs) : Calls Try.prog 4 #[.slice A bs.length c] w fun e w' => e = .returned (.bool true) ∧ ∃ y, w' = ext w y := by
  go_enter Try.func4, Try.ntmps4
  go_wp2_with fail
  refine (lawBig_any (by omega)).mono ?_
  rintro e w1 ⟨rfl, hx1⟩
  rw [decide_eq_false (show ¬ 1048576 < bs.length by omega)]
  go_wp2_with fail
  refine (DrawTranspose_any hb (h1.toExt hx1)).mono ?_
  rintro e w2 ⟨v, F, ds, rfl, hx2, hS, hl, hr⟩
  obtain ⟨A1, c1, rfl, _, _, r1⟩ := hS.view (sSl_v sR_v)
  have HR : Hid (∀ x ∈ ds, x.length ≤ 1000000000) := Lib.hid (fun x hx => by have := hr x hx; omega)
  clear hS hr
  go_wp2_with fail
  refine (Transpose_any (by omega) r1 HR.out).mono ?_
  rintro e w3 ⟨v3, F3, rfl, hx3, hS3, hN3, hF3⟩
  obtain ⟨A3, c3, rfl, _, _, r3⟩ := hS3.view (sSl_v sR_v)
  clear hS3 hN3 hF3
  go_wp2_with fail
  refine (specTranspose_any (by omega) (r1.toExt hx3) HR.out).mono ?_
  rintro e w4 ⟨v4, F4, rfl, hx4, hS4, hN4, hF4⟩
  obtain ⟨A4, c4, rfl, _, _, _⟩ := hS4.view (sSl_v sR_v)
  clear hS4 hN4 hF4
  go_wp2_with fail
  refine (DrawDotProduct_any hb (h1.toExt (trans_ext (trans_ext (trans_ext hx1 hx2) hx3) hx4))).mono ?_
  rintro e w5 ⟨vx, Fx, xs, vy, Fy, ys, rfl, hx5, hSx, hSy, lx, ly⟩
  obtain ⟨Ax, cx, rfl, _, _, rx⟩ := hSx.view sR_v
  obtain ⟨Ay, cy, rfl, _, _, ry⟩ := hSy.view sR_v
  clear hSx hSy
  obtain ⟨P, hP⟩ : ∃ P, dotR xs ys = P := ⟨_, rfl⟩
  have hP2 : dotR ys xs = P := by rw [← hP]; exact dotR_comm ys xs
  have HP := Lib.hid hP
  have HP2 := Lib.hid hP2
  clear hP hP2
  go_wp2_with fail
  refine (DotProduct_any (by omega) rx (by omega) ry).mono ?_
  rintro e w6 ⟨rfl, hx6⟩
  rw [HP.out]
  have B6 := BoxAt.new w6 #[.int .i64 (P.getD (0, 0)).1, .int .i64 (P.getD (0, 0)).2] 31
  go_wp2_with fail
  refine (DotProduct_any (by omega) (ry.toExt (trans_ext hx6 (alloc_ext _ _))) (by omega) (rx.toExt (trans_ext hx6 (alloc_ext _ _)))).mono ?_
  rintro e w7 ⟨rfl, hx7⟩
  rw [HP2.out]
  have B7 := BoxAt.new w7 #[.int .i64 (P.getD (0, 0)).1, .int .i64 (P.getD (0, 0)).2] 31
  have x67 := trans_ext (trans_ext hx6 (alloc_ext _ _)) (trans_ext hx7 (alloc_ext _ (.cells #[.int .i64 (P.getD (0, 0)).1, .int .i64 (P.getD (0, 0)).2] 31)))
  go_wp2_with fail
  refine (specDotProduct_any (by omega) (rx.toExt x67) (by omega) (ry.toExt x67)).mono ?_
  rintro e w8 ⟨rfl, hx8⟩
  rw [HP.out]
  have B6' := B6.toExt (trans_ext (trans_ext hx7 (alloc_ext _ (.cells #[.int .i64 (P.getD (0, 0)).1, .int .i64 (P.getD (0, 0)).2] 31))) hx8)
  have B7' := B7.toExt hx8
  obtain ⟨_, l6, b6, b6', f6⟩ := box2 B6'
  obtain ⟨_, l7, b7, b7', f7⟩ := box2 B7'
  have x18 := trans_ext (trans_ext (trans_ext (trans_ext (trans_ext (trans_ext hx1 hx2) hx3) hx4) hx5) x67) hx8
  have x28 := trans_ext (trans_ext (trans_ext (trans_ext hx3 hx4) hx5) x67) hx8
  have x38 := trans_ext (trans_ext (trans_ext hx4 hx5) x67) hx8
  have r1' := r1.toExt x28
  have r3' := r3.toExt x38
  have H18 := Lib.hid x18
  clear hx1 hx2 hx3 hx4 hx5 hx6 hx7 hx8 x67 x18 x28 x38 B6 B7 B6' B7' r1 r3 rx ry h1
  cases hT : trR ds with
  | none =>
    rw [hT] at r3'
    clear r3'
    go_wp2_with fail
    go_ret
    exact ⟨rfl, trans_ext H18.out (alloc_ext _ _)⟩
  | some t =>
    rw [hT] at r3'
    simp only [Option.getD_some] at r3'
    obtain ⟨hok, ht⟩ := trR_t hT
    have hpos := trOk_pos hok
    obtain ⟨m, hm⟩ : ∃ m, (ds.headD []).length = m := ⟨_, rfl⟩
    have htl : t.length = m := by rw [ht, cols_length]; exact hm
    have hm9 : m ≤ 1000000000 := by
      have := HR.out (ds[0]) (List.getElem_mem hpos)
      rw [← row0_eq hpos] at this
      rw [← hm]
      exact this
    have q1 : ((t.length : Int) != (m : Int)) = false := by rw [htl]; simp
    have ht9 : t.length ≤ 1000000000 := by omega
    have HU : Hid (0 < m → trR t = some ds) := Lib.hid (fun h => trR_trR hT (by show 0 < (ds.headD []).length; omega))
    have HTr : Hid (∀ x ∈ t, x.length ≤ 1000000000) := Lib.hid (fun x hx => by
      rw [ht] at hx
      obtain ⟨k, _, rfl⟩ := List.mem_map.1 hx
      rw [colK_length]; omega)
    obtain ⟨b, o, A0, c0, _, _, hA, hb0, hc0, _, _, _⟩ := r1'.atV0 hpos
    rw [hm] at hc0
    subst hA
    clear hT hok ht hm htl
    by_cases h0 : m = 0
    · have q2 : ((m : Int) == 0) = true := by rw [h0]; rfl
      clear h0
      go_wp2_with fail
      go_ret
      exact ⟨rfl, trans_ext H18.out (alloc_ext _ _)⟩
    · have q2 : ((m : Int) == 0) = false := by rw [beq_eq_false_iff_ne]; omega
      have HU2 := Lib.hid (HU.out (by omega))
      clear h0
      go_wp2_with fail
      refine (Transpose_any ht9 (r3'.toExt (alloc_ext _ _)) HTr.out).mono ?_
      rintro e w9 ⟨v9, F9, rfl, hx9, hS9, hN9, hF9⟩
      rw [HU2.out] at hS9 ⊢
      obtain ⟨A9, c9, rfl, _, _, r9⟩ := hS9.view (sSl_v sR_v)
      have hx89 := trans_ext (alloc_ext w8 (.cells #[.int .i64 (P.getD (0, 0)).1, .int .i64 (P.getD (0, 0)).2] 31)) hx9
      have hc9 := cellY hx89 hb0 hc0
      have hb9 := ltY hx89 hb0
      have r9a := r1'.toExt hx89
      have H19 := Lib.hid (trans_ext H18.out hx89)
      clear hx9 hx89 hS9 hN9 hF9 r1' r3' b6 b6' f6 l6 b7 b7' f7 l7 hc0 hb0
      simp only [Option.getD_some] at r9 ⊢
      rw [show (some ds : Option (List (List Rat2))).isSome = true from rfl]
      go_wp2_with fail
      go_loopw [18] (fun i wr => ∃ k : Nat, i = .int .i64 k ∧ k ≤ ds.length ∧ ∃ y, wr = ext w9 y) (fun i _ => ds.length - (intOf i).toNat)
      case atStart => exact ⟨0, rfl, by omega, refl_ext w9⟩
      case round =>
        obtain ⟨k, rfl, hk, hy⟩ := hrel
        by_cases hlt : k < ds.length
        · obtain ⟨b1, o1, A1, c1, rfl, hb1, hc1, hv1⟩ := (r9.toExt hy).atV hlt
          obtain ⟨b2, o2, A2, c2, hA2, hb2, hc2, hv2⟩ := (r9a.toExt hy).atV hlt
          injection hA2 with hA2
          injection hA2 with e1 e2
          subst e1 e2
          have hl9 := HR.out ds[k] (List.getElem_mem hlt)
          have Hd := Lib.hid (show decide (ds[k] = ds[k]) = true by simp)
          go_wp2_with fail
          refine wp_region_ext (by kernel_rfl) (by kernel_rfl) ?_
          repeat (go_big_quiet_step ((go_at_call 19; exact quietEb (specEqualRationals_any hl9 hv1.ext hl9 hv2.ext) (decide_eq_true rfl))))
          refine wpQuiet_nil ?_
          rintro _ ⟨z, rfl⟩
          go_wp2
          exact ⟨⟨k + 1, by go_num, by omega, trans_ext hy ⟨z, rfl⟩⟩, by simp [intOf]; omega⟩
        · go_wp2
          go_ret
          exact ⟨rfl, trans_ext H19.out hy⟩

theorem law_Transp (A : Option Addr) (c : Nat) (bs : List UInt8) (w : World) (hl : bs.length ≤ 9223372036854775807) (h1 : RU w A bs) : Calls Try.prog 4 #[.slice A bs.length c] w fun e w' => e = .returned (.bool true) ∧ ∃ y, w' = ext w y := by
  by_cases hb : 1048576 < bs.length
  · exact law_Transp_big A c bs w hb hl
  · exact law_Transp_m A c bs w (by omega) h1

set_option maxRecDepth 100000 in
theorem lifted_FnTranspose (os : Os) (started : os.Started) (H : Type) (enc : TypeId × Value → H) :
    ReturnsInHanded {} Try.checked os 4 .any (Rows.fnTransposeSpec.pre6 enc Try.prog Try.f4 Rows.fnTransposeRow.domain false) (Rows.fnTransposeSpec.post enc Try.prog Try.f4 false true false false) := by
  refine returnsInHanded_of_change (C := Try.checked) Try.own started (by kernel_rfl) Try.func4 (ChangeSpec.witness6 (enc := enc) (C := Try.checked) false ⟨#[], #[.slice none 0 0], []⟩ 8 (by kernel_rfl) (by kernel_rfl) (by kernel_rfl) (by kernel_rfl)) ?_
  intro W base args ds gs before hval0 hW hcnd _
  have hval : ∀ (j : Nat) t v, Try.f4.params[j]? = some t → args[j]? = some v → Value.okWide Try.prog W .any base t v := hval0
  clear hval0 hcnd
  obtain ⟨_, _, hA0, hV0, _, _, _⟩ := id hW
  have hA : DataW.TrodAll enc Try.prog W 0 (fun _ => true) true Try.f4.params.toList args.toList ds _ := hA0
  clear hA0
  rw [Try.params4] at hA hval
  obtain ⟨v0, d0, rfl, rfl, h0⟩ := trodAll_one hA
  obtain ⟨x0, ⟨A0, c0, hc0, r0⟩, l0, _⟩ := openArg oBytes h0
  obtain rfl := one1 hc0 (okWide_slice Try.underlying22 (hval 0 _ v0 rfl rfl))
  refine (law_Transp A0 _ x0 W (le_maxLen l0) r0).mono fun e W' ⟨he, hw⟩ => ?_
  exact ⟨_, he, law_post Try.laidOut hW rfl rfl rfl Try.underlying4 (by kernel_rfl) hw⟩

theorem fnTranspose_holds : Rows.FnTransposeSaid :=
  OpenClaim.holds_of_wide 4 Try.f4 rfl rfl rfl rfl rfl rfl rfl ⟨rfl, rfl, rfl, rfl, rfl⟩ rfl rfl rfl rfl rfl (by kernel_rfl) Try.func4 (by kernel_rfl)
    (of_decide_eq_true (by kernel_rfl)) (by unfold Func.isWrapper; rw [if_neg (of_decide_eq_false (by kernel_rfl))]; exact ⟨rfl, rfl⟩)
    (fun os started H enc _ => lifted_FnTranspose os started H enc)

end Go.Proofs.Ytbaheampmiecmaa
