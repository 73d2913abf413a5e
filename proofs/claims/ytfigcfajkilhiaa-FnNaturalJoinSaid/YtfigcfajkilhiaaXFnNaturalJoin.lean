/- Two labeled relations drawn from any bytes: joined either way round the join is the same, and is the reference's; joined with itself or once more nothing changes. -/
import Derived.Test.YtfigcfajkilhiaaXFnScal1
import Derived.Test.YtfigcfajkilhiaaD05
import Derived.Test.YtfigcfajkilhiaaD07
import Derived.Test.YtfigcfajkilhiaaD08
import Derived.Test.YtfigcfajkilhiaaD02
namespace Go.Proofs.Ytfigcfajkilhiaa
open Go.ChangeShapes Go.WideShapes Go.ChangeAt Go.RowKit

theorem joinR_small {a b : VRd} {m n : Nat} (h1 : a.2.2.length ≤ m) (h2 : b.2.2.length ≤ n) (h3 : m * n ≤ 4000) : joinR a b = if vrB a = true ∧ vrB b = true then some (joinVR a b) else none := by
  by_cases h : vrB a = true ∧ vrB b = true
  · rw [if_pos h, joinR_some h h1 h2 h3]
  · rw [if_neg h, joinR_none h]
/-- what the joins of two small ones come to -/
theorem natJ_laws {a b : VRd} (h1 : a.2.2.length ≤ 7) (h2 : b.2.2.length ≤ 7) : joinR b a = joinR a b ∧ ∀ j, joinR a b = some j → joinR a a = some a ∧ joinR j a = some j ∧ vrB j = true := by
  rw [joinR_small h2 h1 (by omega), joinR_small h1 h2 (by omega)]
  by_cases h : vrB a = true ∧ vrB b = true
  · rw [if_pos h, if_pos h.symm, joinVR_comm h.symm]
    refine ⟨rfl, fun j hj => ?_⟩
    injection hj with hj
    subst hj
    have hv := vrB_iff.2 (joinVR_ok h h1 h2 (by omega))
    refine ⟨?_, ?_, hv⟩
    · rw [joinR_small h1 h1 (by omega), if_pos ⟨h.1, h.1⟩, join_self h.1]
    · rw [joinR_small (joinVR_cnt h1 h2) h1 (by omega), if_pos ⟨hv, h.1⟩, join_again h h1 h2 (by omega)]
  · rw [if_neg h, if_neg (fun k => h k.symm)]
    exact ⟨rfl, fun j hj => by cases hj⟩

set_option maxHeartbeats 2000000 in
theorem law_NatJ_big (A : Option Addr) (c : Nat) (bs : List UInt8) (w : World) (hb : 1048576 < bs.length) (hl : bs.length ≤ 9223372036854775807) : Calls Try.prog 9 #[.slice A bs.length c] w fun e w' => e = .returned (.bool true) ∧ ∃ y, w' = ext w y := by
  go_enter Try.func9, Try.ntmps9
  go_wp2_with fail
  refine (lawBig_any hl).mono ?_
  rintro e w1 ⟨rfl, hx1⟩
  rw [decide_eq_true hb]
  go_wp2_with fail
  go_ret
  exact ⟨rfl, hx1⟩

set_option maxRecDepth 100000 in
set_option maxHeartbeats 8000000 in
theorem law_NatJ_m (A : Option Addr) (c : Nat) (bs : List UInt8) (w : World) (hb : bs.length ≤ 1048576) (h1 : RU w A bs) : Calls Try.prog 9 #[.slice A bs.length c] w fun e w' => e = .returned (.bool true) ∧ ∃ y, w' = ext w y := by
  go_enter Try.func9, Try.ntmps9
  go_wp2_with fail
  refine (lawBig_any (by omega)).mono ?_
  rintro e w1 ⟨rfl, hx1⟩
  rw [decide_eq_false (show ¬ 1048576 < bs.length by omega)]
  go_wp2_with fail
  refine (DrawNaturalJoin_any hb (h1.toExt hx1)).mono ?_
  rintro e w2 ⟨v0, v1, v2, u0, u1, u2, F, G, a, b, rfl, hS1, hS2, hD1, hD2, _, _, hx2⟩
  obtain ⟨A1, a1, A2, a2, rfl, rfl, rfl⟩ := sVR_form hS1
  obtain ⟨A3, a3, A4, a4, rfl, rfl, rfl⟩ := sVR_form hS2
  have vA := sVR_v _ _ _ hS1
  have vB := sVR_v _ _ _ hS2
  have hBA := hD1.b
  have hBB := hD2.b
  obtain ⟨hJ2, hJ⟩ := natJ_laws hD1.n hD2.n
  have hJb := join_bd a b
  clear hS1 hS2 hD1 hD2
  go_upto_region 4 with fail
  refine wp_name ?_
  intro W hW
  have BA : BoxAt W w2.heap.size #[.slice A1 a.1.length a1, .int .i64 a.2.1, .slice A2 a.2.2.length a2] := by
    rw [hW.out]
    exact (BoxAt.new w2 _ _).toExt (alloc_ext _ _)
  have BB : BoxAt W (w2.heap.size + 1) #[.slice A3 b.1.length a3, .int .i64 b.2.1, .slice A4 b.2.2.length a4] := by
    rw [hW.out]
    have h := BoxAt.new (w2.alloc (.cells #[.slice A1 a.1.length a1, .int .i64 a.2.1, .slice A2 a.2.2.length a2] 65)) #[.slice A3 b.1.length a3, .int .i64 b.2.1, .slice A4 b.2.2.length a4] 65
    rw [World.size_alloc] at h
    exact h
  have xW : ∃ y, W = ext w2 y := by rw [hW.out]; exact trans_ext (alloc_ext _ _) (alloc_ext _ _)
  have VA := Lib.hid (VD.toExt vA xW)
  have VB := Lib.hid (VD.toExt vB xW)
  have HBA := Lib.hid BA
  have HBB := Lib.hid BB
  have HX := Lib.hid (trans_ext (trans_ext hx1 hx2) xW)
  have HJ := Lib.hid hJ
  have HJ2 := Lib.hid hJ2
  clear hW vA vB xW hx1 hx2 h1 hJ hJ2
  obtain ⟨lA, kA0, kA1, kA2, fA⟩ := box3 BA
  obtain ⟨lB, kB0, kB1, kB2, fB⟩ := box3 BB
  clear BA BB
  go_wp2_with fail
  refine (NaturalJoin_any hBA VA.out hBB VB.out).mono ?_
  rintro e w5 ⟨v0, v1, v2, F5, rfl, hx5, hS5, _, _⟩
  obtain ⟨A51, a51, A52, a52, rfl, rfl, rfl⟩ := sVR_form hS5
  have V5 := Lib.hid (sVR_v _ _ _ hS5)
  have hy5 := Lib.hid hx5
  clear hS5 hx5
  go_upto_region 5 with fail
  refine wp_name ?_
  intro W5 hW
  have xw : ∃ y, W5 = ext w5 y := by rw [hW.out]; exact (by refine Chg.isExt (F := []) ?_ (refl_ext _) (by simp); repeat (with_reducible (first | exact Chg.refl _ _ | exact Nat.le_refl _ | exact Chg.ofExt (by assumption) | refine Chg.trans0 ?_ (by assumption) | refine Chg.extS ?_ _ | refine Chg.alloc ?_ _ | refine Chg.drew ?_ | refine Chg.setCellE ?_ ?_ _ | refine le_addk ?_ _ | refine le_ext ?_ | refine le_alloc ?_ _ | refine le_setC ?_ _ _ | refine le_drew ?_ | assumption | (refine Nat.le_of_lt ?_; omega) | omega)))
  have b5 : BoxAt W5 w5.heap.size #[.slice A51 ((joinR a b).getD zVR).1.length a51, .int .i64 ((joinR a b).getD zVR).2.1, .slice A52 ((joinR a b).getD zVR).2.2.length a52] := by rw [hW.out]; exact BoxAt.new _ _ _
  have B5 := Lib.hid b5
  have xx := trans_ext hy5.out xw
  have V5 := Lib.hid (VD.toExt V5.out xw)
  have HBA := Lib.hid (HBA.out.toExt xx)
  have VA := Lib.hid (VD.toExt VA.out xx)
  have HBB := Lib.hid (HBB.out.toExt xx)
  have VB := Lib.hid (VD.toExt VB.out xx)
  have HX := Lib.hid (trans_ext HX.out xx)
  clear hW xw xx b5 lA kA0 kA1 kA2 fA lB kB0 kB1 kB2 fB
  obtain ⟨lA, kA0, kA1, kA2, fA⟩ := box3 HBA.out
  obtain ⟨lB, kB0, kB1, kB2, fB⟩ := box3 HBB.out
  obtain ⟨l5, k50, k51, k52, f5⟩ := box3 B5.out
  go_wp2_with fail
  refine (NaturalJoin_any hBB VB.out hBA VA.out).mono ?_
  rintro e w7 ⟨v0, v1, v2, F7, rfl, hx7, hS7, _, _⟩
  rw [HJ2.out] at hS7 ⊢
  obtain ⟨A71, a71, A72, a72, rfl, rfl, rfl⟩ := sVR_form hS7
  have V7 := Lib.hid (sVR_v _ _ _ hS7)
  have hy7 := Lib.hid hx7
  clear hS7 hx7
  go_upto_region 6 with fail
  refine wp_name ?_
  intro W7 hW
  have xw : ∃ y, W7 = ext w7 y := by rw [hW.out]; exact (by refine Chg.isExt (F := []) ?_ (refl_ext _) (by simp); repeat (with_reducible (first | exact Chg.refl _ _ | exact Nat.le_refl _ | exact Chg.ofExt (by assumption) | refine Chg.trans0 ?_ (by assumption) | refine Chg.extS ?_ _ | refine Chg.alloc ?_ _ | refine Chg.drew ?_ | refine Chg.setCellE ?_ ?_ _ | refine le_addk ?_ _ | refine le_ext ?_ | refine le_alloc ?_ _ | refine le_setC ?_ _ _ | refine le_drew ?_ | assumption | (refine Nat.le_of_lt ?_; omega) | omega)))
  have b7 : BoxAt W7 w7.heap.size #[.slice A71 ((joinR a b).getD zVR).1.length a71, .int .i64 ((joinR a b).getD zVR).2.1, .slice A72 ((joinR a b).getD zVR).2.2.length a72] := by rw [hW.out]; exact BoxAt.new _ _ _
  have B7 := Lib.hid b7
  have xx := trans_ext hy7.out xw
  have V7 := Lib.hid (VD.toExt V7.out xw)
  have HBA := Lib.hid (HBA.out.toExt xx)
  have VA := Lib.hid (VD.toExt VA.out xx)
  have HBB := Lib.hid (HBB.out.toExt xx)
  have VB := Lib.hid (VD.toExt VB.out xx)
  have B5 := Lib.hid (B5.out.toExt xx)
  have V5 := Lib.hid (VD.toExt V5.out xx)
  have HX := Lib.hid (trans_ext HX.out xx)
  clear hW xw xx b7 lA kA0 kA1 kA2 fA lB kB0 kB1 kB2 fB l5 k50 k51 k52 f5
  obtain ⟨lA, kA0, kA1, kA2, fA⟩ := box3 HBA.out
  obtain ⟨lB, kB0, kB1, kB2, fB⟩ := box3 HBB.out
  obtain ⟨l5, k50, k51, k52, f5⟩ := box3 B5.out
  obtain ⟨l7, k70, k71, k72, f7⟩ := box3 B7.out
  go_wp2_with fail
  refine (specNaturalJoin_any hBA VA.out hBB VB.out).mono ?_
  rintro e w9 ⟨v0, v1, v2, F9, rfl, hx9, hS9, _, _⟩
  obtain ⟨A91, a91, A92, a92, rfl, rfl, rfl⟩ := sVR_form hS9
  have V9 := Lib.hid (sVR_v _ _ _ hS9)
  have hy9 := Lib.hid hx9
  clear hS9 hx9
  go_upto_region 7 with fail
  refine wp_name ?_
  intro W9 hW
  have xw : ∃ y, W9 = ext w9 y := by rw [hW.out]; exact (by refine Chg.isExt (F := []) ?_ (refl_ext _) (by simp); repeat (with_reducible (first | exact Chg.refl _ _ | exact Nat.le_refl _ | exact Chg.ofExt (by assumption) | refine Chg.trans0 ?_ (by assumption) | refine Chg.extS ?_ _ | refine Chg.alloc ?_ _ | refine Chg.drew ?_ | refine Chg.setCellE ?_ ?_ _ | refine le_addk ?_ _ | refine le_ext ?_ | refine le_alloc ?_ _ | refine le_setC ?_ _ _ | refine le_drew ?_ | assumption | (refine Nat.le_of_lt ?_; omega) | omega)))
  have b9 : BoxAt W9 w9.heap.size #[.slice A91 ((joinR a b).getD zVR).1.length a91, .int .i64 ((joinR a b).getD zVR).2.1, .slice A92 ((joinR a b).getD zVR).2.2.length a92] := by rw [hW.out]; exact BoxAt.new _ _ _
  have B9 := Lib.hid b9
  have xx := trans_ext hy9.out xw
  have V9 := Lib.hid (VD.toExt V9.out xw)
  have HBA := Lib.hid (HBA.out.toExt xx)
  have VA := Lib.hid (VD.toExt VA.out xx)
  have HBB := Lib.hid (HBB.out.toExt xx)
  have VB := Lib.hid (VD.toExt VB.out xx)
  have B5 := Lib.hid (B5.out.toExt xx)
  have V5 := Lib.hid (VD.toExt V5.out xx)
  have B7 := Lib.hid (B7.out.toExt xx)
  have V7 := Lib.hid (VD.toExt V7.out xx)
  have HX := Lib.hid (trans_ext HX.out xx)
  clear hW xw xx b9 lA kA0 kA1 kA2 fA lB kB0 kB1 kB2 fB l5 k50 k51 k52 f5 l7 k70 k71 k72 f7
  obtain ⟨lA, kA0, kA1, kA2, fA⟩ := box3 HBA.out
  obtain ⟨lB, kB0, kB1, kB2, fB⟩ := box3 HBB.out
  obtain ⟨l5, k50, k51, k52, f5⟩ := box3 B5.out
  obtain ⟨l7, k70, k71, k72, f7⟩ := box3 B7.out
  obtain ⟨l9, k90, k91, k92, f9⟩ := box3 B9.out
  obtain ⟨s, hs⟩ : ∃ s, (joinR a b).isSome = s := ⟨_, rfl⟩
  rw [hs]
  have q1 : (s != s) = false := by simp
  go_wp2_with fail
  refine (specEqualVarRelations_any hJb V5.out hJb V9.out).mono ?_
  rintro e w16 ⟨rfl, hx16⟩
  rw [decide_eq_true rfl]
  have HBA := Lib.hid (HBA.out.toExt hx16)
  have VA := Lib.hid (VD.toExt VA.out hx16)
  have HBB := Lib.hid (HBB.out.toExt hx16)
  have VB := Lib.hid (VD.toExt VB.out hx16)
  have B5 := Lib.hid (B5.out.toExt hx16)
  have V5 := Lib.hid (VD.toExt V5.out hx16)
  have B7 := Lib.hid (B7.out.toExt hx16)
  have V7 := Lib.hid (VD.toExt V7.out hx16)
  have B9 := Lib.hid (B9.out.toExt hx16)
  have V9 := Lib.hid (VD.toExt V9.out hx16)
  have HX := Lib.hid (trans_ext HX.out hx16)
  clear hx16 lA kA0 kA1 kA2 fA lB kB0 kB1 kB2 fB l5 k50 k51 k52 f5 l7 k70 k71 k72 f7 l9 k90 k91 k92 f9
  obtain ⟨lA, kA0, kA1, kA2, fA⟩ := box3 HBA.out
  obtain ⟨lB, kB0, kB1, kB2, fB⟩ := box3 HBB.out
  obtain ⟨l5, k50, k51, k52, f5⟩ := box3 B5.out
  obtain ⟨l7, k70, k71, k72, f7⟩ := box3 B7.out
  obtain ⟨l9, k90, k91, k92, f9⟩ := box3 B9.out
  cases s with
  | false =>
    go_wp2_with fail
    go_ret
    exact ⟨rfl, HX.out⟩
  | true =>
    obtain ⟨j, hj⟩ := Option.isSome_iff_exists.1 hs
    obtain ⟨hJ3, hJ4, hJ5⟩ := HJ.out j hj
    have hjd : (joinR a b).getD zVR = j := by rw [hj]; rfl
    have HJ4 : Hid (joinR ((joinR a b).getD zVR) a = some ((joinR a b).getD zVR)) := Lib.hid (by rw [hjd]; exact hJ4)
    have HJ5 : Hid (vrB ((joinR a b).getD zVR) = true) := Lib.hid (by rw [hjd]; exact hJ5)
    have HJ3 := Lib.hid hJ3
    clear hJ3 hJ4 hJ5 hj hjd hs q1
    go_wp2_with fail
    refine (NaturalJoin_any hBA VA.out hBA VA.out).mono ?_
    rintro e w11 ⟨v0, v1, v2, F11, rfl, hx11, hS11, _, _⟩
    rw [HJ3.out] at hS11 ⊢
    rw [Option.getD_some] at hS11
    rw [Option.isSome_some]
    obtain ⟨A111, a111, A112, a112, rfl, rfl, rfl⟩ := sVR_form hS11
    have V11 := Lib.hid (sVR_v _ _ _ hS11)
    have hy11 := Lib.hid hx11
    clear hS11 hx11
    go_upto_region 12 with fail
    refine wp_name ?_
    intro W11 hW
    have xw : ∃ y, W11 = ext w11 y := by rw [hW.out]; exact (by refine Chg.isExt (F := []) ?_ (refl_ext _) (by simp); repeat (with_reducible (first | exact Chg.refl _ _ | exact Nat.le_refl _ | exact Chg.ofExt (by assumption) | refine Chg.trans0 ?_ (by assumption) | refine Chg.extS ?_ _ | refine Chg.alloc ?_ _ | refine Chg.drew ?_ | refine Chg.setCellE ?_ ?_ _ | refine le_addk ?_ _ | refine le_ext ?_ | refine le_alloc ?_ _ | refine le_setC ?_ _ _ | refine le_drew ?_ | assumption | (refine Nat.le_of_lt ?_; omega) | omega)))
    have b11 : BoxAt W11 w11.heap.size #[.slice A111 a.1.length a111, .int .i64 a.2.1, .slice A112 a.2.2.length a112] := by rw [hW.out]; exact BoxAt.new _ _ _
    have B11 := Lib.hid b11
    have xx := trans_ext hy11.out xw
    have V11 := Lib.hid (VD.toExt V11.out xw)
    have HBA := Lib.hid (HBA.out.toExt xx)
    have VA := Lib.hid (VD.toExt VA.out xx)
    have HBB := Lib.hid (HBB.out.toExt xx)
    have VB := Lib.hid (VD.toExt VB.out xx)
    have B5 := Lib.hid (B5.out.toExt xx)
    have V5 := Lib.hid (VD.toExt V5.out xx)
    have B7 := Lib.hid (B7.out.toExt xx)
    have V7 := Lib.hid (VD.toExt V7.out xx)
    have B9 := Lib.hid (B9.out.toExt xx)
    have V9 := Lib.hid (VD.toExt V9.out xx)
    have HX := Lib.hid (trans_ext HX.out xx)
    clear hW xw xx b11 lA kA0 kA1 kA2 fA lB kB0 kB1 kB2 fB l5 k50 k51 k52 f5 l7 k70 k71 k72 f7 l9 k90 k91 k92 f9
    obtain ⟨lA, kA0, kA1, kA2, fA⟩ := box3 HBA.out
    obtain ⟨lB, kB0, kB1, kB2, fB⟩ := box3 HBB.out
    obtain ⟨l5, k50, k51, k52, f5⟩ := box3 B5.out
    obtain ⟨l7, k70, k71, k72, f7⟩ := box3 B7.out
    obtain ⟨l9, k90, k91, k92, f9⟩ := box3 B9.out
    obtain ⟨l11, k110, k111, k112, f11⟩ := box3 B11.out
    go_wp2_with fail
    refine (NaturalJoin_any hJb V5.out hBA VA.out).mono ?_
    rintro e w13 ⟨v0, v1, v2, F13, rfl, hx13, hS13, _, _⟩
    rw [HJ4.out] at hS13 ⊢
    rw [Option.getD_some] at hS13
    rw [Option.isSome_some]
    obtain ⟨A131, a131, A132, a132, rfl, rfl, rfl⟩ := sVR_form hS13
    have V13 := Lib.hid (sVR_v _ _ _ hS13)
    have hy13 := Lib.hid hx13
    clear hS13 hx13
    go_upto_region 13 with fail
    refine wp_name ?_
    intro W13 hW
    have xw : ∃ y, W13 = ext w13 y := by rw [hW.out]; exact (by refine Chg.isExt (F := []) ?_ (refl_ext _) (by simp); repeat (with_reducible (first | exact Chg.refl _ _ | exact Nat.le_refl _ | exact Chg.ofExt (by assumption) | refine Chg.trans0 ?_ (by assumption) | refine Chg.extS ?_ _ | refine Chg.alloc ?_ _ | refine Chg.drew ?_ | refine Chg.setCellE ?_ ?_ _ | refine le_addk ?_ _ | refine le_ext ?_ | refine le_alloc ?_ _ | refine le_setC ?_ _ _ | refine le_drew ?_ | assumption | (refine Nat.le_of_lt ?_; omega) | omega)))
    have b13 : BoxAt W13 w13.heap.size #[.slice A131 ((joinR a b).getD zVR).1.length a131, .int .i64 ((joinR a b).getD zVR).2.1, .slice A132 ((joinR a b).getD zVR).2.2.length a132] := by rw [hW.out]; exact BoxAt.new _ _ _
    have B13 := Lib.hid b13
    have xx := trans_ext hy13.out xw
    have V13 := Lib.hid (VD.toExt V13.out xw)
    have HBA := Lib.hid (HBA.out.toExt xx)
    have VA := Lib.hid (VD.toExt VA.out xx)
    have HBB := Lib.hid (HBB.out.toExt xx)
    have VB := Lib.hid (VD.toExt VB.out xx)
    have B5 := Lib.hid (B5.out.toExt xx)
    have V5 := Lib.hid (VD.toExt V5.out xx)
    have B7 := Lib.hid (B7.out.toExt xx)
    have V7 := Lib.hid (VD.toExt V7.out xx)
    have B9 := Lib.hid (B9.out.toExt xx)
    have V9 := Lib.hid (VD.toExt V9.out xx)
    have B11 := Lib.hid (B11.out.toExt xx)
    have V11 := Lib.hid (VD.toExt V11.out xx)
    have HX := Lib.hid (trans_ext HX.out xx)
    clear hW xw xx b13 lA kA0 kA1 kA2 fA lB kB0 kB1 kB2 fB l5 k50 k51 k52 f5 l7 k70 k71 k72 f7 l9 k90 k91 k92 f9 l11 k110 k111 k112 f11
    obtain ⟨lA, kA0, kA1, kA2, fA⟩ := box3 HBA.out
    obtain ⟨lB, kB0, kB1, kB2, fB⟩ := box3 HBB.out
    obtain ⟨l5, k50, k51, k52, f5⟩ := box3 B5.out
    obtain ⟨l7, k70, k71, k72, f7⟩ := box3 B7.out
    obtain ⟨l9, k90, k91, k92, f9⟩ := box3 B9.out
    obtain ⟨l11, k110, k111, k112, f11⟩ := box3 B11.out
    obtain ⟨l13, k130, k131, k132, f13⟩ := box3 B13.out
    go_wp2_with fail
    refine (specEqualVarRelations_any hJb V5.out hJb V7.out).mono ?_
    rintro e w21 ⟨rfl, hx21⟩
    rw [decide_eq_true rfl]
    have HBA := Lib.hid (HBA.out.toExt hx21)
    have VA := Lib.hid (VD.toExt VA.out hx21)
    have HBB := Lib.hid (HBB.out.toExt hx21)
    have VB := Lib.hid (VD.toExt VB.out hx21)
    have B5 := Lib.hid (B5.out.toExt hx21)
    have V5 := Lib.hid (VD.toExt V5.out hx21)
    have B7 := Lib.hid (B7.out.toExt hx21)
    have V7 := Lib.hid (VD.toExt V7.out hx21)
    have B9 := Lib.hid (B9.out.toExt hx21)
    have V9 := Lib.hid (VD.toExt V9.out hx21)
    have B11 := Lib.hid (B11.out.toExt hx21)
    have V11 := Lib.hid (VD.toExt V11.out hx21)
    have B13 := Lib.hid (B13.out.toExt hx21)
    have V13 := Lib.hid (VD.toExt V13.out hx21)
    have HX := Lib.hid (trans_ext HX.out hx21)
    clear hx21 lA kA0 kA1 kA2 fA lB kB0 kB1 kB2 fB l5 k50 k51 k52 f5 l7 k70 k71 k72 f7 l9 k90 k91 k92 f9 l11 k110 k111 k112 f11 l13 k130 k131 k132 f13
    obtain ⟨lA, kA0, kA1, kA2, fA⟩ := box3 HBA.out
    obtain ⟨lB, kB0, kB1, kB2, fB⟩ := box3 HBB.out
    obtain ⟨l5, k50, k51, k52, f5⟩ := box3 B5.out
    obtain ⟨l7, k70, k71, k72, f7⟩ := box3 B7.out
    obtain ⟨l9, k90, k91, k92, f9⟩ := box3 B9.out
    obtain ⟨l11, k110, k111, k112, f11⟩ := box3 B11.out
    obtain ⟨l13, k130, k131, k132, f13⟩ := box3 B13.out
    go_wp2_with fail
    refine (EqualVarRelations_any hJb V5.out hJb V7.out).mono ?_
    rintro e w22 ⟨rfl, hx22⟩
    rw [decide_eq_true rfl]
    have HBA := Lib.hid (HBA.out.toExt hx22)
    have VA := Lib.hid (VD.toExt VA.out hx22)
    have HBB := Lib.hid (HBB.out.toExt hx22)
    have VB := Lib.hid (VD.toExt VB.out hx22)
    have B5 := Lib.hid (B5.out.toExt hx22)
    have V5 := Lib.hid (VD.toExt V5.out hx22)
    have B7 := Lib.hid (B7.out.toExt hx22)
    have V7 := Lib.hid (VD.toExt V7.out hx22)
    have B9 := Lib.hid (B9.out.toExt hx22)
    have V9 := Lib.hid (VD.toExt V9.out hx22)
    have B11 := Lib.hid (B11.out.toExt hx22)
    have V11 := Lib.hid (VD.toExt V11.out hx22)
    have B13 := Lib.hid (B13.out.toExt hx22)
    have V13 := Lib.hid (VD.toExt V13.out hx22)
    have HX := Lib.hid (trans_ext HX.out hx22)
    clear hx22 lA kA0 kA1 kA2 fA lB kB0 kB1 kB2 fB l5 k50 k51 k52 f5 l7 k70 k71 k72 f7 l9 k90 k91 k92 f9 l11 k110 k111 k112 f11 l13 k130 k131 k132 f13
    obtain ⟨lA, kA0, kA1, kA2, fA⟩ := box3 HBA.out
    obtain ⟨lB, kB0, kB1, kB2, fB⟩ := box3 HBB.out
    obtain ⟨l5, k50, k51, k52, f5⟩ := box3 B5.out
    obtain ⟨l7, k70, k71, k72, f7⟩ := box3 B7.out
    obtain ⟨l9, k90, k91, k92, f9⟩ := box3 B9.out
    obtain ⟨l11, k110, k111, k112, f11⟩ := box3 B11.out
    obtain ⟨l13, k130, k131, k132, f13⟩ := box3 B13.out
    go_wp2_with fail
    refine (specEqualVarRelations_any hBA V11.out hBA VA.out).mono ?_
    rintro e w23 ⟨rfl, hx23⟩
    rw [decide_eq_true rfl]
    have HBA := Lib.hid (HBA.out.toExt hx23)
    have VA := Lib.hid (VD.toExt VA.out hx23)
    have HBB := Lib.hid (HBB.out.toExt hx23)
    have VB := Lib.hid (VD.toExt VB.out hx23)
    have B5 := Lib.hid (B5.out.toExt hx23)
    have V5 := Lib.hid (VD.toExt V5.out hx23)
    have B7 := Lib.hid (B7.out.toExt hx23)
    have V7 := Lib.hid (VD.toExt V7.out hx23)
    have B9 := Lib.hid (B9.out.toExt hx23)
    have V9 := Lib.hid (VD.toExt V9.out hx23)
    have B11 := Lib.hid (B11.out.toExt hx23)
    have V11 := Lib.hid (VD.toExt V11.out hx23)
    have B13 := Lib.hid (B13.out.toExt hx23)
    have V13 := Lib.hid (VD.toExt V13.out hx23)
    have HX := Lib.hid (trans_ext HX.out hx23)
    clear hx23 lA kA0 kA1 kA2 fA lB kB0 kB1 kB2 fB l5 k50 k51 k52 f5 l7 k70 k71 k72 f7 l9 k90 k91 k92 f9 l11 k110 k111 k112 f11 l13 k130 k131 k132 f13
    obtain ⟨lA, kA0, kA1, kA2, fA⟩ := box3 HBA.out
    obtain ⟨lB, kB0, kB1, kB2, fB⟩ := box3 HBB.out
    obtain ⟨l5, k50, k51, k52, f5⟩ := box3 B5.out
    obtain ⟨l7, k70, k71, k72, f7⟩ := box3 B7.out
    obtain ⟨l9, k90, k91, k92, f9⟩ := box3 B9.out
    obtain ⟨l11, k110, k111, k112, f11⟩ := box3 B11.out
    obtain ⟨l13, k130, k131, k132, f13⟩ := box3 B13.out
    go_wp2_with fail
    refine (specEqualVarRelations_any hJb V13.out hJb V5.out).mono ?_
    rintro e w24 ⟨rfl, hx24⟩
    rw [decide_eq_true rfl]
    have HBA := Lib.hid (HBA.out.toExt hx24)
    have VA := Lib.hid (VD.toExt VA.out hx24)
    have HBB := Lib.hid (HBB.out.toExt hx24)
    have VB := Lib.hid (VD.toExt VB.out hx24)
    have B5 := Lib.hid (B5.out.toExt hx24)
    have V5 := Lib.hid (VD.toExt V5.out hx24)
    have B7 := Lib.hid (B7.out.toExt hx24)
    have V7 := Lib.hid (VD.toExt V7.out hx24)
    have B9 := Lib.hid (B9.out.toExt hx24)
    have V9 := Lib.hid (VD.toExt V9.out hx24)
    have B11 := Lib.hid (B11.out.toExt hx24)
    have V11 := Lib.hid (VD.toExt V11.out hx24)
    have B13 := Lib.hid (B13.out.toExt hx24)
    have V13 := Lib.hid (VD.toExt V13.out hx24)
    have HX := Lib.hid (trans_ext HX.out hx24)
    clear hx24 lA kA0 kA1 kA2 fA lB kB0 kB1 kB2 fB l5 k50 k51 k52 f5 l7 k70 k71 k72 f7 l9 k90 k91 k92 f9 l11 k110 k111 k112 f11 l13 k130 k131 k132 f13
    obtain ⟨lA, kA0, kA1, kA2, fA⟩ := box3 HBA.out
    obtain ⟨lB, kB0, kB1, kB2, fB⟩ := box3 HBB.out
    obtain ⟨l5, k50, k51, k52, f5⟩ := box3 B5.out
    obtain ⟨l7, k70, k71, k72, f7⟩ := box3 B7.out
    obtain ⟨l9, k90, k91, k92, f9⟩ := box3 B9.out
    obtain ⟨l11, k110, k111, k112, f11⟩ := box3 B11.out
    obtain ⟨l13, k130, k131, k132, f13⟩ := box3 B13.out
    go_wp2_with fail
    refine (IsValidVarRelation_any hJb V5.out).mono ?_
    rintro e w25 ⟨rfl, hx25⟩
    rw [HJ5.out]
    have HBA := Lib.hid (HBA.out.toExt hx25)
    have VA := Lib.hid (VD.toExt VA.out hx25)
    have HBB := Lib.hid (HBB.out.toExt hx25)
    have VB := Lib.hid (VD.toExt VB.out hx25)
    have B5 := Lib.hid (B5.out.toExt hx25)
    have V5 := Lib.hid (VD.toExt V5.out hx25)
    have B7 := Lib.hid (B7.out.toExt hx25)
    have V7 := Lib.hid (VD.toExt V7.out hx25)
    have B9 := Lib.hid (B9.out.toExt hx25)
    have V9 := Lib.hid (VD.toExt V9.out hx25)
    have B11 := Lib.hid (B11.out.toExt hx25)
    have V11 := Lib.hid (VD.toExt V11.out hx25)
    have B13 := Lib.hid (B13.out.toExt hx25)
    have V13 := Lib.hid (VD.toExt V13.out hx25)
    have HX := Lib.hid (trans_ext HX.out hx25)
    clear hx25 lA kA0 kA1 kA2 fA lB kB0 kB1 kB2 fB l5 k50 k51 k52 f5 l7 k70 k71 k72 f7 l9 k90 k91 k92 f9 l11 k110 k111 k112 f11 l13 k130 k131 k132 f13
    obtain ⟨lA, kA0, kA1, kA2, fA⟩ := box3 HBA.out
    obtain ⟨lB, kB0, kB1, kB2, fB⟩ := box3 HBB.out
    obtain ⟨l5, k50, k51, k52, f5⟩ := box3 B5.out
    obtain ⟨l7, k70, k71, k72, f7⟩ := box3 B7.out
    obtain ⟨l9, k90, k91, k92, f9⟩ := box3 B9.out
    obtain ⟨l11, k110, k111, k112, f11⟩ := box3 B11.out
    obtain ⟨l13, k130, k131, k132, f13⟩ := box3 B13.out
    go_wp2_with fail
    go_ret
    exact ⟨rfl, HX.out⟩

theorem law_NatJ (A : Option Addr) (c : Nat) (bs : List UInt8) (w : World) (hl : bs.length ≤ 9223372036854775807) (h1 : RU w A bs) : Calls Try.prog 9 #[.slice A bs.length c] w fun e w' => e = .returned (.bool true) ∧ ∃ y, w' = ext w y := by
  by_cases hb : 1048576 < bs.length
  · exact law_NatJ_big A c bs w hb hl
  · exact law_NatJ_m A c bs w (by omega) h1

set_option maxRecDepth 100000 in
theorem lifted_FnNaturalJoin (os : Os) (started : os.Started) (H : Type) (enc : TypeId × Value → H) :
    ReturnsInHanded {} Try.checked os 9 .any (Rows.fnNaturalJoinSpec.pre6 enc Try.prog Try.f9 Rows.fnNaturalJoinRow.domain false) (Rows.fnNaturalJoinSpec.post enc Try.prog Try.f9 false true false false) := by
  refine returnsInHanded_of_change (C := Try.checked) Try.own started (by kernel_rfl) Try.func9 (ChangeSpec.witness6 (enc := enc) (C := Try.checked) false ⟨#[], #[.slice none 0 0], []⟩ 8 (by kernel_rfl) (by kernel_rfl) (by kernel_rfl) (by kernel_rfl)) ?_
  intro W base args ds gs before hval0 hW hcnd _
  have hval : ∀ (j : Nat) t v, Try.f9.params[j]? = some t → args[j]? = some v → Value.okWide Try.prog W .any base t v := hval0
  clear hval0 hcnd
  obtain ⟨_, _, hA0, hV0, _, _, _⟩ := id hW
  have hA : DataW.TrodAll enc Try.prog W 0 (fun _ => true) true Try.f9.params.toList args.toList ds _ := hA0
  clear hA0
  rw [Try.params9] at hA hval
  obtain ⟨v0, d0, rfl, rfl, h0⟩ := trodAll_one hA
  obtain ⟨x0, ⟨A0, c0, hc0, r0⟩, l0, _⟩ := openArg oBytes h0
  obtain rfl := one1 hc0 (okWide_slice Try.underlying62 (hval 0 _ v0 rfl rfl))
  refine (law_NatJ A0 _ x0 W (le_maxLen l0) r0).mono fun e W' ⟨he, hw⟩ => ?_
  exact ⟨_, he, law_post Try.laidOut hW rfl rfl rfl Try.underlying4 (by kernel_rfl) hw⟩

theorem fnNaturalJoin_and {a b : Bool} (ha : a = true) (hb : b = true) : (a && b) = true := by rw [ha, hb]; rfl
set_option maxHeartbeats 16000000 in
theorem fnNaturalJoin_closed : joinedFacts Try.checked.prog 9 Try.f9 Rows.fnNaturalJoinSpec Rows.fnNaturalJoinRow = true := by
  unfold joinedFacts
  repeat' (with_reducible refine fnNaturalJoin_and ?_ ?_)
  all_goals (as_aux_lemma => kernel_rfl)
theorem fnNaturalJoin_holds : Rows.FnNaturalJoinSaid :=
  OpenClaim.holds_of_wide 9 Try.f9 rfl rfl rfl rfl rfl rfl rfl ⟨rfl, rfl, rfl, rfl, rfl⟩ rfl rfl rfl rfl rfl (by kernel_rfl) Try.func9 fnNaturalJoin_closed
    (of_decide_eq_true (by kernel_rfl)) (by unfold Func.isWrapper; rw [if_neg (of_decide_eq_false (by kernel_rfl))]; exact ⟨rfl, rfl⟩)
    (fun os started H enc _ => lifted_FnNaturalJoin os started H enc)

end Go.Proofs.Ytfigcfajkilhiaa
