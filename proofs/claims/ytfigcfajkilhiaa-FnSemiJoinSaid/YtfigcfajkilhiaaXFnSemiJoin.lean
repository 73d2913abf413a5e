/- Two labeled relations drawn from any bytes: the semijoin is the reference's, once more it changes nothing, and it is the join's columns of the left one. -/
import Derived.Test.YtfigcfajkilhiaaXFnScal1
import Derived.Test.YtfigcfajkilhiaaD05
import Derived.Test.YtfigcfajkilhiaaD07
import Derived.Test.YtfigcfajkilhiaaD08
import Derived.Test.YtfigcfajkilhiaaD02
import Derived.Test.YtfigcfajkilhiaaD04
namespace Go.Proofs.Ytfigcfajkilhiaa
open Go.ChangeShapes Go.WideShapes Go.ChangeAt Go.RowKit

theorem selI_length {v : Int} : ∀ {xs : List Int} {k : Nat}, (selI k v xs).length ≤ xs.length
  | [], _ => by simp [selI]
  | x :: xs, k => by
    rw [selI]
    have := selI_length (v := v) (xs := xs) (k := k + 1)
    split
    · simp; omega
    · simp; omega
theorem colsL_length {jv : List Int} {n : Nat} (hn : jv.length ≤ n) : ∀ {av : List Int}, (colsL jv av).length ≤ av.length * n
  | [] => by simp [colsL]
  | v :: av => by
    have h1 := colsL_length (jv := jv) hn (av := av)
    have h2 := selI_length (v := v) (xs := jv) (k := 0)
    unfold colsL at h1 ⊢
    rw [List.flatMap_cons, List.length_append, List.length_cons, Nat.succ_mul]
    omega
/-- what the semijoin of two small ones comes to -/
theorem semJ_laws {a b x : VRd} (h1 : a.2.2.length ≤ 7) (h2 : b.2.2.length ≤ 7) (h : semiR a b = some x) : semiR x b = some x ∧ joinR a b = some (joinVR a b) ∧ VrOk (joinVR a b) ∧ VrOk a ∧ VrOk x ∧ projR (joinVR a b).2 (colsL (joinVR a b).1 a.1) = some x.2 := by
  have hv : vrB a = true ∧ vrB b = true := by
    by_cases hv : vrB a = true ∧ vrB b = true
    · exact hv
    · rw [semiR_none hv] at h; cases h
  exact ⟨semiR_id h, joinR_some hv h1 h2 (by omega), joinVR_ok hv h1 h2 (by omega), vrB_iff.1 hv.1, semi_ok h, proj_join h h1 h2 (by omega)⟩

set_option maxHeartbeats 2000000 in
theorem law_SemJ_big (A : Option Addr) (c : Nat) (bs : List UInt8) (w : World) (hb : 1048576 < bs.length) (hl : bs.length ≤ 9223372036854775807) : Calls Try.prog 8 #[.slice A bs.length c] w fun e w' => e = .returned (.bool true) ∧ ∃ y, w' = ext w y := by
  go_enter Try.func8, Try.ntmps8
  go_wp2_with fail
  refine (lawBig_any hl).mono ?_
  rintro e w1 ⟨rfl, hx1⟩
  rw [decide_eq_true hb]
  go_wp2_with fail
  go_ret
  exact ⟨rfl, hx1⟩

set_option maxRecDepth 100000 in
set_option maxHeartbeats 8000000 in
theorem law_SemJ_m (A : Option Addr) (c : Nat) (bs : List UInt8) (w : World) (hb : bs.length ≤ 1048576) (h1 : RU w A bs) : Calls Try.prog 8 #[.slice A bs.length c] w fun e w' => e = .returned (.bool true) ∧ ∃ y, w' = ext w y := by
  go_enter Try.func8, Try.ntmps8
  go_wp2_with fail
  refine (lawBig_any (by omega)).mono ?_
  rintro e w1 ⟨rfl, hx1⟩
  rw [decide_eq_false (show ¬ 1048576 < bs.length by omega)]
  go_wp2_with fail
  refine (DrawSemiJoin_any hb (h1.toExt hx1)).mono ?_
  rintro e w2 ⟨v0, v1, v2, u0, u1, u2, F, G, a, b, rfl, hS1, hS2, hD1, hD2, _, _, hx2⟩
  obtain ⟨A1, a1, A2, a2, rfl, rfl, rfl⟩ := sVR_form hS1
  obtain ⟨A3, a3, A4, a4, rfl, rfl, rfl⟩ := sVR_form hS2
  have vA := sVR_v _ _ _ hS1
  have vB := sVR_v _ _ _ hS2
  have hBA := hD1.b
  have hBB := hD2.b
  have hJ := fun x => semJ_laws (x := x) hD1.n hD2.n
  have hJb := semi_bd a b
  clear hS1 hS2 hD1 hD2
  go_upto_region 4 with fail
  refine wp_name ?_
  intro W hW
  have BA : BoxAt W w2.heap.size #[.slice A1 a.1.length a1, .int .i64 a.2.1, .slice A2 a.2.2.length a2] := by
    rw [hW.out]
    exact (BoxAt.new w2 _ _).toExt (alloc_ext _ _)
  have BB : BoxAt W (w2.heap.size + 1) #[.slice A3 b.1.length a3, .int .i64 b.2.1, .slice A4 b.2.2.length a4] := by
    rw [hW.out]
    have h := BoxAt.new (w2.alloc (.cells #[.slice A1 a.1.length a1, .int .i64 a.2.1, .slice A2 a.2.2.length a2] 65)) #[.slice A3 b.1.length a3, .int .i64 b.2.1, .slice A4 b.2.2.length a4] 65
    rw [World.size_alloc] at h
    exact h
  have xW : ∃ y, W = ext w2 y := by rw [hW.out]; exact trans_ext (alloc_ext _ _) (alloc_ext _ _)
  have VA := Lib.hid (VD.toExt vA xW)
  have VB := Lib.hid (VD.toExt vB xW)
  have HBA := Lib.hid BA
  have HBB := Lib.hid BB
  have HX := Lib.hid (trans_ext (trans_ext hx1 hx2) xW)
  have HJ := Lib.hid hJ
  clear hW vA vB xW hx1 hx2 h1 hJ
  obtain ⟨lA, kA0, kA1, kA2, fA⟩ := box3 BA
  obtain ⟨lB, kB0, kB1, kB2, fB⟩ := box3 BB
  clear BA BB
  go_wp2_with fail
  refine (SemiJoin_any hBA VA.out hBB VB.out).mono ?_
  rintro e w5 ⟨v0, v1, v2, F5, rfl, hx5, hS5, _, _⟩
  obtain ⟨A51, a51, A52, a52, rfl, rfl, rfl⟩ := sVR_form hS5
  have V5 := Lib.hid (sVR_v _ _ _ hS5)
  have hy5 := Lib.hid hx5
  clear hS5 hx5
  go_upto_region 5 with fail
  refine wp_name ?_
  intro W5 hW
  have xw : ∃ y, W5 = ext w5 y := by rw [hW.out]; exact (by refine Chg.isExt (F := []) ?_ (refl_ext _) (by simp); repeat (with_reducible (first | exact Chg.refl _ _ | exact Nat.le_refl _ | exact Chg.ofExt (by assumption) | refine Chg.trans0 ?_ (by assumption) | refine Chg.extS ?_ _ | refine Chg.alloc ?_ _ | refine Chg.drew ?_ | refine Chg.setCellE ?_ ?_ _ | refine le_addk ?_ _ | refine le_ext ?_ | refine le_alloc ?_ _ | refine le_setC ?_ _ _ | refine le_drew ?_ | assumption | (refine Nat.le_of_lt ?_; omega) | omega)))
  have b5 : BoxAt W5 w5.heap.size #[.slice A51 ((semiR a b).getD zVR).1.length a51, .int .i64 ((semiR a b).getD zVR).2.1, .slice A52 ((semiR a b).getD zVR).2.2.length a52] := by rw [hW.out]; exact BoxAt.new _ _ _
  have B5 := Lib.hid b5
  have xx := trans_ext hy5.out xw
  have V5 := Lib.hid (VD.toExt V5.out xw)
  have HBA := Lib.hid (HBA.out.toExt xx)
  have VA := Lib.hid (VD.toExt VA.out xx)
  have HBB := Lib.hid (HBB.out.toExt xx)
  have VB := Lib.hid (VD.toExt VB.out xx)
  have HX := Lib.hid (trans_ext HX.out xx)
  clear hW xw xx b5 lA kA0 kA1 kA2 fA lB kB0 kB1 kB2 fB
  obtain ⟨lA, kA0, kA1, kA2, fA⟩ := box3 HBA.out
  obtain ⟨lB, kB0, kB1, kB2, fB⟩ := box3 HBB.out
  obtain ⟨l5, k50, k51, k52, f5⟩ := box3 B5.out
  go_wp2_with fail
  refine (specSemiJoin_any hBA VA.out hBB VB.out).mono ?_
  rintro e w7 ⟨v0, v1, v2, F7, rfl, hx7, hS7, _, _⟩
  obtain ⟨A71, a71, A72, a72, rfl, rfl, rfl⟩ := sVR_form hS7
  have V7 := Lib.hid (sVR_v _ _ _ hS7)
  have hy7 := Lib.hid hx7
  clear hS7 hx7
  go_upto_region 6 with fail
  refine wp_name ?_
  intro W7 hW
  have xw : ∃ y, W7 = ext w7 y := by rw [hW.out]; exact (by refine Chg.isExt (F := []) ?_ (refl_ext _) (by simp); repeat (with_reducible (first | exact Chg.refl _ _ | exact Nat.le_refl _ | exact Chg.ofExt (by assumption) | refine Chg.trans0 ?_ (by assumption) | refine Chg.extS ?_ _ | refine Chg.alloc ?_ _ | refine Chg.drew ?_ | refine Chg.setCellE ?_ ?_ _ | refine le_addk ?_ _ | refine le_ext ?_ | refine le_alloc ?_ _ | refine le_setC ?_ _ _ | refine le_drew ?_ | assumption | (refine Nat.le_of_lt ?_; omega) | omega)))
  have b7 : BoxAt W7 w7.heap.size #[.slice A71 ((semiR a b).getD zVR).1.length a71, .int .i64 ((semiR a b).getD zVR).2.1, .slice A72 ((semiR a b).getD zVR).2.2.length a72] := by rw [hW.out]; exact BoxAt.new _ _ _
  have B7 := Lib.hid b7
  have xx := trans_ext hy7.out xw
  have V7 := Lib.hid (VD.toExt V7.out xw)
  have HBA := Lib.hid (HBA.out.toExt xx)
  have VA := Lib.hid (VD.toExt VA.out xx)
  have HBB := Lib.hid (HBB.out.toExt xx)
  have VB := Lib.hid (VD.toExt VB.out xx)
  have B5 := Lib.hid (B5.out.toExt xx)
  have V5 := Lib.hid (VD.toExt V5.out xx)
  have HX := Lib.hid (trans_ext HX.out xx)
  clear hW xw xx b7 lA kA0 kA1 kA2 fA lB kB0 kB1 kB2 fB l5 k50 k51 k52 f5
  obtain ⟨lA, kA0, kA1, kA2, fA⟩ := box3 HBA.out
  obtain ⟨lB, kB0, kB1, kB2, fB⟩ := box3 HBB.out
  obtain ⟨l5, k50, k51, k52, f5⟩ := box3 B5.out
  obtain ⟨l7, k70, k71, k72, f7⟩ := box3 B7.out
  obtain ⟨s, hs⟩ : ∃ s, (semiR a b).isSome = s := ⟨_, rfl⟩
  rw [hs]
  have q1 : (s != s) = false := by simp
  obtain ⟨t, ht⟩ : ∃ t, vrB a = t := ⟨_, rfl⟩
  have q2 : (t != t) = false := by simp
  go_wp2_with fail
  refine wp_region_ext (by kernel_rfl) (by kernel_rfl) ?_
  repeat (go_big_quiet_step (first
    | (go_at_call 43; exact quietEb (specEqualVarRelations_any hJb (VD.toExt V5.out ⟨_, rfl⟩) hJb (VD.toExt V7.out ⟨_, rfl⟩)) (decide_eq_true rfl))
    | (go_at_call 44; exact quietEb (IsValidVarRelation_any hBA (VD.toExt VA.out ⟨_, rfl⟩)) ht)
    | (go_at_call 45; exact quietEb (specIsValidVarRelation_any hBA (VD.toExt VA.out ⟨_, rfl⟩)) ht)))
  refine wpQuiet_nil ?_
  rintro _ ⟨z, rfl⟩
  have hz : ∃ y, ext W7 z = ext W7 y := ⟨_, rfl⟩
  have HBA := Lib.hid (HBA.out.toExt hz)
  have VA := Lib.hid (VD.toExt VA.out hz)
  have HBB := Lib.hid (HBB.out.toExt hz)
  have VB := Lib.hid (VD.toExt VB.out hz)
  have B5 := Lib.hid (B5.out.toExt hz)
  have V5 := Lib.hid (VD.toExt V5.out hz)
  have B7 := Lib.hid (B7.out.toExt hz)
  have V7 := Lib.hid (VD.toExt V7.out hz)
  have HX := Lib.hid (trans_ext HX.out hz)
  clear lA kA0 kA1 kA2 fA lB kB0 kB1 kB2 fB l5 k50 k51 k52 f5 l7 k70 k71 k72 f7
  generalize ext W7 z = W8 at *
  obtain ⟨lA, kA0, kA1, kA2, fA⟩ := box3 HBA.out
  obtain ⟨lB, kB0, kB1, kB2, fB⟩ := box3 HBB.out
  obtain ⟨l5, k50, k51, k52, f5⟩ := box3 B5.out
  obtain ⟨l7, k70, k71, k72, f7⟩ := box3 B7.out
  cases s with
  | false =>
    go_wp2_with fail
    go_ret
    exact ⟨rfl, HX.out⟩
  | true =>
    obtain ⟨x, hx⟩ := Option.isSome_iff_exists.1 hs
    obtain ⟨hJ1, hJ2, hJ3, hJ4, hJ5, hJ6⟩ := HJ.out x hx
    have hxd : (semiR a b).getD zVR = x := by rw [hx]; rfl
    obtain ⟨jd, hjd⟩ : ∃ j, joinVR a b = j := ⟨_, rfl⟩
    rw [hjd] at hJ2 hJ3 hJ6
    have HJ1 : Hid (semiR ((semiR a b).getD zVR) b = some ((semiR a b).getD zVR)) := Lib.hid (by rw [hxd]; exact hJ1)
    have HJ2 := Lib.hid hJ2
    have HJ3 := Lib.hid hJ3
    have hal : a.1.length ≤ 5 := hJ4.len
    have hjl : jd.1.length ≤ 5 := hJ3.len
    have HJ5 : Hid (vrB ((semiR a b).getD zVR) = true) := Lib.hid (by rw [hxd]; exact vrB_iff.2 hJ5)
    have HJ6 : Hid (projR jd.2 (colsL jd.1 a.1) = some ((semiR a b).getD zVR).2) := Lib.hid (by rw [hxd]; exact hJ6)
    have HJb := Lib.hid (vrok_bd hJ3)
    have HJA := Lib.hid hJ3.ar
    clear hJ1 hJ2 hJ3 hJ4 hJ5 hJ6 hx hxd hs q1 ht q2 hjd
    go_wp2_with fail
    refine (SemiJoin_any hJb V5.out hBB VB.out).mono ?_
    rintro e w10 ⟨v0, v1, v2, F10, rfl, hx10, hS10, _, _⟩
    rw [HJ1.out] at hS10 ⊢
    rw [Option.getD_some] at hS10
    rw [Option.isSome_some]
    obtain ⟨A101, a101, A102, a102, rfl, rfl, rfl⟩ := sVR_form hS10
    have V10 := Lib.hid (sVR_v _ _ _ hS10)
    have hy10 := Lib.hid hx10
    clear hS10 hx10
    go_upto_region 11 with fail
    refine wp_name ?_
    intro W10 hW
    have xw : ∃ y, W10 = ext w10 y := by rw [hW.out]; exact (by refine Chg.isExt (F := []) ?_ (refl_ext _) (by simp); repeat (with_reducible (first | exact Chg.refl _ _ | exact Nat.le_refl _ | exact Chg.ofExt (by assumption) | refine Chg.trans0 ?_ (by assumption) | refine Chg.extS ?_ _ | refine Chg.alloc ?_ _ | refine Chg.drew ?_ | refine Chg.setCellE ?_ ?_ _ | refine le_addk ?_ _ | refine le_ext ?_ | refine le_alloc ?_ _ | refine le_setC ?_ _ _ | refine le_drew ?_ | assumption | (refine Nat.le_of_lt ?_; omega) | omega)))
    have b10 : BoxAt W10 w10.heap.size #[.slice A101 ((semiR a b).getD zVR).1.length a101, .int .i64 ((semiR a b).getD zVR).2.1, .slice A102 ((semiR a b).getD zVR).2.2.length a102] := by rw [hW.out]; exact BoxAt.new _ _ _
    have B10 := Lib.hid b10
    have xx := trans_ext hy10.out xw
    have V10 := Lib.hid (VD.toExt V10.out xw)
    have HBA := Lib.hid (HBA.out.toExt xx)
    have VA := Lib.hid (VD.toExt VA.out xx)
    have HBB := Lib.hid (HBB.out.toExt xx)
    have VB := Lib.hid (VD.toExt VB.out xx)
    have B5 := Lib.hid (B5.out.toExt xx)
    have V5 := Lib.hid (VD.toExt V5.out xx)
    have B7 := Lib.hid (B7.out.toExt xx)
    have V7 := Lib.hid (VD.toExt V7.out xx)
    have HX := Lib.hid (trans_ext HX.out xx)
    clear hW xw xx b10 lA kA0 kA1 kA2 fA lB kB0 kB1 kB2 fB l5 k50 k51 k52 f5 l7 k70 k71 k72 f7
    obtain ⟨lA, kA0, kA1, kA2, fA⟩ := box3 HBA.out
    obtain ⟨lB, kB0, kB1, kB2, fB⟩ := box3 HBB.out
    obtain ⟨l5, k50, k51, k52, f5⟩ := box3 B5.out
    obtain ⟨l7, k70, k71, k72, f7⟩ := box3 B7.out
    obtain ⟨l10, k100, k101, k102, f10⟩ := box3 B10.out
    go_wp2_with fail
    refine (specNaturalJoin_any hBA VA.out hBB VB.out).mono ?_
    rintro e w11 ⟨v0, v1, v2, F11, rfl, hx11, hS11, _, _⟩
    rw [HJ2.out] at hS11 ⊢
    rw [Option.getD_some] at hS11
    rw [Option.isSome_some]
    obtain ⟨A111, a111, A112, a112, rfl, rfl, rfl⟩ := sVR_form hS11
    have V11 := Lib.hid (sVR_v _ _ _ hS11)
    have hy11 := Lib.hid hx11
    clear hS11 hx11
    go_upto_region 12 with fail
    refine wp_name ?_
    intro W11 hW
    have xw : ∃ y, W11 = ext w11 y := by rw [hW.out]; exact (by refine Chg.isExt (F := []) ?_ (refl_ext _) (by simp); repeat (with_reducible (first | exact Chg.refl _ _ | exact Nat.le_refl _ | exact Chg.ofExt (by assumption) | refine Chg.trans0 ?_ (by assumption) | refine Chg.extS ?_ _ | refine Chg.alloc ?_ _ | refine Chg.drew ?_ | refine Chg.setCellE ?_ ?_ _ | refine le_addk ?_ _ | refine le_ext ?_ | refine le_alloc ?_ _ | refine le_setC ?_ _ _ | refine le_drew ?_ | assumption | (refine Nat.le_of_lt ?_; omega) | omega)))
    have b11 : BoxAt W11 w11.heap.size #[.slice A111 jd.1.length a111, .int .i64 jd.2.1, .slice A112 jd.2.2.length a112] := by rw [hW.out]; exact BoxAt.new _ _ _
    have B11 := Lib.hid b11
    have xx := trans_ext hy11.out xw
    have V11 := Lib.hid (VD.toExt V11.out xw)
    have HBA := Lib.hid (HBA.out.toExt xx)
    have VA := Lib.hid (VD.toExt VA.out xx)
    have HBB := Lib.hid (HBB.out.toExt xx)
    have VB := Lib.hid (VD.toExt VB.out xx)
    have B5 := Lib.hid (B5.out.toExt xx)
    have V5 := Lib.hid (VD.toExt V5.out xx)
    have B7 := Lib.hid (B7.out.toExt xx)
    have V7 := Lib.hid (VD.toExt V7.out xx)
    have B10 := Lib.hid (B10.out.toExt xx)
    have V10 := Lib.hid (VD.toExt V10.out xx)
    have HX := Lib.hid (trans_ext HX.out xx)
    clear hW xw xx b11 lA kA0 kA1 kA2 fA lB kB0 kB1 kB2 fB l5 k50 k51 k52 f5 l7 k70 k71 k72 f7 l10 k100 k101 k102 f10
    obtain ⟨lA, kA0, kA1, kA2, fA⟩ := box3 HBA.out
    obtain ⟨lB, kB0, kB1, kB2, fB⟩ := box3 HBB.out
    obtain ⟨l5, k50, k51, k52, f5⟩ := box3 B5.out
    obtain ⟨l7, k70, k71, k72, f7⟩ := box3 B7.out
    obtain ⟨l10, k100, k101, k102, f10⟩ := box3 B10.out
    obtain ⟨l11, k110, k111, k112, f11⟩ := box3 B11.out
    have hS0 := SV.empty (α := Int) (te := 3) (size := 1) (E := sI) W11
    have x0 := alloc_ext W11 (.cells #[] 3)
    clear lA kA0 kA1 kA2 fA lB kB0 kB1 kB2 fB l5 k50 k51 k52 f5 l7 k70 k71 k72 f7 l10 k100 k101 k102 f10 l11 k110 k111 k112 f11
    obtain ⟨lA, kA0, kA1, kA2, fA⟩ := box3 (HBA.out.toExt x0)
    obtain ⟨l11, k110, k111, k112, f11⟩ := box3 (B11.out.toExt x0)
    go_wp2_with fail
    clear lA kA0 kA1 kA2 fA l11 k110 k111 k112 f11
    go_loopw [13, 14] (fun v i wr => ∃ (k : Nat) (F : List Nat), i = .int .i64 k ∧ k ≤ a.1.length ∧ SV 3 1 sI wr v (colsL jd.1 (a.1.take k)) F ∧ Hid (∀ b ∈ F, W11.heap.size ≤ b) ∧ ∃ y, wr = ext W11 y) (fun _ i _ => a.1.length - (intOf i).toNat)
    case atStart => exact ⟨0, [W11.heap.size], rfl, by omega, hS0, Lib.hid (by simp), x0⟩
    case round =>
      clear hS0 x0
      obtain ⟨k, F, rfl, hk, hS, HF, hy⟩ := hrel
      obtain ⟨lA, kA0, kA1, kA2, fA⟩ := box3 (HBA.out.toExt hy)
      by_cases hlt : k < a.1.length
      · obtain ⟨bA, oA, eA, hbA, hcA⟩ := (((vVR_get VA.out).1).toExt hy).atI hlt
        have HCA : Hid (∃ bA oA, A1 = some ⟨bA, oA, none⟩ ∧ bA < W11.heap.size ∧ W11.cell? ⟨bA, oA + k, none⟩ = some (.int .i64 a.1[k])) := Lib.hid (((vVR_get VA.out).1).atI hlt)
        have HST := Lib.hid (colsL_step (jv := jd.1) hlt)
        have HCL := Lib.hid (colsL_length (jv := jd.1) (n := 5) hjl (av := a.1.take (k + 1)))
        obtain ⟨z, hz⟩ : ∃ z, a.1[k] = z := ⟨_, rfl⟩
        rw [hz] at hcA HCA HST
        clear hz
        go_wp2_with fail
        clear lA kA0 kA1 kA2 fA hcA hbA eA
        go_loopw [13, 15] (fun v i wr => ∃ (m : Nat) (ds : List Int) (F : List Nat), i = .int .i64 m ∧ m ≤ jd.1.length ∧ SV 3 1 sI wr v ds F ∧ Hid (∀ b ∈ F, W11.heap.size ≤ b) ∧ Hid (ds ++ selI m z (jd.1.drop m) = colsL jd.1 (a.1.take (k + 1))) ∧ ∃ y, wr = ext W11 y) (fun _ i _ => jd.1.length - (intOf i).toNat)
        case atStart => exact ⟨0, colsL jd.1 (a.1.take k), F, rfl, by omega, hS, HF, Lib.hid (by rw [HST.out]; rfl), hy⟩
        case round =>
          clear hS HF hy
          obtain ⟨m, ds, F, rfl, hm, hS, HF, HE, hy⟩ := hrel
          obtain ⟨l11, k110, k111, k112, f11⟩ := box3 (B11.out.toExt hy)
          by_cases hlm : m < jd.1.length
          · obtain ⟨lA, kA0, kA1, kA2, fA⟩ := box3 (HBA.out.toExt hy)
            obtain ⟨bA, oA, eA, hbA, hcA⟩ := HCA.out
            have hcA := cellW hy hbA hcA
            have hbA := ltW hy hbA
            subst eA
            obtain ⟨bJ, oJ, rfl, hbJ, hcJ⟩ := (((vVR_get V11.out).1).toExt hy).atI hlm
            have HSS := Lib.hid (selI_step (k := m) (v := z) hlm)
            obtain ⟨u, hu⟩ : ∃ u, jd.1[m] = u := ⟨_, rfl⟩
            rw [hu] at hcJ HSS
            clear hu
            have hdl : ds.length ≤ 25 := by
              have h1 := HCL.out
              have h2 := congrArg List.length HE.out
              rw [List.length_append] at h2
              rw [List.length_take] at h1
              omega
            by_cases heq : u = z
            · have HE2 : Hid ((ds ++ [(m : Int)]) ++ selI (m + 1) z (jd.1.drop (m + 1)) = colsL jd.1 (a.1.take (k + 1))) := Lib.hid (by rw [← HE.out, HSS.out, if_pos heq, List.append_assoc]; rfl)
              have hq : (u == z) = true := by simp [heq]
              clear heq
              go_wp2_with fail
              refine wp_region_ext (by kernel_rfl) (by kernel_rfl) ?_
              repeat (go_big_quiet_step (fail))
              refine wpQuiet_nil ?_
              rintro _ ⟨z9, rfl⟩
              have hS9 := hS.toExt (w' := ext wr z9) ⟨z9, rfl⟩
              have hy9 : ∃ y, ext wr z9 = ext W11 y := trans_ext hy ⟨z9, rfl⟩
              go_wp2_with (at_builtin; refine wpList_app1 (E := sI) (d := (m : Int)) rfl _ _ _ rfl tI rfl rfl rfl (by simp) (fun _ => ⟨rfl, rfl⟩) rfl (by simp [Value.oneCell']) hS9 (by omega) (by omega) ?_; intro v' w' F' hS' hC' hF')
              exact ⟨⟨m + 1, ds ++ [(m : Int)], F', by go_num, by omega, hS', Lib.hid (newer HF.out (size_of_ext hy9) hF'), HE2, hC'.isExt hy9 HF.out⟩, by simp [intOf]; omega⟩
            · have HE2 : Hid (ds ++ selI (m + 1) z (jd.1.drop (m + 1)) = colsL jd.1 (a.1.take (k + 1))) := Lib.hid (by rw [← HE.out, HSS.out, if_neg heq])
              have hq : (u == z) = false := by simp [heq]
              clear heq
              go_wp2_with fail
              refine wp_region_ext (by kernel_rfl) (by kernel_rfl) ?_
              repeat (go_big_quiet_step (fail))
              refine wpQuiet_nil ?_
              rintro _ ⟨z9, rfl⟩
              have hS9 := hS.toExt (w' := ext wr z9) ⟨z9, rfl⟩
              have hy9 : ∃ y, ext wr z9 = ext W11 y := trans_ext hy ⟨z9, rfl⟩
              go_wp2_with fail
              exact ⟨⟨m + 1, ds, F, by go_num, by omega, hS9, HF, HE2, hy9⟩, by simp [intOf]; omega⟩
          · have HE2 : Hid (ds = colsL jd.1 (a.1.take (k + 1))) := Lib.hid (by
              rw [← HE.out, List.drop_eq_nil_of_le (by omega)]
              simp [selI])
            go_wp2_with fail
            exact ⟨⟨k + 1, F, by go_num, by omega, by rw [← HE2.out]; exact hS, HF, hy⟩, by simp [intOf]; omega⟩
      · have HL := Lib.hid (show k = a.1.length by omega)
        have hte : a.1.take k = a.1 := List.take_of_length_le (by omega)
        have hS' := hS
        rw [hte] at hS'
        clear hte
        have hcl := colsL_length (jv := jd.1) (n := 5) hjl (av := a.1)
        obtain ⟨cL, hcL⟩ : ∃ l, colsL jd.1 a.1 = l := ⟨_, rfl⟩
        rw [hcL] at hS' HJ6 hcl
        clear hS hcL
        obtain ⟨AL, kL, rfl, hkL, _, hvL⟩ := hS'.view sI_v
        have HVL := Lib.hid hvL
        clear hS' hvL
        have HBA := Lib.hid (HBA.out.toExt hy)
        have VA := Lib.hid (VD.toExt VA.out hy)
        have HBB := Lib.hid (HBB.out.toExt hy)
        have VB := Lib.hid (VD.toExt VB.out hy)
        have B5 := Lib.hid (B5.out.toExt hy)
        have V5 := Lib.hid (VD.toExt V5.out hy)
        have B7 := Lib.hid (B7.out.toExt hy)
        have V7 := Lib.hid (VD.toExt V7.out hy)
        have B10 := Lib.hid (B10.out.toExt hy)
        have V10 := Lib.hid (VD.toExt V10.out hy)
        have B11 := Lib.hid (B11.out.toExt hy)
        have V11 := Lib.hid (VD.toExt V11.out hy)
        have HX := Lib.hid (trans_ext HX.out hy)
        clear lA kA0 kA1 kA2 fA
        obtain ⟨lA, kA0, kA1, kA2, fA⟩ := box3 HBA.out
        obtain ⟨lB, kB0, kB1, kB2, fB⟩ := box3 HBB.out
        obtain ⟨l5, k50, k51, k52, f5⟩ := box3 B5.out
        obtain ⟨l7, k70, k71, k72, f7⟩ := box3 B7.out
        obtain ⟨l10, k100, k101, k102, f10⟩ := box3 B10.out
        obtain ⟨l11, k110, k111, k112, f11⟩ := box3 B11.out
        go_wp2_with fail
        refine (specProject_any (a := jd.2.1) (rows := jd.2.2) ⟨by have := HJA.out; omega, by have := HJA.out; omega⟩ (by have := HJ3.out.cnt; omega) (fun x hx => by have := HJ3.out.rl x hx; omega) (vII_get (vRel_get (vVR_get V11.out).2.1).2).2 (by omega) HVL.out).mono ?_
        rintro e w16 ⟨u0, u1, F16, rfl, hx16, hS16, _, _⟩
        rw [HJ6.out] at hS16 ⊢
        rw [Option.getD_some] at hS16
        rw [Option.isSome_some]
        obtain ⟨A16, a16, rfl, rfl, _⟩ := sRel_form hS16
        have V16 := Lib.hid (sRel_v _ _ _ hS16)
        have hy16 := Lib.hid hx16
        clear hS16 hx16
        go_upto_region 22 with fail
        refine wp_name ?_
        intro W16 hW
        have xw : ∃ y, W16 = ext w16 y := by rw [hW.out]; exact (by refine Chg.isExt (F := []) ?_ (refl_ext _) (by simp); repeat (with_reducible (first | exact Chg.refl _ _ | exact Nat.le_refl _ | exact Chg.ofExt (by assumption) | refine Chg.trans0 ?_ (by assumption) | refine Chg.extS ?_ _ | refine Chg.alloc ?_ _ | refine Chg.drew ?_ | refine Chg.setCellE ?_ ?_ _ | refine le_addk ?_ _ | refine le_ext ?_ | refine le_alloc ?_ _ | refine le_setC ?_ _ _ | refine le_drew ?_ | assumption | (refine Nat.le_of_lt ?_; omega) | omega)))
        have b16 : BoxAt W16 w16.heap.size #[.int .i64 ((semiR a b).getD zVR).2.1, .slice A16 ((semiR a b).getD zVR).2.2.length a16] := by rw [hW.out]; exact (by repeat (with_reducible (first | assumption | exact BoxAt.new _ _ _ | apply BoxAt.set2 | refine BoxAt.set2' ?_ (by omega) | apply BoxAt.setP0 | apply BoxAt.setP1 | refine BoxAt.setO ?_ (by omega) | refine BoxAt.alloc ?_ _ | refine BoxAt.drew ?_ | refine BoxAt.toExt ?_ (by assumption))))
        have B16 := Lib.hid b16
        have xx := trans_ext hy16.out xw
        have V16 := Lib.hid (VD.toExt V16.out xw)
        have HBA := Lib.hid (HBA.out.toExt xx)
        have VA := Lib.hid (VD.toExt VA.out xx)
        have HBB := Lib.hid (HBB.out.toExt xx)
        have VB := Lib.hid (VD.toExt VB.out xx)
        have B5 := Lib.hid (B5.out.toExt xx)
        have V5 := Lib.hid (VD.toExt V5.out xx)
        have B7 := Lib.hid (B7.out.toExt xx)
        have V7 := Lib.hid (VD.toExt V7.out xx)
        have B10 := Lib.hid (B10.out.toExt xx)
        have V10 := Lib.hid (VD.toExt V10.out xx)
        have B11 := Lib.hid (B11.out.toExt xx)
        have V11 := Lib.hid (VD.toExt V11.out xx)
        have HX := Lib.hid (trans_ext HX.out xx)
        clear hW xw xx b16 lA kA0 kA1 kA2 fA lB kB0 kB1 kB2 fB l5 k50 k51 k52 f5 l7 k70 k71 k72 f7 l10 k100 k101 k102 f10 l11 k110 k111 k112 f11
        obtain ⟨lA, kA0, kA1, kA2, fA⟩ := box3 HBA.out
        obtain ⟨lB, kB0, kB1, kB2, fB⟩ := box3 HBB.out
        obtain ⟨l5, k50, k51, k52, f5⟩ := box3 B5.out
        obtain ⟨l7, k70, k71, k72, f7⟩ := box3 B7.out
        obtain ⟨l10, k100, k101, k102, f10⟩ := box3 B10.out
        obtain ⟨l11, k110, k111, k112, f11⟩ := box3 B11.out
        obtain ⟨l16, k160, k161, f16⟩ := bx2 B16.out
        go_wp2_with fail
        refine (specEqualVarRelations_any hJb V10.out hJb V5.out).mono ?_
        rintro e w21 ⟨rfl, hx21⟩
        rw [decide_eq_true rfl]
        have HBA := Lib.hid (HBA.out.toExt hx21)
        have VA := Lib.hid (VD.toExt VA.out hx21)
        have HBB := Lib.hid (HBB.out.toExt hx21)
        have VB := Lib.hid (VD.toExt VB.out hx21)
        have B5 := Lib.hid (B5.out.toExt hx21)
        have V5 := Lib.hid (VD.toExt V5.out hx21)
        have B7 := Lib.hid (B7.out.toExt hx21)
        have V7 := Lib.hid (VD.toExt V7.out hx21)
        have B10 := Lib.hid (B10.out.toExt hx21)
        have V10 := Lib.hid (VD.toExt V10.out hx21)
        have B11 := Lib.hid (B11.out.toExt hx21)
        have V11 := Lib.hid (VD.toExt V11.out hx21)
        have HX := Lib.hid (trans_ext HX.out hx21)
        have xx21 := hx21
        clear hx21 lA kA0 kA1 kA2 fA lB kB0 kB1 kB2 fB l5 k50 k51 k52 f5 l7 k70 k71 k72 f7 l10 k100 k101 k102 f10 l11 k110 k111 k112 f11
        obtain ⟨lA, kA0, kA1, kA2, fA⟩ := box3 HBA.out
        obtain ⟨lB, kB0, kB1, kB2, fB⟩ := box3 HBB.out
        obtain ⟨l5, k50, k51, k52, f5⟩ := box3 B5.out
        obtain ⟨l7, k70, k71, k72, f7⟩ := box3 B7.out
        obtain ⟨l10, k100, k101, k102, f10⟩ := box3 B10.out
        obtain ⟨l11, k110, k111, k112, f11⟩ := box3 B11.out
        have B16 := Lib.hid (B16.out.toExt xx21)
        have V16 := Lib.hid (VD.toExt V16.out xx21)
        clear l16 k160 k161 f16
        obtain ⟨l16, k160, k161, f16⟩ := bx2 B16.out
        go_wp2_with fail
        refine (specEqualRelations_any hJb.2 V16.out hJb.2 (vVR_get V5.out).2.1).mono ?_
        rintro e w22 ⟨rfl, hx22⟩
        rw [decide_eq_true rfl]
        have HBA := Lib.hid (HBA.out.toExt hx22)
        have VA := Lib.hid (VD.toExt VA.out hx22)
        have HBB := Lib.hid (HBB.out.toExt hx22)
        have VB := Lib.hid (VD.toExt VB.out hx22)
        have B5 := Lib.hid (B5.out.toExt hx22)
        have V5 := Lib.hid (VD.toExt V5.out hx22)
        have B7 := Lib.hid (B7.out.toExt hx22)
        have V7 := Lib.hid (VD.toExt V7.out hx22)
        have B10 := Lib.hid (B10.out.toExt hx22)
        have V10 := Lib.hid (VD.toExt V10.out hx22)
        have B11 := Lib.hid (B11.out.toExt hx22)
        have V11 := Lib.hid (VD.toExt V11.out hx22)
        have HX := Lib.hid (trans_ext HX.out hx22)
        clear hx22 l16 k160 k161 f16 lA kA0 kA1 kA2 fA lB kB0 kB1 kB2 fB l5 k50 k51 k52 f5 l7 k70 k71 k72 f7 l10 k100 k101 k102 f10 l11 k110 k111 k112 f11
        obtain ⟨lA, kA0, kA1, kA2, fA⟩ := box3 HBA.out
        obtain ⟨lB, kB0, kB1, kB2, fB⟩ := box3 HBB.out
        obtain ⟨l5, k50, k51, k52, f5⟩ := box3 B5.out
        obtain ⟨l7, k70, k71, k72, f7⟩ := box3 B7.out
        obtain ⟨l10, k100, k101, k102, f10⟩ := box3 B10.out
        obtain ⟨l11, k110, k111, k112, f11⟩ := box3 B11.out
        go_wp2_with fail
        refine (IsValidVarRelation_any hJb V5.out).mono ?_
        rintro e w23 ⟨rfl, hx23⟩
        rw [HJ5.out]
        have HBA := Lib.hid (HBA.out.toExt hx23)
        have VA := Lib.hid (VD.toExt VA.out hx23)
        have HBB := Lib.hid (HBB.out.toExt hx23)
        have VB := Lib.hid (VD.toExt VB.out hx23)
        have B5 := Lib.hid (B5.out.toExt hx23)
        have V5 := Lib.hid (VD.toExt V5.out hx23)
        have B7 := Lib.hid (B7.out.toExt hx23)
        have V7 := Lib.hid (VD.toExt V7.out hx23)
        have B10 := Lib.hid (B10.out.toExt hx23)
        have V10 := Lib.hid (VD.toExt V10.out hx23)
        have B11 := Lib.hid (B11.out.toExt hx23)
        have V11 := Lib.hid (VD.toExt V11.out hx23)
        have HX := Lib.hid (trans_ext HX.out hx23)
        have xx23 := hx23
        clear hx23 lA kA0 kA1 kA2 fA lB kB0 kB1 kB2 fB l5 k50 k51 k52 f5 l7 k70 k71 k72 f7 l10 k100 k101 k102 f10 l11 k110 k111 k112 f11
        obtain ⟨lA, kA0, kA1, kA2, fA⟩ := box3 HBA.out
        obtain ⟨lB, kB0, kB1, kB2, fB⟩ := box3 HBB.out
        obtain ⟨l5, k50, k51, k52, f5⟩ := box3 B5.out
        obtain ⟨l7, k70, k71, k72, f7⟩ := box3 B7.out
        obtain ⟨l10, k100, k101, k102, f10⟩ := box3 B10.out
        obtain ⟨l11, k110, k111, k112, f11⟩ := box3 B11.out
        go_wp2_with fail
        go_ret
        exact ⟨rfl, HX.out⟩

theorem law_SemJ (A : Option Addr) (c : Nat) (bs : List UInt8) (w : World) (hl : bs.length ≤ 9223372036854775807) (h1 : RU w A bs) : Calls Try.prog 8 #[.slice A bs.length c] w fun e w' => e = .returned (.bool true) ∧ ∃ y, w' = ext w y := by
  by_cases hb : 1048576 < bs.length
  · exact law_SemJ_big A c bs w hb hl
  · exact law_SemJ_m A c bs w (by omega) h1

set_option maxRecDepth 100000 in
theorem lifted_FnSemiJoin (os : Os) (started : os.Started) (H : Type) (enc : TypeId × Value → H) :
    ReturnsInHanded {} Try.checked os 8 .any (Rows.fnSemiJoinSpec.pre6 enc Try.prog Try.f8 Rows.fnSemiJoinRow.domain false) (Rows.fnSemiJoinSpec.post enc Try.prog Try.f8 false true false false) := by
  refine returnsInHanded_of_change (C := Try.checked) Try.own started (by kernel_rfl) Try.func8 (ChangeSpec.witness6 (enc := enc) (C := Try.checked) false ⟨#[], #[.slice none 0 0], []⟩ 8 (by kernel_rfl) (by kernel_rfl) (by kernel_rfl) (by kernel_rfl)) ?_
  intro W base args ds gs before hval0 hW hcnd _
  have hval : ∀ (j : Nat) t v, Try.f8.params[j]? = some t → args[j]? = some v → Value.okWide Try.prog W .any base t v := hval0
  clear hval0 hcnd
  obtain ⟨_, _, hA0, hV0, _, _, _⟩ := id hW
  have hA : DataW.TrodAll enc Try.prog W 0 (fun _ => true) true Try.f8.params.toList args.toList ds _ := hA0
  clear hA0
  rw [Try.params8] at hA hval
  obtain ⟨v0, d0, rfl, rfl, h0⟩ := trodAll_one hA
  obtain ⟨x0, ⟨A0, c0, hc0, r0⟩, l0, _⟩ := openArg oBytes h0
  obtain rfl := one1 hc0 (okWide_slice Try.underlying62 (hval 0 _ v0 rfl rfl))
  refine (law_SemJ A0 _ x0 W (le_maxLen l0) r0).mono fun e W' ⟨he, hw⟩ => ?_
  exact ⟨_, he, law_post Try.laidOut hW rfl rfl rfl Try.underlying4 (by kernel_rfl) hw⟩

theorem fnSemiJoin_and {a b : Bool} (ha : a = true) (hb : b = true) : (a && b) = true := by rw [ha, hb]; rfl
set_option maxHeartbeats 16000000 in
theorem fnSemiJoin_closed : joinedFacts Try.checked.prog 8 Try.f8 Rows.fnSemiJoinSpec Rows.fnSemiJoinRow = true := by
  unfold joinedFacts
  repeat' (with_reducible refine fnSemiJoin_and ?_ ?_)
  all_goals (as_aux_lemma => kernel_rfl)
theorem fnSemiJoin_holds : Rows.FnSemiJoinSaid :=
  OpenClaim.holds_of_wide 8 Try.f8 rfl rfl rfl rfl rfl rfl rfl ⟨rfl, rfl, rfl, rfl, rfl⟩ rfl rfl rfl rfl rfl (by kernel_rfl) Try.func8 fnSemiJoin_closed
    (of_decide_eq_true (by kernel_rfl)) (by unfold Func.isWrapper; rw [if_neg (of_decide_eq_false (by kernel_rfl))]; exact ⟨rfl, rfl⟩)
    (fun os started H enc _ => lifted_FnSemiJoin os started H enc)

end Go.Proofs.Ytfigcfajkilhiaa
