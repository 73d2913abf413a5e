/- Relations, databases and texts drawn from any bytes: a text is read exactly if it is a format, and what is read has that format. -/
import Derived.Test.YtfigcfajkilhiaaXFnScal1
import Derived.Test.YtfigcfajkilhiaaE10
import Derived.Test.YtfigcfajkilhiaaE11
import Derived.Test.YtfigcfajkilhiaaE05
import Derived.Test.YtfigcfajkilhiaaE02
namespace Go.Proofs.Ytfigcfajkilhiaa
open Go.ChangeShapes Go.WideShapes Go.ChangeAt Go.RowKit

theorem pRel_empty : pRel ⟨#[]⟩ = none := by
  cases h : pRel ⟨#[]⟩ with
  | none => rfl
  | some d =>
    obtain ⟨h1, h2⟩ := pRel_some h
    unfold fmtR at h2
    rw [if_pos h1] at h2
    have h3 := relTx_size d
    rw [h2] at h3
    exact absurd h3 (by decide)
theorem pRel_fmt (r : Rd) : (pRel (fmtR r)).isSome = rowsB r.1 r.2 ∧ (rowsB r.1 r.2 = true → (pRel (fmtR r)).getD (0, []) = r) := by
  by_cases h : rowsB r.1 r.2 = true
  · rw [pRel_text h, h]; exact ⟨rfl, fun _ => rfl⟩
  · have e : fmtR r = ⟨#[]⟩ := by unfold fmtR; rw [if_neg h]
    rw [e, pRel_empty, Bool.eq_false_iff.2 h]
    exact ⟨rfl, fun h => by cases h⟩
theorem pRel_get {s : ByteArray} {o : Option Rd} (h : pRel s = o) : (o.getD (0, [])).2.length ≤ 1000000000 ∧ (∀ x ∈ (o.getD (0, [])).2, x.length ≤ 1000000000) ∧ (o.isSome = true → fmtR (o.getD (0, [])) = s) := by
  cases o with
  | none => exact ⟨by simp, by simp, fun h => by cases h⟩
  | some d =>
    obtain ⟨h1, h2⟩ := pRel_some h
    have h3 := rowsB_iff.1 h1
    refine ⟨by show d.2.length ≤ _; omega, fun x hx => ?_, fun _ => h2⟩
    have := (h3.2.2.2.1 x hx).1
    omega
theorem pDb_fmt {d : Dbd} (h : dbB d = true) : (pDb (fmtD d)).isSome = true ∧ (pDb (fmtD d)).getD [] = d := by rw [pDb_text h]; exact ⟨rfl, rfl⟩
theorem pDb_get {s : ByteArray} {o : Option Dbd} (h : pDb s = o) : WDb (o.getD []) ∧ (∀ x ∈ o.getD [], BRel x.2) ∧ (o.isSome = true → fmtD (o.getD []) = s) := by
  have hb := pDb_bd s
  rw [h] at hb
  refine ⟨hb.w, fun x hx => (hb.each x hx).2, fun hs => ?_⟩
  cases o with
  | none => cases hs
  | some d => exact (pDb_some h).2

set_option maxHeartbeats 2000000 in
theorem law_RF_big (A : Option Addr) (c : Nat) (bs : List UInt8) (w : World) (hb : 1048576 < bs.length) (hl : bs.length ≤ 9223372036854775807) : Calls Try.prog 10 #[.slice A bs.length c] w fun e w' => e = .returned (.bool true) ∧ ∃ y, w' = ext w y := by
  go_enter Try.func10, Try.ntmps10
  go_wp2_with fail
  refine (lawBig_any hl).mono ?_
  rintro e w1 ⟨rfl, hx1⟩
  rw [decide_eq_true hb]
  go_wp2_with fail
  go_ret
  exact ⟨rfl, hx1⟩

set_option maxRecDepth 100000 in
set_option maxHeartbeats 16000000 in
theorem law_RF_m (A : Option Addr) (c : Nat) (bs : List UInt8) (w : World) (hb : bs.length ≤ 1048576) (h1 : RU w A bs) : Calls Try.prog 10 #[.slice A bs.length c] w fun e w' => e = .returned (.bool true) ∧ ∃ y, w' = ext w y := by
  have HU := Lib.hid h1
  clear h1
  go_enter Try.func10, Try.ntmps10
  go_wp2_with fail
  refine (lawBig_any (by omega)).mono ?_
  rintro e w1 ⟨rfl, hx1⟩
  rw [decide_eq_false (show ¬ 1048576 < bs.length by omega)]
  have HX := Lib.hid hx1
  clear hx1
  go_wp2_with fail
  refine (DrawFormatRelation_any hb (HU.out.toExt HX.out)).mono ?_
  rintro e w2 ⟨A3, a3, r, rfl, hv, hA, hx2⟩
  have VR3 := Lib.hid hv
  have hrb := (anyR_few hA).1
  have Hx2 := Lib.hid hx2
  have hr9 : r.2.length ≤ 1000000000 := by have := hA.n; omega
  have HR9 := Lib.hid (fun (x : List Int) (hx : x ∈ r.2) => show x.length ≤ 1000000000 by have := hA.l x hx; omega)
  obtain ⟨hp1, hp2⟩ := pRel_fmt r
  have hts := fmtR_sz r
  obtain ⟨t1, ht1⟩ : ∃ t, fmtR r = t := ⟨_, rfl⟩
  rw [ht1] at hp1 hp2 hts
  have HT1 := Lib.hid (show fmtR (r.1, r.2) = t1 from ht1)
  obtain ⟨o1, ho1⟩ : ∃ o, pRel t1 = o := ⟨_, rfl⟩
  have HO1 := Lib.hid ho1
  rw [ho1] at hp1 hp2
  obtain ⟨v, hvv⟩ : ∃ v, rowsB r.1 r.2 = v := ⟨_, rfl⟩
  have HV := Lib.hid hvv
  rw [hvv] at hp1 hp2
  have HP1 := Lib.hid hp1
  have HP2 := Lib.hid hp2
  clear hv hA hx2 ht1 ho1 hvv hp1 hp2
  go_upto_region 4 with fail
  refine wp_name ?_
  intro W2 hW
  have xw : ∃ y, W2 = ext w2 y := by rw [hW.out]; exact (by refine x'z ?_; repeat (with_reducible (first | apply x'a | apply x'b | exact x'c (by assumption) | refine x'd ?_ (by assumption) | apply x'e | apply x'f | apply x'g | apply x'h | apply x'i | apply x'j | apply x'k | apply x'l | apply x'm | assumption | (refine x'n ?_; omega) | omega)))
  have B3 : Hid (BoxAt W2 w2.heap.size #[.int .i64 r.1, .slice A3 r.2.length a3]) := Lib.hid (by rw [hW.out]; exact BoxAt.new _ _ _)
  have VR3 := Lib.hid (VD.toExt VR3.out xw)
  have xx := trans_ext Hx2.out xw
  have HX := Lib.hid (trans_ext HX.out xx)
  clear hW xw xx
  obtain ⟨l3, k30, k31, f3⟩ := bx2 B3.out
  go_wp2_with fail
  refine (FormatRelation_w hr9 HR9.out (vII_get (vRel_get VR3.out).2).2).mono ?_
  rintro e w3 ⟨rfl, hx3⟩
  rw [HT1.out]
  have B3 := Lib.hid (B3.out.toExt hx3)
  have VR3 := Lib.hid (VD.toExt VR3.out hx3)
  have HX := Lib.hid (trans_ext HX.out hx3)
  clear hx3 l3 k30 k31 f3
  obtain ⟨l3, k30, k31, f3⟩ := bx2 B3.out
  go_wp2_with fail
  refine (ParseRelation_any (s := t1) (by omega)).mono ?_
  rw [HO1.out]
  rintro e w4 ⟨u0, u1, F4, rfl, hx4, hS4, _, _⟩
  rw [HP1.out]
  obtain ⟨xr, hxr⟩ : ∃ x, o1.getD (0, []) = x := ⟨_, rfl⟩
  rw [hxr] at hS4
  have HXR := Lib.hid hxr
  obtain ⟨A4, a4, rfl, rfl, _⟩ := sRel_form hS4
  have VR4 := Lib.hid (sRel_v _ _ _ hS4)
  have Hx4 := Lib.hid hx4
  clear hx4 hS4 hxr
  go_upto_region 5 with fail
  refine wp_name ?_
  intro W4 hW
  have xw : ∃ y, W4 = ext w4 y := by rw [hW.out]; exact (by refine x'z ?_; repeat (with_reducible (first | apply x'a | apply x'b | exact x'c (by assumption) | refine x'd ?_ (by assumption) | apply x'e | apply x'f | apply x'g | apply x'h | apply x'i | apply x'j | apply x'k | apply x'l | apply x'm | assumption | (refine x'n ?_; omega) | omega)))
  have B4 : Hid (BoxAt W4 w4.heap.size #[.int .i64 xr.1, .slice A4 xr.2.length a4]) := Lib.hid (by rw [hW.out]; exact BoxAt.new _ _ _)
  have VR4 := Lib.hid (VD.toExt VR4.out xw)
  have xx := trans_ext Hx4.out xw
  have B3 := Lib.hid (B3.out.toExt xx)
  have VR3 := Lib.hid (VD.toExt VR3.out xx)
  have HX := Lib.hid (trans_ext HX.out xx)
  clear hW xw xx l3 k30 k31 f3
  obtain ⟨l3, k30, k31, f3⟩ := bx2 B3.out
  obtain ⟨l4, k40, k41, f4⟩ := bx2 B4.out
  go_wp2_with fail
  refine (DrawParseRelation_any hb (HU.out.toExt HX.out)).mono ?_
  rintro e w5 ⟨s, rfl, hs, hx5⟩
  have B3 := Lib.hid (B3.out.toExt hx5)
  have B4 := Lib.hid (B4.out.toExt hx5)
  have VR3 := Lib.hid (VD.toExt VR3.out hx5)
  have VR4 := Lib.hid (VD.toExt VR4.out hx5)
  have HX := Lib.hid (trans_ext HX.out hx5)
  clear hx5 l3 k30 k31 f3 l4 k40 k41 f4
  obtain ⟨l3, k30, k31, f3⟩ := bx2 B3.out
  obtain ⟨l4, k40, k41, f4⟩ := bx2 B4.out
  obtain ⟨o2, ho2⟩ : ∃ o, pRel s = o := ⟨_, rfl⟩
  have HO2 := Lib.hid ho2
  obtain ⟨hy1, hy2, hy3⟩ := pRel_get ho2
  obtain ⟨yr, hyr⟩ : ∃ x, o2.getD (0, []) = x := ⟨_, rfl⟩
  obtain ⟨f, hf⟩ : ∃ f, o2.isSome = f := ⟨_, rfl⟩
  rw [hyr] at hy1 hy2 hy3
  rw [hf] at hy3
  have HYR := Lib.hid hyr
  have HF := Lib.hid hf
  have HY2 := Lib.hid hy2
  have HY3 := Lib.hid hy3
  clear ho2 hyr hf hy2 hy3
  go_wp2_with fail
  refine (ParseRelation_any (s := s) (by omega)).mono ?_
  rw [HO2.out]
  rintro e w6 ⟨u0, u1, F6, rfl, hx6, hS6, _, _⟩
  rw [HF.out]
  rw [HYR.out] at hS6
  obtain ⟨A7, a7, rfl, rfl, _⟩ := sRel_form hS6
  have VR7 := Lib.hid (sRel_v _ _ _ hS6)
  have Hx6 := Lib.hid hx6
  clear hx6 hS6
  go_upto_region 7 with fail
  refine wp_name ?_
  intro W6 hW
  have xw : ∃ y, W6 = ext w6 y := by rw [hW.out]; exact (by refine x'z ?_; repeat (with_reducible (first | apply x'a | apply x'b | exact x'c (by assumption) | refine x'd ?_ (by assumption) | apply x'e | apply x'f | apply x'g | apply x'h | apply x'i | apply x'j | apply x'k | apply x'l | apply x'm | assumption | (refine x'n ?_; omega) | omega)))
  have B7 : Hid (BoxAt W6 w6.heap.size #[.int .i64 yr.1, .slice A7 yr.2.length a7]) := Lib.hid (by rw [hW.out]; exact BoxAt.new _ _ _)
  have VR7 := Lib.hid (VD.toExt VR7.out xw)
  have xx := trans_ext Hx6.out xw
  have B3 := Lib.hid (B3.out.toExt xx)
  have B4 := Lib.hid (B4.out.toExt xx)
  have VR3 := Lib.hid (VD.toExt VR3.out xx)
  have VR4 := Lib.hid (VD.toExt VR4.out xx)
  have HX := Lib.hid (trans_ext HX.out xx)
  clear hW xw xx l3 k30 k31 f3 l4 k40 k41 f4
  obtain ⟨l3, k30, k31, f3⟩ := bx2 B3.out
  obtain ⟨l4, k40, k41, f4⟩ := bx2 B4.out
  obtain ⟨l7, k70, k71, f7⟩ := bx2 B7.out
  go_wp2_with fail
  refine (specParseRelation_any (s := s) (by omega)).mono ?_
  rw [HO2.out]
  rintro e w8 ⟨u0, u1, F8, rfl, hx8, hS8, _, _⟩
  rw [HF.out]
  rw [HYR.out] at hS8
  obtain ⟨A9, a9, rfl, rfl, _⟩ := sRel_form hS8
  have Hx8 := Lib.hid hx8
  clear hx8 hS8
  go_upto_region 8 with fail
  refine wp_name ?_
  intro W8 hW
  have xw : ∃ y, W8 = ext w8 y := by rw [hW.out]; exact (by refine x'z ?_; repeat (with_reducible (first | apply x'a | apply x'b | exact x'c (by assumption) | refine x'd ?_ (by assumption) | apply x'e | apply x'f | apply x'g | apply x'h | apply x'i | apply x'j | apply x'k | apply x'l | apply x'm | assumption | (refine x'n ?_; omega) | omega)))
  have B9 : Hid (BoxAt W8 w8.heap.size #[.int .i64 yr.1, .slice A9 yr.2.length a9]) := Lib.hid (by rw [hW.out]; exact BoxAt.new _ _ _)
  have xx := trans_ext Hx8.out xw
  have B3 := Lib.hid (B3.out.toExt xx)
  have B4 := Lib.hid (B4.out.toExt xx)
  have B7 := Lib.hid (B7.out.toExt xx)
  have VR3 := Lib.hid (VD.toExt VR3.out xx)
  have VR4 := Lib.hid (VD.toExt VR4.out xx)
  have VR7 := Lib.hid (VD.toExt VR7.out xx)
  have HX := Lib.hid (trans_ext HX.out xx)
  clear hW xw xx l3 k30 k31 f3 l4 k40 k41 f4 l7 k70 k71 f7
  obtain ⟨l3, k30, k31, f3⟩ := bx2 B3.out
  obtain ⟨l4, k40, k41, f4⟩ := bx2 B4.out
  obtain ⟨l7, k70, k71, f7⟩ := bx2 B7.out
  obtain ⟨l9, k90, k91, f9⟩ := bx2 B9.out
  have q1 : (v != v) = false := by simp
  have q2 : (f != f) = false := by simp
  go_cut [67] (fun v9 wx => v9 = .bool false ∧ ∃ y, wx = ext W8 y)
  case first =>
    cases v with
    | false =>
      cases f with
      | false =>
        go_wp2_with (first
          | (go_at_call 57; refine (specIsValidRelation_any hrb VR3.out).mono ?_; rintro e wq1 ⟨rfl, hq1⟩; rw [HV.out]; obtain ⟨m3, m30, m31, g3⟩ := bx2 (B3.out.toExt hq1); obtain ⟨m4, m40, m41, g4⟩ := bx2 (B4.out.toExt hq1); obtain ⟨m7, m70, m71, g7⟩ := bx2 (B7.out.toExt hq1))
          | (go_at_call 48; refine (specEqualRelations_any hrb (VD.toExt VR4.out (by refine x'z ?_; repeat (with_reducible (first | apply x'a | apply x'b | exact x'c (by assumption) | refine x'd ?_ (by assumption) | apply x'e | apply x'f | apply x'g | apply x'h | apply x'i | apply x'j | apply x'k | apply x'l | apply x'm | assumption | (refine x'n ?_; omega) | omega)))) hrb (VD.toExt VR3.out (by refine x'z ?_; repeat (with_reducible (first | apply x'a | apply x'b | exact x'c (by assumption) | refine x'd ?_ (by assumption) | apply x'e | apply x'f | apply x'g | apply x'h | apply x'i | apply x'j | apply x'k | apply x'l | apply x'm | assumption | (refine x'n ?_; omega) | omega))))).mono ?_; rintro e wq2 ⟨rfl, hq2⟩; rw [decide_eq_true rfl]; obtain ⟨n7, n70, n71, p7⟩ := bx2 (B7.out.toExt (trans_ext hq1 hq2)))
          | (go_at_call 54; refine (FormatRelation_w hy1 HY2.out ((vII_get (vRel_get VR7.out).2).2.toExt (by refine x'z ?_; repeat (with_reducible (first | apply x'a | apply x'b | exact x'c (by assumption) | refine x'd ?_ (by assumption) | apply x'e | apply x'f | apply x'g | apply x'h | apply x'i | apply x'j | apply x'k | apply x'l | apply x'm | assumption | (refine x'n ?_; omega) | omega))))).mono ?_; rintro e wq3 ⟨rfl, hq3⟩; rw [HFY.out]))
        go_meet
        exact ⟨rfl, (by refine x'z ?_; repeat (with_reducible (first | apply x'a | apply x'b | exact x'c (by assumption) | refine x'd ?_ (by assumption) | apply x'e | apply x'f | apply x'g | apply x'h | apply x'i | apply x'j | apply x'k | apply x'l | apply x'm | assumption | (refine x'n ?_; omega) | omega)))⟩
      | true =>
        have HFY := Lib.hid (show fmtR (yr.1, yr.2) = s from HY3.out rfl)
        have q3 : (s.toList != s.toList) = false := by simp
        have q4 : (s.toList == s.toList) = true := by simp
        go_wp2_with (first
          | (go_at_call 57; refine (specIsValidRelation_any hrb VR3.out).mono ?_; rintro e wq1 ⟨rfl, hq1⟩; rw [HV.out]; obtain ⟨m3, m30, m31, g3⟩ := bx2 (B3.out.toExt hq1); obtain ⟨m4, m40, m41, g4⟩ := bx2 (B4.out.toExt hq1); obtain ⟨m7, m70, m71, g7⟩ := bx2 (B7.out.toExt hq1))
          | (go_at_call 48; refine (specEqualRelations_any hrb (VD.toExt VR4.out (by refine x'z ?_; repeat (with_reducible (first | apply x'a | apply x'b | exact x'c (by assumption) | refine x'd ?_ (by assumption) | apply x'e | apply x'f | apply x'g | apply x'h | apply x'i | apply x'j | apply x'k | apply x'l | apply x'm | assumption | (refine x'n ?_; omega) | omega)))) hrb (VD.toExt VR3.out (by refine x'z ?_; repeat (with_reducible (first | apply x'a | apply x'b | exact x'c (by assumption) | refine x'd ?_ (by assumption) | apply x'e | apply x'f | apply x'g | apply x'h | apply x'i | apply x'j | apply x'k | apply x'l | apply x'm | assumption | (refine x'n ?_; omega) | omega))))).mono ?_; rintro e wq2 ⟨rfl, hq2⟩; rw [decide_eq_true rfl]; obtain ⟨n7, n70, n71, p7⟩ := bx2 (B7.out.toExt (trans_ext hq1 hq2)))
          | (go_at_call 54; refine (FormatRelation_w hy1 HY2.out ((vII_get (vRel_get VR7.out).2).2.toExt (by refine x'z ?_; repeat (with_reducible (first | apply x'a | apply x'b | exact x'c (by assumption) | refine x'd ?_ (by assumption) | apply x'e | apply x'f | apply x'g | apply x'h | apply x'i | apply x'j | apply x'k | apply x'l | apply x'm | assumption | (refine x'n ?_; omega) | omega))))).mono ?_; rintro e wq3 ⟨rfl, hq3⟩; rw [HFY.out]))
        go_meet
        exact ⟨rfl, (by refine x'z ?_; repeat (with_reducible (first | apply x'a | apply x'b | exact x'c (by assumption) | refine x'd ?_ (by assumption) | apply x'e | apply x'f | apply x'g | apply x'h | apply x'i | apply x'j | apply x'k | apply x'l | apply x'm | assumption | (refine x'n ?_; omega) | omega)))⟩
    | true =>
      have hxr : xr = r := by rw [← HXR.out]; exact HP2.out rfl
      subst hxr
      cases f with
      | false =>
        go_wp2_with (first
          | (go_at_call 57; refine (specIsValidRelation_any hrb VR3.out).mono ?_; rintro e wq1 ⟨rfl, hq1⟩; rw [HV.out]; obtain ⟨m3, m30, m31, g3⟩ := bx2 (B3.out.toExt hq1); obtain ⟨m4, m40, m41, g4⟩ := bx2 (B4.out.toExt hq1); obtain ⟨m7, m70, m71, g7⟩ := bx2 (B7.out.toExt hq1))
          | (go_at_call 48; refine (specEqualRelations_any hrb (VD.toExt VR4.out (by refine x'z ?_; repeat (with_reducible (first | apply x'a | apply x'b | exact x'c (by assumption) | refine x'd ?_ (by assumption) | apply x'e | apply x'f | apply x'g | apply x'h | apply x'i | apply x'j | apply x'k | apply x'l | apply x'm | assumption | (refine x'n ?_; omega) | omega)))) hrb (VD.toExt VR3.out (by refine x'z ?_; repeat (with_reducible (first | apply x'a | apply x'b | exact x'c (by assumption) | refine x'd ?_ (by assumption) | apply x'e | apply x'f | apply x'g | apply x'h | apply x'i | apply x'j | apply x'k | apply x'l | apply x'm | assumption | (refine x'n ?_; omega) | omega))))).mono ?_; rintro e wq2 ⟨rfl, hq2⟩; rw [decide_eq_true rfl]; obtain ⟨n7, n70, n71, p7⟩ := bx2 (B7.out.toExt (trans_ext hq1 hq2)))
          | (go_at_call 54; refine (FormatRelation_w hy1 HY2.out ((vII_get (vRel_get VR7.out).2).2.toExt (by refine x'z ?_; repeat (with_reducible (first | apply x'a | apply x'b | exact x'c (by assumption) | refine x'd ?_ (by assumption) | apply x'e | apply x'f | apply x'g | apply x'h | apply x'i | apply x'j | apply x'k | apply x'l | apply x'm | assumption | (refine x'n ?_; omega) | omega))))).mono ?_; rintro e wq3 ⟨rfl, hq3⟩; rw [HFY.out]))
        go_meet
        exact ⟨rfl, (by refine x'z ?_; repeat (with_reducible (first | apply x'a | apply x'b | exact x'c (by assumption) | refine x'd ?_ (by assumption) | apply x'e | apply x'f | apply x'g | apply x'h | apply x'i | apply x'j | apply x'k | apply x'l | apply x'm | assumption | (refine x'n ?_; omega) | omega)))⟩
      | true =>
        have HFY := Lib.hid (show fmtR (yr.1, yr.2) = s from HY3.out rfl)
        have q3 : (s.toList != s.toList) = false := by simp
        have q4 : (s.toList == s.toList) = true := by simp
        go_wp2_with (first
          | (go_at_call 57; refine (specIsValidRelation_any hrb VR3.out).mono ?_; rintro e wq1 ⟨rfl, hq1⟩; rw [HV.out]; obtain ⟨m3, m30, m31, g3⟩ := bx2 (B3.out.toExt hq1); obtain ⟨m4, m40, m41, g4⟩ := bx2 (B4.out.toExt hq1); obtain ⟨m7, m70, m71, g7⟩ := bx2 (B7.out.toExt hq1))
          | (go_at_call 48; refine (specEqualRelations_any hrb (VD.toExt VR4.out (by refine x'z ?_; repeat (with_reducible (first | apply x'a | apply x'b | exact x'c (by assumption) | refine x'd ?_ (by assumption) | apply x'e | apply x'f | apply x'g | apply x'h | apply x'i | apply x'j | apply x'k | apply x'l | apply x'm | assumption | (refine x'n ?_; omega) | omega)))) hrb (VD.toExt VR3.out (by refine x'z ?_; repeat (with_reducible (first | apply x'a | apply x'b | exact x'c (by assumption) | refine x'd ?_ (by assumption) | apply x'e | apply x'f | apply x'g | apply x'h | apply x'i | apply x'j | apply x'k | apply x'l | apply x'm | assumption | (refine x'n ?_; omega) | omega))))).mono ?_; rintro e wq2 ⟨rfl, hq2⟩; rw [decide_eq_true rfl]; obtain ⟨n7, n70, n71, p7⟩ := bx2 (B7.out.toExt (trans_ext hq1 hq2)))
          | (go_at_call 54; refine (FormatRelation_w hy1 HY2.out ((vII_get (vRel_get VR7.out).2).2.toExt (by refine x'z ?_; repeat (with_reducible (first | apply x'a | apply x'b | exact x'c (by assumption) | refine x'd ?_ (by assumption) | apply x'e | apply x'f | apply x'g | apply x'h | apply x'i | apply x'j | apply x'k | apply x'l | apply x'm | assumption | (refine x'n ?_; omega) | omega))))).mono ?_; rintro e wq3 ⟨rfl, hq3⟩; rw [HFY.out]))
        go_meet
        exact ⟨rfl, (by refine x'z ?_; repeat (with_reducible (first | apply x'a | apply x'b | exact x'c (by assumption) | refine x'd ?_ (by assumption) | apply x'e | apply x'f | apply x'g | apply x'h | apply x'i | apply x'j | apply x'k | apply x'l | apply x'm | assumption | (refine x'n ?_; omega) | omega)))⟩
  obtain ⟨rfl, hxq⟩ := hcut
  obtain ⟨W9, rfl⟩ : ∃ W, W = wc := ⟨_, rfl⟩
  have B3 := Lib.hid (B3.out.toExt hxq)
  have B4 := Lib.hid (B4.out.toExt hxq)
  have B7 := Lib.hid (B7.out.toExt hxq)
  have B9 := Lib.hid (B9.out.toExt hxq)
  have VR3 := Lib.hid (VD.toExt VR3.out hxq)
  have VR4 := Lib.hid (VD.toExt VR4.out hxq)
  have VR7 := Lib.hid (VD.toExt VR7.out hxq)
  have HX := Lib.hid (trans_ext HX.out hxq)
  clear hxq B3 VR3 B4 VR4 B7 VR7 B9 q1 q2 HXR HP1 HP2 HV HT1 HO1 HR9 HY2 HY3 HO2 HF HYR l3 k30 k31 f3 l4 k40 k41 f4 l7 k70 k71 f7 l9 k90 k91 f9
  go_wp2_with fail
  refine (DrawFormatDatabase_any hb (HU.out.toExt HX.out)).mono ?_
  rintro e wa ⟨A11, a11, d, rfl, hvd, _, hD, hxa⟩
  have VD11 := Lib.hid hvd
  have hdw := Lib.hid hD.w
  have hdn : d.length ≤ 1000000000 := by have := hD.n; omega
  have HDB := Lib.hid (fun (x : Td) (hx : x ∈ d) => show BRel x.2 from (hD.t x hx).2.1)
  have Hxa := Lib.hid hxa
  have htd := fmtD_sz d
  obtain ⟨t3, ht3⟩ : ∃ t, fmtD d = t := ⟨_, rfl⟩
  have HT3 := Lib.hid ht3
  rw [ht3] at htd
  obtain ⟨o3, ho3⟩ : ∃ o, pDb t3 = o := ⟨_, rfl⟩
  have HO3 := Lib.hid ho3
  obtain ⟨v3, hv3⟩ : ∃ v, dbB d = v := ⟨_, rfl⟩
  have HV3 := Lib.hid hv3
  have HP3 := Lib.hid (fun (h : v3 = true) => show o3.isSome = true ∧ o3.getD [] = d from by
    have := pDb_fmt (d := d) (by rw [hv3, h])
    rw [ht3, ho3] at this
    exact this)
  clear hvd hD hxa ht3 ho3 hv3
  go_upto_region 11 with fail
  refine wp_name ?_
  intro Wa hW
  have xw : ∃ y, Wa = ext wa y := by rw [hW.out]; exact (by refine x'z ?_; repeat (with_reducible (first | apply x'a | apply x'b | exact x'c (by assumption) | refine x'd ?_ (by assumption) | apply x'e | apply x'f | apply x'g | apply x'h | apply x'i | apply x'j | apply x'k | apply x'l | apply x'm | assumption | (refine x'n ?_; omega) | omega)))
  have B11 : Hid (BoxAt Wa wa.heap.size #[.slice A11 d.length a11]) := Lib.hid (by rw [hW.out]; exact BoxAt.new _ _ _)
  have VD11 := Lib.hid (VD11.out.toExt xw)
  have xx := trans_ext Hxa.out xw
  have HX := Lib.hid (trans_ext HX.out xx)
  clear hW xw xx
  obtain ⟨l11, k110, f11⟩ := bx1 B11.out
  go_wp2_with fail
  refine (FormatDatabase_any hdw.out VD11.out).mono ?_
  rintro e wb ⟨rfl, hxb⟩
  rw [HT3.out]
  have B11 := Lib.hid (B11.out.toExt hxb)
  have VD11 := Lib.hid (VD11.out.toExt hxb)
  have HX := Lib.hid (trans_ext HX.out hxb)
  clear hxb l11 k110 f11
  obtain ⟨l11, k110, f11⟩ := bx1 B11.out
  go_wp2_with fail
  refine (ParseDatabase_any (s := t3) (by omega)).mono ?_
  rw [HO3.out]
  rintro e wd ⟨u0, Fd, rfl, hxd, hSd, _, _⟩
  obtain ⟨ed, hed⟩ : ∃ x, o3.getD [] = x := ⟨_, rfl⟩
  obtain ⟨g3, hg3⟩ : ∃ x, o3.isSome = x := ⟨_, rfl⟩
  rw [hed] at hSd
  rw [hg3]
  have HED := Lib.hid hed
  have HG3 := Lib.hid hg3
  obtain ⟨A12, a12, rfl⟩ := sDb_form hSd
  have VD12 := Lib.hid (vDb_get (sDb_v _ _ _ hSd)).2.1
  have Hxd := Lib.hid hxd
  clear hxd hSd hed hg3
  go_upto_region 12 with fail
  refine wp_name ?_
  intro Wd hW
  have xw : ∃ y, Wd = ext wd y := by rw [hW.out]; exact (by refine x'z ?_; repeat (with_reducible (first | apply x'a | apply x'b | exact x'c (by assumption) | refine x'd ?_ (by assumption) | apply x'e | apply x'f | apply x'g | apply x'h | apply x'i | apply x'j | apply x'k | apply x'l | apply x'm | assumption | (refine x'n ?_; omega) | omega)))
  have B12 : Hid (BoxAt Wd wd.heap.size #[.slice A12 ed.length a12]) := Lib.hid (by rw [hW.out]; exact BoxAt.new _ _ _)
  have VD12 := Lib.hid (VD12.out.toExt xw)
  have xx := trans_ext Hxd.out xw
  have B11 := Lib.hid (B11.out.toExt xx)
  have VD11 := Lib.hid (VD11.out.toExt xx)
  have HX := Lib.hid (trans_ext HX.out xx)
  clear hW xw xx l11 k110 f11
  obtain ⟨l11, k110, f11⟩ := bx1 B11.out
  obtain ⟨l12, k120, f12⟩ := bx1 B12.out
  go_wp2_with fail
  refine (DrawParseDatabase_any hb (HU.out.toExt HX.out)).mono ?_
  rintro e we ⟨t, rfl, ht, hxe⟩
  have B11 := Lib.hid (B11.out.toExt hxe)
  have B12 := Lib.hid (B12.out.toExt hxe)
  have VD11 := Lib.hid (VD11.out.toExt hxe)
  have VD12 := Lib.hid (VD12.out.toExt hxe)
  have HX := Lib.hid (trans_ext HX.out hxe)
  clear hxe l11 k110 f11 l12 k120 f12
  obtain ⟨l11, k110, f11⟩ := bx1 B11.out
  obtain ⟨l12, k120, f12⟩ := bx1 B12.out
  obtain ⟨o4, ho4⟩ : ∃ o, pDb t = o := ⟨_, rfl⟩
  have HO4 := Lib.hid ho4
  obtain ⟨hz1, hz2, hz3⟩ := pDb_get ho4
  obtain ⟨fd, hfd⟩ : ∃ x, o4.getD [] = x := ⟨_, rfl⟩
  obtain ⟨rd, hrd⟩ : ∃ f, o4.isSome = f := ⟨_, rfl⟩
  rw [hfd] at hz1 hz2 hz3
  rw [hrd] at hz3
  have HFD := Lib.hid hfd
  have HRD := Lib.hid hrd
  have HZ1 := Lib.hid hz1
  have HZ3 := Lib.hid hz3
  clear ho4 hfd hrd hz1 hz2 hz3
  go_wp2_with fail
  refine (ParseDatabase_any (s := t) (by omega)).mono ?_
  rw [HO4.out]
  rintro e wf ⟨u0, Ff, rfl, hxf, hSf, _, _⟩
  rw [HRD.out]
  rw [HFD.out] at hSf
  obtain ⟨A15, a15, rfl⟩ := sDb_form hSf
  have VD15 := Lib.hid (vDb_get (sDb_v _ _ _ hSf)).2.1
  have Hxf := Lib.hid hxf
  clear hxf hSf
  go_upto_region 14 with fail
  refine wp_name ?_
  intro Wf hW
  have xw : ∃ y, Wf = ext wf y := by rw [hW.out]; exact (by refine x'z ?_; repeat (with_reducible (first | apply x'a | apply x'b | exact x'c (by assumption) | refine x'd ?_ (by assumption) | apply x'e | apply x'f | apply x'g | apply x'h | apply x'i | apply x'j | apply x'k | apply x'l | apply x'm | assumption | (refine x'n ?_; omega) | omega)))
  have B15 : Hid (BoxAt Wf wf.heap.size #[.slice A15 fd.length a15]) := Lib.hid (by rw [hW.out]; exact BoxAt.new _ _ _)
  have VD15 := Lib.hid (VD15.out.toExt xw)
  have xx := trans_ext Hxf.out xw
  have B11 := Lib.hid (B11.out.toExt xx)
  have B12 := Lib.hid (B12.out.toExt xx)
  have VD11 := Lib.hid (VD11.out.toExt xx)
  have VD12 := Lib.hid (VD12.out.toExt xx)
  have HX := Lib.hid (trans_ext HX.out xx)
  clear hW xw xx l11 k110 f11 l12 k120 f12
  obtain ⟨l11, k110, f11⟩ := bx1 B11.out
  obtain ⟨l12, k120, f12⟩ := bx1 B12.out
  obtain ⟨l15, k150, f15⟩ := bx1 B15.out
  go_wp2_with fail
  refine (specParseDatabase_any (s := t) (by omega)).mono ?_
  rw [HO4.out]
  rintro e wg ⟨u0, Fg, rfl, hxg, hSg, _, _⟩
  rw [HRD.out]
  rw [HFD.out] at hSg
  obtain ⟨A17, a17, rfl⟩ := sDb_form hSg
  have Hxg := Lib.hid hxg
  clear hxg hSg
  go_upto_region 15 with fail
  refine wp_name ?_
  intro Wg hW
  have xw : ∃ y, Wg = ext wg y := by rw [hW.out]; exact (by refine x'z ?_; repeat (with_reducible (first | apply x'a | apply x'b | exact x'c (by assumption) | refine x'd ?_ (by assumption) | apply x'e | apply x'f | apply x'g | apply x'h | apply x'i | apply x'j | apply x'k | apply x'l | apply x'm | assumption | (refine x'n ?_; omega) | omega)))
  have B17 : Hid (BoxAt Wg wg.heap.size #[.slice A17 fd.length a17]) := Lib.hid (by rw [hW.out]; exact BoxAt.new _ _ _)
  have xx := trans_ext Hxg.out xw
  have B11 := Lib.hid (B11.out.toExt xx)
  have B12 := Lib.hid (B12.out.toExt xx)
  have B15 := Lib.hid (B15.out.toExt xx)
  have VD11 := Lib.hid (VD11.out.toExt xx)
  have VD12 := Lib.hid (VD12.out.toExt xx)
  have VD15 := Lib.hid (VD15.out.toExt xx)
  have HX := Lib.hid (trans_ext HX.out xx)
  clear hW xw xx l11 k110 f11 l12 k120 f12 l15 k150 f15
  obtain ⟨l11, k110, f11⟩ := bx1 B11.out
  obtain ⟨l12, k120, f12⟩ := bx1 B12.out
  obtain ⟨l15, k150, f15⟩ := bx1 B15.out
  obtain ⟨l17, k170, f17⟩ := bx1 B17.out
  have q1 : (v3 == v3) = true := by simp
  have q2 : (rd == rd) = true := by simp
  cases v3 with
  | false =>
    cases rd with
    | false =>
      go_wp2_with fail
      refine wp_region_ext (by kernel_rfl) (by kernel_rfl) ?_
      repeat (go_big_quiet_step (first
        | (go_at_call 60; exact quietEb (specIsValidDatabase_w hdw.out (VD11.out.toExt ⟨_, rfl⟩)) HV3.out)
        | (go_at_call 63; exact quietEb (IsValidDatabase_w hdw.out (VD11.out.toExt ⟨_, rfl⟩)) HV3.out)
        | (go_at_call 61; exact quietEb (specEqualDatabases_any hdn HDB.out (VD11.out.toExt ⟨_, rfl⟩) HDB.out (VD12.out.toExt ⟨_, rfl⟩)) (decide_eq_true rfl))
        | (go_at_call 62; exact quietEb (EqualDatabases_any hdn HDB.out (VD11.out.toExt ⟨_, rfl⟩) HDB.out (VD12.out.toExt ⟨_, rfl⟩)) (decide_eq_true rfl))
        | (go_at_call 18; exact quietEs (FormatDatabase_any HZ1.out (VD15.out.toExt ⟨_, rfl⟩)) HFF.out)))
      refine wpQuiet_nil ?_
      rintro _ ⟨z, rfl⟩
      go_wp2_with fail
      go_ret
      exact ⟨rfl, trans_ext HX.out ⟨z, rfl⟩⟩
    | true =>
      have HFF := Lib.hid (HZ3.out rfl)
      have q3 : (t.toList == t.toList) = true := by simp
      go_wp2_with fail
      refine wp_region_ext (by kernel_rfl) (by kernel_rfl) ?_
      repeat (go_big_quiet_step (first
        | (go_at_call 60; exact quietEb (specIsValidDatabase_w hdw.out (VD11.out.toExt ⟨_, rfl⟩)) HV3.out)
        | (go_at_call 63; exact quietEb (IsValidDatabase_w hdw.out (VD11.out.toExt ⟨_, rfl⟩)) HV3.out)
        | (go_at_call 61; exact quietEb (specEqualDatabases_any hdn HDB.out (VD11.out.toExt ⟨_, rfl⟩) HDB.out (VD12.out.toExt ⟨_, rfl⟩)) (decide_eq_true rfl))
        | (go_at_call 62; exact quietEb (EqualDatabases_any hdn HDB.out (VD11.out.toExt ⟨_, rfl⟩) HDB.out (VD12.out.toExt ⟨_, rfl⟩)) (decide_eq_true rfl))
        | (go_at_call 18; exact quietEs (FormatDatabase_any HZ1.out (VD15.out.toExt ⟨_, rfl⟩)) HFF.out)))
      refine wpQuiet_nil ?_
      rintro _ ⟨z, rfl⟩
      go_wp2_with fail
      go_ret
      exact ⟨rfl, trans_ext HX.out ⟨z, rfl⟩⟩
  | true =>
    have hed : ed = d := by rw [← HED.out]; exact (HP3.out rfl).2
    have hg3 : g3 = true := by rw [← HG3.out]; exact (HP3.out rfl).1
    subst hed hg3
    cases rd with
    | false =>
      go_wp2_with fail
      refine wp_region_ext (by kernel_rfl) (by kernel_rfl) ?_
      repeat (go_big_quiet_step (first
        | (go_at_call 60; exact quietEb (specIsValidDatabase_w hdw.out (VD11.out.toExt ⟨_, rfl⟩)) HV3.out)
        | (go_at_call 63; exact quietEb (IsValidDatabase_w hdw.out (VD11.out.toExt ⟨_, rfl⟩)) HV3.out)
        | (go_at_call 61; exact quietEb (specEqualDatabases_any hdn HDB.out (VD11.out.toExt ⟨_, rfl⟩) HDB.out (VD12.out.toExt ⟨_, rfl⟩)) (decide_eq_true rfl))
        | (go_at_call 62; exact quietEb (EqualDatabases_any hdn HDB.out (VD11.out.toExt ⟨_, rfl⟩) HDB.out (VD12.out.toExt ⟨_, rfl⟩)) (decide_eq_true rfl))
        | (go_at_call 18; exact quietEs (FormatDatabase_any HZ1.out (VD15.out.toExt ⟨_, rfl⟩)) HFF.out)))
      refine wpQuiet_nil ?_
      rintro _ ⟨z, rfl⟩
      go_wp2_with fail
      go_ret
      exact ⟨rfl, trans_ext HX.out ⟨z, rfl⟩⟩
    | true =>
      have HFF := Lib.hid (HZ3.out rfl)
      have q3 : (t.toList == t.toList) = true := by simp
      go_wp2_with fail
      refine wp_region_ext (by kernel_rfl) (by kernel_rfl) ?_
      repeat (go_big_quiet_step (first
        | (go_at_call 60; exact quietEb (specIsValidDatabase_w hdw.out (VD11.out.toExt ⟨_, rfl⟩)) HV3.out)
        | (go_at_call 63; exact quietEb (IsValidDatabase_w hdw.out (VD11.out.toExt ⟨_, rfl⟩)) HV3.out)
        | (go_at_call 61; exact quietEb (specEqualDatabases_any hdn HDB.out (VD11.out.toExt ⟨_, rfl⟩) HDB.out (VD12.out.toExt ⟨_, rfl⟩)) (decide_eq_true rfl))
        | (go_at_call 62; exact quietEb (EqualDatabases_any hdn HDB.out (VD11.out.toExt ⟨_, rfl⟩) HDB.out (VD12.out.toExt ⟨_, rfl⟩)) (decide_eq_true rfl))
        | (go_at_call 18; exact quietEs (FormatDatabase_any HZ1.out (VD15.out.toExt ⟨_, rfl⟩)) HFF.out)))
      refine wpQuiet_nil ?_
      rintro _ ⟨z, rfl⟩
      go_wp2_with fail
      go_ret
      exact ⟨rfl, trans_ext HX.out ⟨z, rfl⟩⟩

theorem law_RF (A : Option Addr) (c : Nat) (bs : List UInt8) (w : World) (hl : bs.length ≤ 9223372036854775807) (h1 : RU w A bs) : Calls Try.prog 10 #[.slice A bs.length c] w fun e w' => e = .returned (.bool true) ∧ ∃ y, w' = ext w y := by
  by_cases hb : 1048576 < bs.length
  · exact law_RF_big A c bs w hb hl
  · exact law_RF_m A c bs w (by omega) h1

set_option maxRecDepth 100000 in
theorem lifted_FnRelationFormat (os : Os) (started : os.Started) (H : Type) (enc : TypeId × Value → H) :
    ReturnsInHanded {} Try.checked os 10 .any (Rows.fnRelationFormatSpec.pre6 enc Try.prog Try.f10 Rows.fnRelationFormatRow.domain false) (Rows.fnRelationFormatSpec.post enc Try.prog Try.f10 false true false false) := by
  refine returnsInHanded_of_change (C := Try.checked) Try.own started (by kernel_rfl) Try.func10 (ChangeSpec.witness6 (enc := enc) (C := Try.checked) false ⟨#[], #[.slice none 0 0], []⟩ 8 (by kernel_rfl) (by kernel_rfl) (by kernel_rfl) (by kernel_rfl)) ?_
  intro W base args ds gs before hval0 hW hcnd _
  have hval : ∀ (j : Nat) t v, Try.f10.params[j]? = some t → args[j]? = some v → Value.okWide Try.prog W .any base t v := hval0
  clear hval0 hcnd
  obtain ⟨_, _, hA0, hV0, _, _, _⟩ := id hW
  have hA : DataW.TrodAll enc Try.prog W 0 (fun _ => true) true Try.f10.params.toList args.toList ds _ := hA0
  clear hA0
  rw [Try.params10] at hA hval
  obtain ⟨v0, d0, rfl, rfl, h0⟩ := trodAll_one hA
  obtain ⟨x0, ⟨A0, c0, hc0, r0⟩, l0, _⟩ := openArg oBytes h0
  obtain rfl := one1 hc0 (okWide_slice Try.underlying62 (hval 0 _ v0 rfl rfl))
  refine (law_RF A0 _ x0 W (le_maxLen l0) r0).mono fun e W' ⟨he, hw⟩ => ?_
  exact ⟨_, he, law_post Try.laidOut hW rfl rfl rfl Try.underlying4 (by kernel_rfl) hw⟩

theorem fnRelationFormat_and {a b : Bool} (ha : a = true) (hb : b = true) : (a && b) = true := by rw [ha, hb]; rfl
set_option maxHeartbeats 16000000 in
theorem fnRelationFormat_closed : joinedFacts Try.checked.prog 10 Try.f10 Rows.fnRelationFormatSpec Rows.fnRelationFormatRow = true := by
  unfold joinedFacts
  repeat' (with_reducible refine fnRelationFormat_and ?_ ?_)
  all_goals (as_aux_lemma => kernel_rfl)
theorem fnRelationFormat_holds : Rows.FnRelationFormatSaid :=
  OpenClaim.holds_of_wide 10 Try.f10 rfl rfl rfl rfl rfl rfl rfl ⟨rfl, rfl, rfl, rfl, rfl⟩ rfl rfl rfl rfl rfl (by kernel_rfl) Try.func10 fnRelationFormat_closed
    (of_decide_eq_true (by kernel_rfl)) (by unfold Func.isWrapper; rw [if_neg (of_decide_eq_false (by kernel_rfl))]; exact ⟨rfl, rfl⟩)
    (fun os started H enc _ => lifted_FnRelationFormat os started H enc)

end Go.Proofs.Ytfigcfajkilhiaa
