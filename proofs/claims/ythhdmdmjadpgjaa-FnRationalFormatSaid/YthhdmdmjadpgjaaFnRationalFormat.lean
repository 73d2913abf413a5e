/- Rationals drawn from any bytes, and lists of them, are read again from their texts, and no other texts are read. -/
import Derived.Test.YthhdmdmjadpgjaaFnScal1
import Derived.Test.YthhdmdmjadpgjaaDrawR
import Derived.Test.YthhdmdmjadpgjaaRats
import Derived.Test.YthhdmdmjadpgjaaParseRat2
namespace Go.Proofs.Ythhdmdmjadpgjaa
open Go.ChangeShapes Go.WideShapes Go.ChangeAt Go.RowKit

set_option maxHeartbeats 2000000 in
theorem law_RF_big (A : Option Addr) (c : Nat) (bs : List UInt8) (w : World) (hb : 1048576 < bs.length) (hl : bs.length ≤ 9223372036854775807) : Calls Try.prog 3 #[.slice A bs.length c] w fun e w' => e = .returned (.bool true) ∧ ∃ y, w' = ext w y := by
  go_enter Try.func3, Try.ntmps3
  go_wp2_with fail
  refine (lawBig_any hl).mono ?_
  rintro e w1 ⟨rfl, hx1⟩
  rw [decide_eq_true hb]
  go_wp2_with fail
  go_ret
  exact ⟨rfl, hx1⟩
set_option maxRecDepth 100000 in
set_option maxHeartbeats 40000000 in
theorem law_RF_m (A : Option Addr) (c : Nat) (bs : List UInt8) (w : World) (hb : bs.length ≤ 1048576) (h1 : RU w A bs) : Calls Try.prog 3 #[.slice A bs.length c] w fun e w' => e = .returned (.bool true) ∧ ∃ y, w' = ext w y := by
  go_enter Try.func3, Try.ntmps3
  go_wp2_with fail
  refine (lawBig_any (by omega)).mono ?_
  rintro e w1 ⟨rfl, hx1⟩
  rw [decide_eq_false (show ¬ 1048576 < bs.length by omega)]
  go_wp2_with fail
  refine (DrawFormatRational_any hb (h1.toExt hx1)).mono ?_
  rintro e w2 ⟨⟨a, b⟩, rfl, hx2⟩
  dsimp only
  go_upto_region 4 with fail
  refine wp_name ?_
  intro W3 hW3
  have x3 : ∃ y, W3 = ext w2 y := by rw [hW3.out]; exact (by refine Chg.isExt (F := []) ?_ (refl_ext _) (by simp); repeat (with_reducible (first | exact Chg.refl _ _ | exact Nat.le_refl _ | exact Chg.ofExt (by assumption) | refine Chg.trans0 ?_ (by assumption) | refine Chg.extS ?_ _ | refine Chg.alloc ?_ _ | refine Chg.drew ?_ | refine Chg.setCellE ?_ ?_ _ | refine le_addk ?_ _ | refine le_ext ?_ | refine le_alloc ?_ _ | refine le_setC ?_ _ _ | refine le_drew ?_ | assumption | (refine Nat.le_of_lt ?_; omega) | omega)))
  have B3 : BoxAt W3 w2.heap.size #[.int .i64 a, .int .i64 b] := by rw [hW3.out]; exact (by repeat (with_reducible (first | assumption | exact BoxAt.new _ _ _ | apply BoxAt.set2 | refine BoxAt.set2' ?_ (by omega) | apply BoxAt.setP0 | apply BoxAt.setP1 | refine BoxAt.setO ?_ (by omega) | refine BoxAt.alloc ?_ _ | refine BoxAt.drew ?_ | refine BoxAt.toExt ?_ (by assumption))))
  have xw3 : ∃ y, W3 = ext w y := trans_ext (trans_ext hx1 hx2) x3
  obtain ⟨b3, q3⟩ : ∃ k, w2.heap.size = k := ⟨_, rfl⟩
  rw [q3] at B3 ⊢
  obtain ⟨_, l3, k3, k3', f3⟩ := box2 B3
  clear hW3 x3 q3 hx1 hx2
  go_wp2_with fail
  refine FormatRational_any.mono ?_
  rintro e w4 ⟨rfl, hx4⟩
  have hs4 := ratText_le (a, b)
  go_wp2_with fail
  refine (ParseRational_any (by omega)).mono ?_
  rintro e w5 ⟨rfl, hx5⟩
  rw [pRat_back]
  obtain ⟨o1, ho1⟩ : ∃ o, (if isVR (a, b) = true then some (a, b) else none) = o := ⟨_, rfl⟩
  have HO1 := Lib.hid ho1
  rw [ho1]
  clear ho1 hs4
  go_upto_region 5 with fail
  refine wp_name ?_
  intro W6 hW6
  have x6 : ∃ y, W6 = ext w5 y := by rw [hW6.out]; exact (by refine Chg.isExt (F := []) ?_ (refl_ext _) (by simp); repeat (with_reducible (first | exact Chg.refl _ _ | exact Nat.le_refl _ | exact Chg.ofExt (by assumption) | refine Chg.trans0 ?_ (by assumption) | refine Chg.extS ?_ _ | refine Chg.alloc ?_ _ | refine Chg.drew ?_ | refine Chg.setCellE ?_ ?_ _ | refine le_addk ?_ _ | refine le_ext ?_ | refine le_alloc ?_ _ | refine le_setC ?_ _ _ | refine le_drew ?_ | assumption | (refine Nat.le_of_lt ?_; omega) | omega)))
  have B6 : BoxAt W6 w5.heap.size #[.int .i64 (o1.getD (0, 0)).1, .int .i64 (o1.getD (0, 0)).2] := by rw [hW6.out]; exact (by repeat (with_reducible (first | assumption | exact BoxAt.new _ _ _ | apply BoxAt.set2 | refine BoxAt.set2' ?_ (by omega) | apply BoxAt.setP0 | apply BoxAt.setP1 | refine BoxAt.setO ?_ (by omega) | refine BoxAt.alloc ?_ _ | refine BoxAt.drew ?_ | refine BoxAt.toExt ?_ (by assumption))))
  have x36 : ∃ y, W6 = ext W3 y := trans_ext (trans_ext hx4 hx5) x6
  have B36 := B3.toExt x36
  have xw6 := trans_ext xw3 x36
  obtain ⟨b6, q6⟩ : ∃ k, w5.heap.size = k := ⟨_, rfl⟩
  rw [q6] at B6 ⊢
  clear hW6 x6 q6 hx4 hx5 x36 B3 xw3 l3 k3 k3' f3
  go_wp2_with fail
  refine (DrawParseRational_any hb (h1.toExt xw6)).mono ?_
  rintro e w7 ⟨s, rfl, hs, hx7⟩
  go_wp2_with fail
  refine (ParseRational_any (s := s) (by omega)).mono ?_
  rintro e w8 ⟨rfl, hx8⟩
  obtain ⟨o2, ho2⟩ : ∃ o, pRat s = o := ⟨_, rfl⟩
  have HO2 := Lib.hid ho2
  rw [ho2]
  clear ho2
  go_upto_region 7 with fail
  refine wp_name ?_
  intro W9 hW9
  have x9 : ∃ y, W9 = ext w8 y := by rw [hW9.out]; exact (by refine Chg.isExt (F := []) ?_ (refl_ext _) (by simp); repeat (with_reducible (first | exact Chg.refl _ _ | exact Nat.le_refl _ | exact Chg.ofExt (by assumption) | refine Chg.trans0 ?_ (by assumption) | refine Chg.extS ?_ _ | refine Chg.alloc ?_ _ | refine Chg.drew ?_ | refine Chg.setCellE ?_ ?_ _ | refine le_addk ?_ _ | refine le_ext ?_ | refine le_alloc ?_ _ | refine le_setC ?_ _ _ | refine le_drew ?_ | assumption | (refine Nat.le_of_lt ?_; omega) | omega)))
  have B9 : BoxAt W9 w8.heap.size #[.int .i64 (o2.getD (0, 0)).1, .int .i64 (o2.getD (0, 0)).2] := by rw [hW9.out]; exact (by repeat (with_reducible (first | assumption | exact BoxAt.new _ _ _ | apply BoxAt.set2 | refine BoxAt.set2' ?_ (by omega) | apply BoxAt.setP0 | apply BoxAt.setP1 | refine BoxAt.setO ?_ (by omega) | refine BoxAt.alloc ?_ _ | refine BoxAt.drew ?_ | refine BoxAt.toExt ?_ (by assumption))))
  have x69 : ∃ y, W9 = ext W6 y := trans_ext (trans_ext hx7 hx8) x9
  have B39 := B36.toExt x69
  have B69 := B6.toExt x69
  have xw9 := trans_ext xw6 x69
  obtain ⟨b9, q9⟩ : ∃ k, w8.heap.size = k := ⟨_, rfl⟩
  rw [q9] at B9 ⊢
  clear hW9 x9 q9 hx7 hx8 x69 B36 B6 xw6
  go_wp2_with fail
  refine (specParseRational_any (s := s) (by omega)).mono ?_
  rintro e w10 ⟨rfl, hx10⟩
  rw [HO2.out]
  go_upto_region 8 with fail
  refine wp_name ?_
  intro W11 hW11
  have x11 : ∃ y, W11 = ext w10 y := by rw [hW11.out]; exact (by refine Chg.isExt (F := []) ?_ (refl_ext _) (by simp); repeat (with_reducible (first | exact Chg.refl _ _ | exact Nat.le_refl _ | exact Chg.ofExt (by assumption) | refine Chg.trans0 ?_ (by assumption) | refine Chg.extS ?_ _ | refine Chg.alloc ?_ _ | refine Chg.drew ?_ | refine Chg.setCellE ?_ ?_ _ | refine le_addk ?_ _ | refine le_ext ?_ | refine le_alloc ?_ _ | refine le_setC ?_ _ _ | refine le_drew ?_ | assumption | (refine Nat.le_of_lt ?_; omega) | omega)))
  have x911 : ∃ y, W11 = ext W9 y := trans_ext hx10 x11
  have B311 := B39.toExt x911
  have B611 := B69.toExt x911
  have B911 := B9.toExt x911
  have xw11 := trans_ext xw9 x911
  clear hW11 x11 hx10 x911 B39 B69 B9 xw9
  go_wp2_with fail
  refine (DrawFormatRationals_any hb (h1.toExt xw11)).mono ?_
  rintro e w12 ⟨v, F, ds, rfl, hx12, hS, hF, hl⟩
  obtain ⟨A1, c1, rfl, _, _, r1⟩ := hS.view sR_v
  have ht4 := ratsF_le ds hl
  clear hS hF
  go_wp2_with fail
  refine (FormatRationals_any (by omega) r1).mono ?_
  rintro e w13 ⟨rfl, hx13⟩
  obtain ⟨t, ht0⟩ : ∃ t, ratsF 0 ⟨#[]⟩ ds = t := ⟨_, rfl⟩
  have HT := Lib.hid ht0
  rw [ht0] at ht4 ⊢
  clear ht0
  go_wp2_with fail
  refine (ParseRationals_any (s := t) (by omega)).mono ?_
  rintro e w14 ⟨v2, F2, rfl, hx14, hS2, hF2⟩
  obtain ⟨o3, ho3⟩ : ∃ o, pRats t = o := ⟨_, rfl⟩
  have HO3 := Lib.hid ho3
  have hn3 : ∀ l, o3 = some l → l.length ≤ 201 := fun l e => by have := pRats_length (ho3.trans e); omega
  have hn3' : (o3.getD []).length ≤ 1000000 := by
    cases o3 with
    | none => simp
    | some l => have := hn3 l rfl; simp; omega
  rw [ho3] at hS2 ⊢
  obtain ⟨A2, c2, rfl, _, _, r2⟩ := hS2.view sR_v
  clear ho3 hn3 hS2 hF2
  go_wp2_with fail
  refine (DrawParseRationals_any hb (h1.toExt (trans_ext (trans_ext (trans_ext xw11 hx12) hx13) hx14))).mono ?_
  rintro e w15 ⟨u, rfl, hu, hx15⟩
  go_wp2_with fail
  refine (ParseRationals_any (s := u) (by omega)).mono ?_
  rintro e w16 ⟨v3, F3, rfl, hx16, hS3, hF3⟩
  obtain ⟨o4, ho4⟩ : ∃ o, pRats u = o := ⟨_, rfl⟩
  have HO4 := Lib.hid ho4
  have hn4 : ∀ l, o4 = some l → l.length ≤ 1001 := fun l e => by have := pRats_length (ho4.trans e); omega
  have hn4' : (o4.getD []).length ≤ 1000000 := by
    cases o4 with
    | none => simp
    | some l => have := hn4 l rfl; simp; omega
  rw [ho4] at hS3 ⊢
  obtain ⟨A3, c3, rfl, _, _, r3⟩ := hS3.view sR_v
  clear ho4 hn4 hS3 hF3
  go_wp2_with fail
  refine (specParseRationals_any (s := u) (by omega)).mono ?_
  rintro e w17 ⟨v4, F4, rfl, hx17, hS4, hF4⟩
  rw [HO4.out] at hS4 ⊢
  obtain ⟨A4, c4, rfl, _, _, r4⟩ := hS4.view sR_v
  clear hS4 hF4 r4
  have x1117 : ∃ y, w17 = ext W11 y := trans_ext (trans_ext (trans_ext (trans_ext (trans_ext hx12 hx13) hx14) hx15) hx16) hx17
  have C3 := B311.toExt x1117
  have C6 := B611.toExt x1117
  have C9 := B911.toExt x1117
  have xw17 := trans_ext xw11 x1117
  have r1' := r1.toExt (trans_ext (trans_ext (trans_ext (trans_ext hx13 hx14) hx15) hx16) hx17)
  have r2' := r2.toExt (trans_ext (trans_ext hx15 hx16) hx17)
  have r3' := r3.toExt hx17
  clear B311 B611 B911 xw11 x1117 r1 r2 r3 hx12 hx13 hx14 hx15 hx16 hx17
  obtain ⟨_, m3, d3, d3', g3⟩ := box2 C3
  obtain ⟨_, m6, d6, d6', g6⟩ := box2 C6
  obtain ⟨_, m9, d9, d9', g9⟩ := box2 C9
  go_upto_region 14 with fail
  obtain ⟨vr, hvr⟩ : ∃ t, isVR (a, b) = t := ⟨_, rfl⟩
  have HVR := Lib.hid hvr
  have ho1 := HO1.out
  rw [hvr] at ho1
  have hst : ∀ y, o2 = some y → ratText y = s := fun y e => (pRat_some (HO2.out.trans e)).2
  have hku : ∀ k, o4 = some k → ratsF 0 ⟨#[]⟩ k = u := fun k e => rats_fwd (HO4.out.trans e)
  have hds : t.size ≠ 0 → o3 = some ds := fun h => by rw [← HO3.out, ← HT.out]; exact rats_back (by rw [HT.out]; exact h)
  have HST := Lib.hid hst
  have HKU := Lib.hid hku
  have HDS := Lib.hid hds
  have HC3 := Lib.hid C3
  have HC6 := Lib.hid C6
  have HC9 := Lib.hid C9
  have HX := Lib.hid xw17
  clear hvr hst hku hds HO1 HO2 HO3 HO4 C3 C6 C9 xw17
  have qa : (a != a) = false := by simp
  have qb : (b != b) = false := by simp
  have qs : (s.toList != s.toList) = false := by simp
  have qu : (u.toList != u.toList) = false := by simp
  have qt : (t.toList == t.toList) = true := by simp
  by_cases hz : t.size = 0
  · obtain rfl : t = ⟨#[]⟩ := bl_inj (size_zero hz)
    clear hz qt HDS
    cases vr <;> (simp only [if_true, Bool.false_eq_true, if_false] at ho1; subst ho1) <;> cases o2 <;> cases o4
    all_goals
      simp only [Option.getD_none, Option.getD_some, Option.isSome_none, Option.isSome_some] at d6 d6' d9 d9' r3' hn4' HC6 HC9 ⊢
      go_wp2_with (first
        | (go_at_call 15; refine specIsValidRational_any.mono ?_; rintro e wa ⟨rfl, hxa⟩; rw [HVR.out]; obtain ⟨_, n3, e3, e3', i3⟩ := box2 (HC3.out.toExt hxa); obtain ⟨_, n6, e6, e6', i6⟩ := box2 (HC6.out.toExt hxa); obtain ⟨_, n9, e9, e9', i9⟩ := box2 (HC9.out.toExt hxa))
        | (go_at_call 7; refine FormatRational_any.mono ?_; rintro e wb ⟨rfl, hxb⟩; rw [HST.out _ rfl])
        | (go_at_call 11; refine (FormatRationals_any (by omega) (r3'.toExt (by refine Chg.isExt (F := []) ?_ (refl_ext _) (by simp); repeat (with_reducible (first | exact Chg.refl _ _ | exact Nat.le_refl _ | exact Chg.ofExt (by assumption) | refine Chg.trans0 ?_ (by assumption) | refine Chg.extS ?_ _ | refine Chg.alloc ?_ _ | refine Chg.drew ?_ | refine Chg.setCellE ?_ ?_ _ | refine le_addk ?_ _ | refine le_ext ?_ | refine le_alloc ?_ _ | refine le_setC ?_ _ _ | refine le_drew ?_ | assumption | (refine Nat.le_of_lt ?_; omega) | omega))))).mono ?_; rintro e wc ⟨rfl, hxc⟩; rw [HKU.out _ rfl])
        | (go_at_call 16; refine (specFormatRationals_any (by omega) (r1'.toExt (by refine Chg.isExt (F := []) ?_ (refl_ext _) (by simp); repeat (with_reducible (first | exact Chg.refl _ _ | exact Nat.le_refl _ | exact Chg.ofExt (by assumption) | refine Chg.trans0 ?_ (by assumption) | refine Chg.extS ?_ _ | refine Chg.alloc ?_ _ | refine Chg.drew ?_ | refine Chg.setCellE ?_ ?_ _ | refine le_addk ?_ _ | refine le_ext ?_ | refine le_alloc ?_ _ | refine le_setC ?_ _ _ | refine le_drew ?_ | assumption | (refine Nat.le_of_lt ?_; omega) | omega))))).mono ?_; rintro e wd ⟨rfl, hxd⟩; rw [HT.out]))
      go_ret
      have hX := HX.out
      exact ⟨rfl, (by refine Chg.isExt (F := []) ?_ (refl_ext _) (by simp); repeat (with_reducible (first | exact Chg.refl _ _ | exact Nat.le_refl _ | exact Chg.ofExt (by assumption) | refine Chg.trans0 ?_ (by assumption) | refine Chg.extS ?_ _ | refine Chg.alloc ?_ _ | refine Chg.drew ?_ | refine Chg.setCellE ?_ ?_ _ | refine le_addk ?_ _ | refine le_ext ?_ | refine le_alloc ?_ _ | refine le_setC ?_ _ _ | refine le_drew ?_ | assumption | (refine Nat.le_of_lt ?_; omega) | omega)))⟩
  · have z1 := isEmpty_no (s := t) (by omega)
    have z2 := toList_empty (s := t) (by omega)
    obtain rfl := HDS.out hz
    clear hz HDS
    simp only [Option.getD_some, Option.isSome_some] at r2' hn3' ⊢
    cases vr <;> (simp only [if_true, Bool.false_eq_true, if_false] at ho1; subst ho1) <;> cases o2 <;> cases o4
    all_goals
      simp only [Option.getD_none, Option.getD_some, Option.isSome_none, Option.isSome_some] at d6 d6' d9 d9' r3' hn4' HC6 HC9 ⊢
      go_wp2_with (first
        | (go_at_call 15; refine specIsValidRational_any.mono ?_; rintro e wa ⟨rfl, hxa⟩; rw [HVR.out]; obtain ⟨_, n3, e3, e3', i3⟩ := box2 (HC3.out.toExt hxa); obtain ⟨_, n6, e6, e6', i6⟩ := box2 (HC6.out.toExt hxa); obtain ⟨_, n9, e9, e9', i9⟩ := box2 (HC9.out.toExt hxa))
        | (go_at_call 7; refine FormatRational_any.mono ?_; rintro e wb ⟨rfl, hxb⟩; rw [HST.out _ rfl])
        | (go_at_call 11; refine (FormatRationals_any (by omega) (r3'.toExt (by refine Chg.isExt (F := []) ?_ (refl_ext _) (by simp); repeat (with_reducible (first | exact Chg.refl _ _ | exact Nat.le_refl _ | exact Chg.ofExt (by assumption) | refine Chg.trans0 ?_ (by assumption) | refine Chg.extS ?_ _ | refine Chg.alloc ?_ _ | refine Chg.drew ?_ | refine Chg.setCellE ?_ ?_ _ | refine le_addk ?_ _ | refine le_ext ?_ | refine le_alloc ?_ _ | refine le_setC ?_ _ _ | refine le_drew ?_ | assumption | (refine Nat.le_of_lt ?_; omega) | omega))))).mono ?_; rintro e wc ⟨rfl, hxc⟩; rw [HKU.out _ rfl])
        | (go_at_call 16; refine (specFormatRationals_any (by omega) (r1'.toExt (by refine Chg.isExt (F := []) ?_ (refl_ext _) (by simp); repeat (with_reducible (first | exact Chg.refl _ _ | exact Nat.le_refl _ | exact Chg.ofExt (by assumption) | refine Chg.trans0 ?_ (by assumption) | refine Chg.extS ?_ _ | refine Chg.alloc ?_ _ | refine Chg.drew ?_ | refine Chg.setCellE ?_ ?_ _ | refine le_addk ?_ _ | refine le_ext ?_ | refine le_alloc ?_ _ | refine le_setC ?_ _ _ | refine le_drew ?_ | assumption | (refine Nat.le_of_lt ?_; omega) | omega))))).mono ?_; rintro e wd ⟨rfl, hxd⟩; rw [HT.out])
        | (go_at_call 17; refine (specEqualRationals_any (by omega) (r1'.toExt (by refine Chg.isExt (F := []) ?_ (refl_ext _) (by simp); repeat (with_reducible (first | exact Chg.refl _ _ | exact Nat.le_refl _ | exact Chg.ofExt (by assumption) | refine Chg.trans0 ?_ (by assumption) | refine Chg.extS ?_ _ | refine Chg.alloc ?_ _ | refine Chg.drew ?_ | refine Chg.setCellE ?_ ?_ _ | refine le_addk ?_ _ | refine le_ext ?_ | refine le_alloc ?_ _ | refine le_setC ?_ _ _ | refine le_drew ?_ | assumption | (refine Nat.le_of_lt ?_; omega) | omega)))) (by omega) (r2'.toExt (by refine Chg.isExt (F := []) ?_ (refl_ext _) (by simp); repeat (with_reducible (first | exact Chg.refl _ _ | exact Nat.le_refl _ | exact Chg.ofExt (by assumption) | refine Chg.trans0 ?_ (by assumption) | refine Chg.extS ?_ _ | refine Chg.alloc ?_ _ | refine Chg.drew ?_ | refine Chg.setCellE ?_ ?_ _ | refine le_addk ?_ _ | refine le_ext ?_ | refine le_alloc ?_ _ | refine le_setC ?_ _ _ | refine le_drew ?_ | assumption | (refine Nat.le_of_lt ?_; omega) | omega))))).mono ?_; rintro e we ⟨rfl, hxe⟩; rw [decide_eq_true rfl])
        | (go_at_call 18; refine (EqualRationals_any (by omega) (r1'.toExt (by refine Chg.isExt (F := []) ?_ (refl_ext _) (by simp); repeat (with_reducible (first | exact Chg.refl _ _ | exact Nat.le_refl _ | exact Chg.ofExt (by assumption) | refine Chg.trans0 ?_ (by assumption) | refine Chg.extS ?_ _ | refine Chg.alloc ?_ _ | refine Chg.drew ?_ | refine Chg.setCellE ?_ ?_ _ | refine le_addk ?_ _ | refine le_ext ?_ | refine le_alloc ?_ _ | refine le_setC ?_ _ _ | refine le_drew ?_ | assumption | (refine Nat.le_of_lt ?_; omega) | omega)))) (by omega) (r2'.toExt (by refine Chg.isExt (F := []) ?_ (refl_ext _) (by simp); repeat (with_reducible (first | exact Chg.refl _ _ | exact Nat.le_refl _ | exact Chg.ofExt (by assumption) | refine Chg.trans0 ?_ (by assumption) | refine Chg.extS ?_ _ | refine Chg.alloc ?_ _ | refine Chg.drew ?_ | refine Chg.setCellE ?_ ?_ _ | refine le_addk ?_ _ | refine le_ext ?_ | refine le_alloc ?_ _ | refine le_setC ?_ _ _ | refine le_drew ?_ | assumption | (refine Nat.le_of_lt ?_; omega) | omega))))).mono ?_; rintro e wf ⟨rfl, hxf⟩; rw [decide_eq_true rfl]))
      go_ret
      have hX := HX.out
      exact ⟨rfl, (by refine Chg.isExt (F := []) ?_ (refl_ext _) (by simp); repeat (with_reducible (first | exact Chg.refl _ _ | exact Nat.le_refl _ | exact Chg.ofExt (by assumption) | refine Chg.trans0 ?_ (by assumption) | refine Chg.extS ?_ _ | refine Chg.alloc ?_ _ | refine Chg.drew ?_ | refine Chg.setCellE ?_ ?_ _ | refine le_addk ?_ _ | refine le_ext ?_ | refine le_alloc ?_ _ | refine le_setC ?_ _ _ | refine le_drew ?_ | assumption | (refine Nat.le_of_lt ?_; omega) | omega)))⟩

theorem law_RF (A : Option Addr) (c : Nat) (bs : List UInt8) (w : World) (hl : bs.length ≤ 9223372036854775807) (h1 : RU w A bs) : Calls Try.prog 3 #[.slice A bs.length c] w fun e w' => e = .returned (.bool true) ∧ ∃ y, w' = ext w y := by
  by_cases hb : 1048576 < bs.length
  · exact law_RF_big A c bs w hb hl
  · exact law_RF_m A c bs w (by omega) h1

set_option maxRecDepth 100000 in
theorem lifted_FnRationalFormat (os : Os) (started : os.Started) (H : Type) (enc : TypeId × Value → H) :
    ReturnsInHanded {} Try.checked os 3 .any (Rows.fnRationalFormatSpec.pre6 enc Try.prog Try.f3 Rows.fnRationalFormatRow.domain false) (Rows.fnRationalFormatSpec.post enc Try.prog Try.f3 false true false false) := by
  refine returnsInHanded_of_change (C := Try.checked) Try.own started (by kernel_rfl) Try.func3 (ChangeSpec.witness6 (enc := enc) (C := Try.checked) false ⟨#[], #[.slice none 0 0], []⟩ 8 (by kernel_rfl) (by kernel_rfl) (by kernel_rfl) (by kernel_rfl)) ?_
  intro W base args ds gs before hval0 hW hcnd _
  have hval : ∀ (j : Nat) t v, Try.f3.params[j]? = some t → args[j]? = some v → Value.okWide Try.prog W .any base t v := hval0
  clear hval0 hcnd
  obtain ⟨_, _, hA0, hV0, _, _, _⟩ := id hW
  have hA : DataW.TrodAll enc Try.prog W 0 (fun _ => true) true Try.f3.params.toList args.toList ds _ := hA0
  clear hA0
  rw [Try.params3] at hA hval
  obtain ⟨v0, d0, rfl, rfl, h0⟩ := trodAll_one hA
  obtain ⟨x0, ⟨A0, c0, hc0, r0⟩, l0, _⟩ := openArg oBytes h0
  obtain rfl := one1 hc0 (okWide_slice Try.underlying22 (hval 0 _ v0 rfl rfl))
  refine (law_RF A0 _ x0 W (le_maxLen l0) r0).mono fun e W' ⟨he, hw⟩ => ?_
  exact ⟨_, he, law_post Try.laidOut hW rfl rfl rfl Try.underlying4 (by kernel_rfl) hw⟩

theorem fnRationalFormat_holds : Rows.FnRationalFormatSaid :=
  OpenClaim.holds_of_wide 3 Try.f3 rfl rfl rfl rfl rfl rfl rfl ⟨rfl, rfl, rfl, rfl, rfl⟩ rfl rfl rfl rfl rfl (by kernel_rfl) Try.func3 (by kernel_rfl)
    (of_decide_eq_true (by kernel_rfl)) (by unfold Func.isWrapper; rw [if_neg (of_decide_eq_false (by kernel_rfl))]; exact ⟨rfl, rfl⟩)
    (fun os started H enc _ => lifted_FnRationalFormat os started H enc)

end Go.Proofs.Ythhdmdmjadpgjaa
