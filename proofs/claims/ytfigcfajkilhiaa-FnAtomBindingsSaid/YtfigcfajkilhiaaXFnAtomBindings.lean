/- A database and an atom drawn from any bytes: the bindings of the atom are the rows of its relation that agree on repeated variables. -/
import Derived.Test.YtfigcfajkilhiaaXFnScal1
import Derived.Test.YtfigcfajkilhiaaE09
import Derived.Test.YtfigcfajkilhiaaE08
import Derived.Test.YtfigcfajkilhiaaE02
namespace Go.Proofs.Ytfigcfajkilhiaa
open Go.ChangeShapes Go.WideShapes Go.ChangeAt Go.RowKit

theorem atomBd_len {d : Dbd} {a : At} : (atomBd d a).2.length ≤ (relOf d a).2.length := by
  unfold atomBd
  simp only
  split
  · refine Nat.le_trans (sortR_length _) ?_
    rw [List.length_map]
    exact List.length_filter_le _ _
  · simp
theorem relOf_look {d : Dbd} {a : At} : (lookD d a.1).getD (0, []) = relOf d a := rfl
theorem atomBd_fits {d : Dbd} {a : At} : (atomBd d a).2.length ≤ ((lookD d a.1).getD (0, [])).2.length ∧ ((lookD d a.1).isSome = false → (atomBd d a).2.length = 0) := by
  refine ⟨atomBd_len, fun h => ?_⟩
  have e : lookD d a.1 = none := by simpa using h
  rw [atomBd_non e]
  rfl
theorem atomBd_brel (d : Dbd) (a : At) : BRel (atomBd d a) := (vrok_bd (atomBd_ok (d := d) (a := a))).2
theorem asc_at {l : List Int} (h : Asc l) {k : Nat} (hk : k + 1 < l.length) : l[k] < l[k + 1] := List.pairwise_iff_getElem.1 h k (k + 1) (by omega) hk (by omega)

set_option maxHeartbeats 2000000 in
theorem law_AB_big (A : Option Addr) (c : Nat) (bs : List UInt8) (w : World) (hb : 1048576 < bs.length) (hl : bs.length ≤ 9223372036854775807) : Calls Try.prog 11 #[.slice A bs.length c] w fun e w' => e = .returned (.bool true) ∧ ∃ y, w' = ext w y := by
  go_enter Try.func11, Try.ntmps11
  go_wp2_with fail
  refine (lawBig_any hl).mono ?_
  rintro e w1 ⟨rfl, hx1⟩
  rw [decide_eq_true hb]
  go_wp2_with fail
  go_ret
  exact ⟨rfl, hx1⟩

set_option maxRecDepth 100000 in
set_option maxHeartbeats 16000000 in
theorem law_AB_m (A : Option Addr) (c : Nat) (bs : List UInt8) (w : World) (hb : bs.length ≤ 1048576) (h1 : RU w A bs) : Calls Try.prog 11 #[.slice A bs.length c] w fun e w' => e = .returned (.bool true) ∧ ∃ y, w' = ext w y := by
  have HU := Lib.hid h1
  clear h1
  go_enter Try.func11, Try.ntmps11
  go_wp2_with fail
  refine (lawBig_any (by omega)).mono ?_
  rintro e w1 ⟨rfl, hx1⟩
  rw [decide_eq_false (show ¬ 1048576 < bs.length by omega)]
  have HX := Lib.hid hx1
  clear hx1
  go_wp2_with fail
  refine (DrawAtomBindings_any hb (HU.out.toExt HX.out)).mono ?_
  rintro e w2 ⟨A2, c2, d, AX, cx, s, xs, rfl, hvd, hvx, hD, hs4, hx5, hx2⟩
  have VD1 := Lib.hid hvd
  have VX := Lib.hid hvx
  have hdw := Lib.hid hD.w
  have Hx2 := Lib.hid hx2
  have hxl : xs.length ≤ 1000000000 := by omega
  obtain ⟨f1, f2⟩ := atomBd_fits (d := d) (a := (s, xs))
  have hrb := atomBd_brel d (s, xs)
  have hvr : atomVR d (s, xs) = (avars 5 0 xs, atomBd d (s, xs)) := rfl
  have hasc := asc_avars 5 0 xs
  have hmv := fun v => (mem_avars 5 0 xs v).1
  have hv5 := avars_length 5 0 xs
  obtain ⟨rel, hrel⟩ : ∃ r, atomBd d (s, xs) = r := ⟨_, rfl⟩
  obtain ⟨vs, hvs⟩ : ∃ r, avars 5 0 xs = r := ⟨_, rfl⟩
  obtain ⟨lk, hlk⟩ : ∃ r, lookD d s = r := ⟨_, rfl⟩
  rw [show lookD d (s, xs).1 = lookD d s from rfl, hlk] at f1 f2
  rw [hrel] at f1 f2 hrb hvr
  rw [hvs] at hasc hmv hv5 hvr
  have HREL := Lib.hid hrel
  have HVS := Lib.hid hvs
  have HLK := Lib.hid hlk
  have HVR := Lib.hid hvr
  have HASC := Lib.hid hasc
  have HMV := Lib.hid hmv
  have HF1 := Lib.hid f1
  have HF2 := Lib.hid f2
  have hvl : vs.length ≤ 1000000000 := by omega
  clear hvd hvx hD hx2 f1 f2 hvr hasc hmv hrel hvs hlk
  go_upto_region 4 with fail
  refine wp_name ?_
  intro W2 hW
  have xw : ∃ y, W2 = ext w2 y := by rw [hW.out]; exact (by refine x'z ?_; repeat (with_reducible (first | apply x'a | apply x'b | exact x'c (by assumption) | refine x'd ?_ (by assumption) | apply x'e | apply x'f | apply x'g | apply x'h | apply x'i | apply x'j | apply x'k | apply x'l | apply x'm | assumption | (refine x'n ?_; omega) | omega)))
  have BD : Hid (BoxAt W2 w2.heap.size #[.slice A2 d.length c2]) := Lib.hid (by rw [hW.out]; exact (BoxAt.new _ _ _).toExt (alloc_ext _ _))
  have VD1 := Lib.hid (VD1.out.toExt xw)
  have BA : Hid (BoxAt W2 (w2.heap.size + 1) #[.string s, .slice AX xs.length cx]) := Lib.hid (by rw [hW.out]; exact box_second)
  have VX := Lib.hid (VX.out.toExt xw)
  have xx := trans_ext Hx2.out xw
  have HX := Lib.hid (trans_ext HX.out xx)
  clear hW xw xx
  obtain ⟨lD, kD0, fD⟩ := bx1 BD.out
  obtain ⟨lA, kA0, kA1, fA⟩ := bx2 BA.out
  go_wp2_with fail
  refine (AtomBindings_x hdw.out VD1.out hxl VX.out).mono ?_
  rw [HREL.out]
  rintro e w4 ⟨u0, u1, F4, rfl, hx4, hS4, _, _⟩
  obtain ⟨A5, a5, rfl, rfl, _⟩ := sRel_form hS4
  have VR5 := Lib.hid (sRel_v _ _ _ hS4)
  have Hx4 := Lib.hid hx4
  clear hx4 hS4
  go_upto_region 5 with fail
  refine wp_name ?_
  intro W4 hW
  have xw : ∃ y, W4 = ext w4 y := by rw [hW.out]; exact (by refine x'z ?_; repeat (with_reducible (first | apply x'a | apply x'b | exact x'c (by assumption) | refine x'd ?_ (by assumption) | apply x'e | apply x'f | apply x'g | apply x'h | apply x'i | apply x'j | apply x'k | apply x'l | apply x'm | assumption | (refine x'n ?_; omega) | omega)))
  have B5 : Hid (BoxAt W4 w4.heap.size #[.int .i64 rel.1, .slice A5 rel.2.length a5]) := Lib.hid (by rw [hW.out]; exact BoxAt.new _ _ _)
  have VR5 := Lib.hid (VD.toExt VR5.out xw)
  have xx := trans_ext Hx4.out xw
  have BD := Lib.hid (BD.out.toExt xx)
  have BA := Lib.hid (BA.out.toExt xx)
  have VD1 := Lib.hid (VD1.out.toExt xx)
  have VX := Lib.hid (VX.out.toExt xx)
  have HX := Lib.hid (trans_ext HX.out xx)
  clear hW xw xx lD kD0 fD lA kA0 kA1 fA
  obtain ⟨lD, kD0, fD⟩ := bx1 BD.out
  obtain ⟨lA, kA0, kA1, fA⟩ := bx2 BA.out
  obtain ⟨l5, k50, k51, f5⟩ := bx2 B5.out
  go_wp2_with fail
  refine (AtomVariables_any hxl VX.out).mono ?_
  rw [HVS.out]
  rintro e w6 ⟨v6, F6, rfl, hx6, hS6, _⟩
  obtain ⟨A6, a6, rfl, ha6, hm6, hr6⟩ := hS6.view sI_v
  clear hS6
  have BD := Lib.hid (BD.out.toExt hx6)
  have BA := Lib.hid (BA.out.toExt hx6)
  have B5 := Lib.hid (B5.out.toExt hx6)
  have VD1 := Lib.hid (VD1.out.toExt hx6)
  have VX := Lib.hid (VX.out.toExt hx6)
  have VR5 := Lib.hid (VD.toExt VR5.out hx6)
  have HX := Lib.hid (trans_ext HX.out hx6)
  clear hx6 lD kD0 fD lA kA0 kA1 fA l5 k50 k51 f5
  obtain ⟨lD, kD0, fD⟩ := bx1 BD.out
  obtain ⟨lA, kA0, kA1, fA⟩ := bx2 BA.out
  obtain ⟨l5, k50, k51, f5⟩ := bx2 B5.out
  have V6 := Lib.hid hr6
  clear hr6
  go_wp2_with fail
  refine (AtomRelation_x hdw.out VD1.out hxl VX.out).mono ?_
  rw [HVR.out]
  rintro e w7 ⟨u0, u1, u2, F7, rfl, hx7, hS7, _, _⟩
  obtain ⟨A71, a71, A72, a72, rfl, rfl, rfl⟩ := sVR_form hS7
  obtain ⟨hv71, hv72, _⟩ := vVR_get (sVR_v _ _ _ hS7)
  have V71 := Lib.hid hv71
  have V72 := Lib.hid hv72
  have Hx7 := Lib.hid hx7
  clear hx7 hS7 hv71 hv72
  go_upto_region 7 with fail
  refine wp_name ?_
  intro W7 hW
  have xw : ∃ y, W7 = ext w7 y := by rw [hW.out]; exact (by refine x'z ?_; repeat (with_reducible (first | apply x'a | apply x'b | exact x'c (by assumption) | refine x'd ?_ (by assumption) | apply x'e | apply x'f | apply x'g | apply x'h | apply x'i | apply x'j | apply x'k | apply x'l | apply x'm | assumption | (refine x'n ?_; omega) | omega)))
  have B7 : Hid (BoxAt W7 w7.heap.size #[.slice A71 vs.length a71, .int .i64 rel.1, .slice A72 rel.2.length a72]) := Lib.hid (by rw [hW.out]; exact BoxAt.new _ _ _)
  have V71 := Lib.hid (V71.out.toExt xw)
  have V72 := Lib.hid (VD.toExt V72.out xw)
  have xx := trans_ext Hx7.out xw
  have BD := Lib.hid (BD.out.toExt xx)
  have BA := Lib.hid (BA.out.toExt xx)
  have B5 := Lib.hid (B5.out.toExt xx)
  have VD1 := Lib.hid (VD1.out.toExt xx)
  have VX := Lib.hid (VX.out.toExt xx)
  have VR5 := Lib.hid (VD.toExt VR5.out xx)
  have V6 := Lib.hid (V6.out.toExt xx)
  have HX := Lib.hid (trans_ext HX.out xx)
  clear hW xw xx lD kD0 fD lA kA0 kA1 fA l5 k50 k51 f5
  obtain ⟨lD, kD0, fD⟩ := bx1 BD.out
  obtain ⟨lA, kA0, kA1, fA⟩ := bx2 BA.out
  obtain ⟨l5, k50, k51, f5⟩ := bx2 B5.out
  obtain ⟨l7, k70, k71, k72, f7⟩ := box3 B7.out
  go_cut [52] (fun v wx => v = .bool false ∧ ∃ y, wx = ext W7 y)
  case first =>
    go_region_held3 (fun w' => (∀ a : Addr, a.block < W7.heap.size → w'.cell? a = W7.cell? a) ∧ ∃ y, w' = ext W7 y) (first | exact heldE (by refine x'z ?_; repeat (with_reducible (first | apply x'a | apply x'b | exact x'c (by assumption) | refine x'd ?_ (by assumption) | apply x'e | apply x'f | apply x'g | apply x'h | apply x'i | apply x'j | apply x'k | apply x'l | apply x'm | assumption | (refine x'n ?_; omega) | omega)))) (first
      | (go_at_call 69; refine (specAtomVariables_any hxl (VX.out.toExt (by refine x'z ?_; repeat (with_reducible (first | apply x'a | apply x'b | exact x'c (by assumption) | refine x'd ?_ (by assumption) | apply x'e | apply x'f | apply x'g | apply x'h | apply x'i | apply x'j | apply x'k | apply x'l | apply x'm | assumption | (refine x'n ?_; omega) | omega))))).mono ?_; rw [HVS.out]; rintro e wv ⟨vv, Fv, rfl, hxv, hSv, hFv⟩; obtain ⟨Av, av, rfl, _, _, hrv⟩ := hSv.view sI_v)
      | (go_at_call_of 68 (Av); refine (lawSameInts_any hvl (V6.out.toExt (by refine x'z ?_; repeat (with_reducible (first | apply x'a | apply x'b | exact x'c (by assumption) | refine x'd ?_ (by assumption) | apply x'e | apply x'f | apply x'g | apply x'h | apply x'i | apply x'j | apply x'k | apply x'l | apply x'm | assumption | (refine x'n ?_; omega) | omega)))) hvl (hrv.toExt (by refine x'z ?_; repeat (with_reducible (first | apply x'a | apply x'b | exact x'c (by assumption) | refine x'd ?_ (by assumption) | apply x'e | apply x'f | apply x'g | apply x'h | apply x'i | apply x'j | apply x'k | apply x'l | apply x'm | assumption | (refine x'n ?_; omega) | omega))))).mono ?_; rintro e ws ⟨rfl, hxs⟩; rw [decide_eq_true rfl])
      | (go_at_call_of 68 (A71); refine (lawSameInts_any hvl (V71.out.toExt (by refine x'z ?_; repeat (with_reducible (first | apply x'a | apply x'b | exact x'c (by assumption) | refine x'd ?_ (by assumption) | apply x'e | apply x'f | apply x'g | apply x'h | apply x'i | apply x'j | apply x'k | apply x'l | apply x'm | assumption | (refine x'n ?_; omega) | omega)))) hvl (V6.out.toExt (by refine x'z ?_; repeat (with_reducible (first | apply x'a | apply x'b | exact x'c (by assumption) | refine x'd ?_ (by assumption) | apply x'e | apply x'f | apply x'g | apply x'h | apply x'i | apply x'j | apply x'k | apply x'l | apply x'm | assumption | (refine x'n ?_; omega) | omega))))).mono ?_; rintro e wu ⟨rfl, hxu⟩; rw [decide_eq_true rfl])
      | (go_at_call 70; refine (specAtomBindings_x hdw.out (VD1.out.toExt (by refine x'z ?_; repeat (with_reducible (first | apply x'a | apply x'b | exact x'c (by assumption) | refine x'd ?_ (by assumption) | apply x'e | apply x'f | apply x'g | apply x'h | apply x'i | apply x'j | apply x'k | apply x'l | apply x'm | assumption | (refine x'n ?_; omega) | omega)))) hxl (VX.out.toExt (by refine x'z ?_; repeat (with_reducible (first | apply x'a | apply x'b | exact x'c (by assumption) | refine x'd ?_ (by assumption) | apply x'e | apply x'f | apply x'g | apply x'h | apply x'i | apply x'j | apply x'k | apply x'l | apply x'm | assumption | (refine x'n ?_; omega) | omega))))).mono ?_; rw [HREL.out]; rintro e wb ⟨u0, u1, Fb, rfl, hxb, hSb, _, _⟩; obtain ⟨Ab, ab, rfl, rfl, _⟩ := sRel_form hSb; have hvb := sRel_v _ _ _ hSb)
      | (go_at_call_of 48 (Ab); refine (specEqualRelations_any hrb (VD.toExt VR5.out (by refine x'z ?_; repeat (with_reducible (first | apply x'a | apply x'b | exact x'c (by assumption) | refine x'd ?_ (by assumption) | apply x'e | apply x'f | apply x'g | apply x'h | apply x'i | apply x'j | apply x'k | apply x'l | apply x'm | assumption | (refine x'n ?_; omega) | omega)))) hrb (VD.toExt hvb (by refine x'z ?_; repeat (with_reducible (first | apply x'a | apply x'b | exact x'c (by assumption) | refine x'd ?_ (by assumption) | apply x'e | apply x'f | apply x'g | apply x'h | apply x'i | apply x'j | apply x'k | apply x'l | apply x'm | assumption | (refine x'n ?_; omega) | omega))))).mono ?_; rintro e wc1 ⟨rfl, hxc⟩; rw [decide_eq_true rfl])
      | (go_at_call_of 48 (A72); refine (specEqualRelations_any hrb (VD.toExt V72.out (by refine x'z ?_; repeat (with_reducible (first | apply x'a | apply x'b | exact x'c (by assumption) | refine x'd ?_ (by assumption) | apply x'e | apply x'f | apply x'g | apply x'h | apply x'i | apply x'j | apply x'k | apply x'l | apply x'm | assumption | (refine x'n ?_; omega) | omega)))) hrb (VD.toExt VR5.out (by refine x'z ?_; repeat (with_reducible (first | apply x'a | apply x'b | exact x'c (by assumption) | refine x'd ?_ (by assumption) | apply x'e | apply x'f | apply x'g | apply x'h | apply x'i | apply x'j | apply x'k | apply x'l | apply x'm | assumption | (refine x'n ?_; omega) | omega))))).mono ?_; rintro e we ⟨rfl, hxe⟩; rw [decide_eq_true rfl]))
    all_goals
      go_wp2_with fail
      go_meet
      exact ⟨rfl, (by refine x'z ?_; repeat (with_reducible (first | apply x'a | apply x'b | exact x'c (by assumption) | refine x'd ?_ (by assumption) | apply x'e | apply x'f | apply x'g | apply x'h | apply x'i | apply x'j | apply x'k | apply x'l | apply x'm | assumption | (refine x'n ?_; omega) | omega)))⟩
  obtain ⟨rfl, hx8⟩ := hcut
  obtain ⟨W8, rfl⟩ : ∃ W, W = wc := ⟨_, rfl⟩
  have BD := Lib.hid (BD.out.toExt hx8)
  have BA := Lib.hid (BA.out.toExt hx8)
  have B5 := Lib.hid (B5.out.toExt hx8)
  have B7 := Lib.hid (B7.out.toExt hx8)
  have VD1 := Lib.hid (VD1.out.toExt hx8)
  have VX := Lib.hid (VX.out.toExt hx8)
  have VR5 := Lib.hid (VD.toExt VR5.out hx8)
  have V6 := Lib.hid (V6.out.toExt hx8)
  have V71 := Lib.hid (V71.out.toExt hx8)
  have V72 := Lib.hid (VD.toExt V72.out hx8)
  have HX := Lib.hid (trans_ext HX.out hx8)
  clear hx8 lD kD0 fD lA kA0 kA1 fA l5 k50 k51 f5 l7 k70 k71 k72 f7
  obtain ⟨lD, kD0, fD⟩ := bx1 BD.out
  obtain ⟨lA, kA0, kA1, fA⟩ := bx2 BA.out
  obtain ⟨l5, k50, k51, f5⟩ := bx2 B5.out
  obtain ⟨l7, k70, k71, k72, f7⟩ := box3 B7.out
  go_wp2_with fail
  refine (specLookupRelation_any (name := s) hdw.out VD1.out).mono ?_
  rw [HLK.out]
  rintro e w9 ⟨u0, u1, F9, rfl, hx9, hS9, _, _⟩
  obtain ⟨A8, a8, rfl, rfl, _⟩ := sRel_form hS9
  have Hx9 := Lib.hid hx9
  clear hx9 hS9
  go_upto_region 10 with fail
  refine wp_name ?_
  intro W9 hW
  have xw : ∃ y, W9 = ext w9 y := by rw [hW.out]; exact (by refine x'z ?_; repeat (with_reducible (first | apply x'a | apply x'b | exact x'c (by assumption) | refine x'd ?_ (by assumption) | apply x'e | apply x'f | apply x'g | apply x'h | apply x'i | apply x'j | apply x'k | apply x'l | apply x'm | assumption | (refine x'n ?_; omega) | omega)))
  have B8 : Hid (BoxAt W9 w9.heap.size #[.int .i64 (lk.getD (0, [])).1, .slice A8 (lk.getD (0, [])).2.length a8]) := Lib.hid (by rw [hW.out]; exact BoxAt.new _ _ _)
  have xx := trans_ext Hx9.out xw
  have BD := Lib.hid (BD.out.toExt xx)
  have BA := Lib.hid (BA.out.toExt xx)
  have B5 := Lib.hid (B5.out.toExt xx)
  have B7 := Lib.hid (B7.out.toExt xx)
  have VD1 := Lib.hid (VD1.out.toExt xx)
  have VX := Lib.hid (VX.out.toExt xx)
  have VR5 := Lib.hid (VD.toExt VR5.out xx)
  have V6 := Lib.hid (V6.out.toExt xx)
  have V71 := Lib.hid (V71.out.toExt xx)
  have V72 := Lib.hid (VD.toExt V72.out xx)
  have HX := Lib.hid (trans_ext HX.out xx)
  clear hW xw xx lD kD0 fD lA kA0 kA1 fA l5 k50 k51 f5 l7 k70 k71 k72 f7
  obtain ⟨lD, kD0, fD⟩ := bx1 BD.out
  obtain ⟨lA, kA0, kA1, fA⟩ := bx2 BA.out
  obtain ⟨l5, k50, k51, f5⟩ := bx2 B5.out
  obtain ⟨l7, k70, k71, k72, f7⟩ := box3 B7.out
  obtain ⟨l8, k80, k81, f8⟩ := bx2 B8.out
  obtain ⟨n8, hn8⟩ : ∃ n, (lk.getD (0, [])).2.length = n := ⟨_, rfl⟩
  obtain ⟨z8, hz8⟩ : ∃ n, (lk.getD (0, [])).1 = n := ⟨_, rfl⟩
  obtain ⟨i8, hi8⟩ : ∃ n, lk.isSome = n := ⟨_, rfl⟩
  rw [hn8, hz8] at B8
  rw [hn8] at k81
  rw [hz8] at k80
  rw [hi8]
  have f1 := HF1.out
  have f2 := HF2.out
  rw [hn8] at f1
  rw [hi8] at f2
  have HF1 := Lib.hid f1
  have HF2 := Lib.hid f2
  clear hn8 hz8 hi8 f1 f2
  go_wp2_with fail
  clear lD kD0 fD lA kA0 kA1 fA l5 k50 k51 f5 l7 k70 k71 k72 f7 l8 k80 k81 f8
  go_loopw [10] (fun i wr => ∃ k : Nat, i = .int .i64 k ∧ k ≤ vs.length ∧ ∃ y, wr = ext W9 y) (fun i _ => vs.length - (intOf i).toNat)
  case atStart => exact ⟨0, rfl, by omega, refl_ext W9⟩
  case round =>
    obtain ⟨k, rfl, hk, hy⟩ := hrel
    by_cases hlt : k < vs.length
    · obtain ⟨lA, kA0, kA1, fA⟩ := bx2 (BA.out.toExt hy)
      have h6 := V6.out.toExt hy
      obtain ⟨b6, o6, rfl, hb6, hc6⟩ := h6.atI hlt
      have hmem := (HMV.out _ (List.getElem_mem hlt)).2.2
      have hle : 0 < k → ∃ z, wr.cell? ⟨b6, o6 + (k - 1), none⟩ = some (.int .i64 z) ∧ z < vs[k] := fun h0 => by
        obtain ⟨b, o, e, _, hc⟩ := h6.atI (show k - 1 < vs.length by omega)
        injection e with e
        injection e with e1 e2
        subst e1 e2
        exact ⟨_, hc, List.pairwise_iff_getElem.1 HASC.out (k - 1) k (by omega) hlt (by omega)⟩
      obtain ⟨v, hv⟩ : ∃ v, vs[k] = v := ⟨_, rfl⟩
      rw [hv] at hc6 hmem hle
      have HM := Lib.hid (show decide (v ∈ xs) = true from decide_eq_true hmem)
      have HXA := Lib.hid (VX.out.toExt hy)
      clear hv hmem h6
      by_cases h0 : 0 < k
      · obtain ⟨z, hcz, hz⟩ := hle h0
        have q0 : (0 : Int) < (k : Int) := by omega
        have q1 : ¬ v ≤ z := by omega
        have s2 : ((k : Int) - 1).toNat = k - 1 := by omega
        have s3 : IntKind.i64.wrap ((k : Int) - 1) = (k : Int) - 1 := by rw [IntKind.wrap_i64]; omega
        have s4 : (0 : Int) ≤ (k : Int) - 1 := by omega
        have s5 : (k : Int) - 1 < (vs.length : Int) := by omega
        clear hle
        go_wp2_with fail
        refine wp_region_ext (by kernel_rfl) (by kernel_rfl) ?_
        repeat (go_big_quiet_step (first
          | (go_at_call 72; exact quietEb (Contains_any hxl (HXA.out.toExt ⟨_, rfl⟩)) HM.out)))
        refine wpQuiet_nil ?_
        rintro _ ⟨zz, rfl⟩
        go_wp2_with fail
        exact ⟨⟨k + 1, by go_num, by omega, trans_ext hy ⟨zz, rfl⟩⟩, by simp [intOf]; omega⟩
      · have q0 : ¬ (0 : Int) < (k : Int) := by omega
        clear hle
        go_wp2_with fail
        refine wp_region_ext (by kernel_rfl) (by kernel_rfl) ?_
        repeat (go_big_quiet_step (first
          | (go_at_call 72; exact quietEb (Contains_any hxl (HXA.out.toExt ⟨_, rfl⟩)) HM.out)))
        refine wpQuiet_nil ?_
        rintro _ ⟨zz, rfl⟩
        go_wp2_with fail
        exact ⟨⟨k + 1, by go_num, by omega, trans_ext hy ⟨zz, rfl⟩⟩, by simp [intOf]; omega⟩
    · have f1 := HF1.out
      have f2 := HF2.out
      obtain ⟨l5, k50, k51, f5⟩ := bx2 (B5.out.toExt hy)
      obtain ⟨l8, k80, k81, f8⟩ := bx2 (B8.out.toExt hy)
      have q1 : (rel.2.length : Int) ≤ (n8 : Int) := by omega
      cases i8 with
      | false =>
        have q2 : ((rel.2.length : Int) == 0) = true := by rw [f2 rfl]; rfl
        go_wp2_with fail
        go_ret
        exact ⟨by simp, trans_ext HX.out hy⟩
      | true =>
        go_wp2_with fail
        go_ret
        exact ⟨by simp, trans_ext HX.out hy⟩

theorem law_AB (A : Option Addr) (c : Nat) (bs : List UInt8) (w : World) (hl : bs.length ≤ 9223372036854775807) (h1 : RU w A bs) : Calls Try.prog 11 #[.slice A bs.length c] w fun e w' => e = .returned (.bool true) ∧ ∃ y, w' = ext w y := by
  by_cases hb : 1048576 < bs.length
  · exact law_AB_big A c bs w hb hl
  · exact law_AB_m A c bs w (by omega) h1

set_option maxRecDepth 100000 in
theorem lifted_FnAtomBindings (os : Os) (started : os.Started) (H : Type) (enc : TypeId × Value → H) :
    ReturnsInHanded {} Try.checked os 11 .any (Rows.fnAtomBindingsSpec.pre6 enc Try.prog Try.f11 Rows.fnAtomBindingsRow.domain false) (Rows.fnAtomBindingsSpec.post enc Try.prog Try.f11 false true false false) := by
  refine returnsInHanded_of_change (C := Try.checked) Try.own started (by kernel_rfl) Try.func11 (ChangeSpec.witness6 (enc := enc) (C := Try.checked) false ⟨#[], #[.slice none 0 0], []⟩ 8 (by kernel_rfl) (by kernel_rfl) (by kernel_rfl) (by kernel_rfl)) ?_
  intro W base args ds gs before hval0 hW hcnd _
  have hval : ∀ (j : Nat) t v, Try.f11.params[j]? = some t → args[j]? = some v → Value.okWide Try.prog W .any base t v := hval0
  clear hval0 hcnd
  obtain ⟨_, _, hA0, hV0, _, _, _⟩ := id hW
  have hA : DataW.TrodAll enc Try.prog W 0 (fun _ => true) true Try.f11.params.toList args.toList ds _ := hA0
  clear hA0
  rw [Try.params11] at hA hval
  obtain ⟨v0, d0, rfl, rfl, h0⟩ := trodAll_one hA
  obtain ⟨x0, ⟨A0, c0, hc0, r0⟩, l0, _⟩ := openArg oBytes h0
  obtain rfl := one1 hc0 (okWide_slice Try.underlying62 (hval 0 _ v0 rfl rfl))
  refine (law_AB A0 _ x0 W (le_maxLen l0) r0).mono fun e W' ⟨he, hw⟩ => ?_
  exact ⟨_, he, law_post Try.laidOut hW rfl rfl rfl Try.underlying4 (by kernel_rfl) hw⟩

theorem fnAtomBindings_and {a b : Bool} (ha : a = true) (hb : b = true) : (a && b) = true := by rw [ha, hb]; rfl
set_option maxHeartbeats 16000000 in
theorem fnAtomBindings_closed : joinedFacts Try.checked.prog 11 Try.f11 Rows.fnAtomBindingsSpec Rows.fnAtomBindingsRow = true := by
  unfold joinedFacts
  repeat' (with_reducible refine fnAtomBindings_and ?_ ?_)
  all_goals (as_aux_lemma => kernel_rfl)
theorem fnAtomBindings_holds : Rows.FnAtomBindingsSaid :=
  OpenClaim.holds_of_wide 11 Try.f11 rfl rfl rfl rfl rfl rfl rfl ⟨rfl, rfl, rfl, rfl, rfl⟩ rfl rfl rfl rfl rfl (by kernel_rfl) Try.func11 fnAtomBindings_closed
    (of_decide_eq_true (by kernel_rfl)) (by unfold Func.isWrapper; rw [if_neg (of_decide_eq_false (by kernel_rfl))]; exact ⟨rfl, rfl⟩)
    (fun os started H enc _ => lifted_FnAtomBindings os started H enc)

end Go.Proofs.Ytfigcfajkilhiaa
