/- A database and a query drawn from any bytes: the answers are the projection of the bindings to the output variables. -/
import Derived.Test.YtfigcfajkilhiaaXFnScal1
import Derived.Test.YtfigcfajkilhiaaE06
import Derived.Test.YtfigcfajkilhiaaE09
import Derived.Test.YtfigcfajkilhiaaE02
namespace Go.Proofs.Ytfigcfajkilhiaa
open Go.ChangeShapes Go.WideShapes Go.ChangeAt Go.RowKit

set_option maxHeartbeats 2000000 in
theorem law_RE_big (A : Option Addr) (c : Nat) (bs : List UInt8) (w : World) (hb : 1048576 < bs.length) (hl : bs.length ≤ 9223372036854775807) : Calls Try.prog 13 #[.slice A bs.length c] w fun e w' => e = .returned (.bool true) ∧ ∃ y, w' = ext w y := by
  go_enter Try.func13, Try.ntmps13
  go_wp2_with fail
  refine (lawBig_any hl).mono ?_
  rintro e w1 ⟨rfl, hx1⟩
  rw [decide_eq_true hb]
  go_wp2_with fail
  go_ret
  exact ⟨rfl, hx1⟩

set_option maxRecDepth 100000 in
set_option maxHeartbeats 16000000 in
theorem law_RE_m (A : Option Addr) (c : Nat) (bs : List UInt8) (w : World) (hb : bs.length ≤ 1048576) (h1 : RU w A bs) : Calls Try.prog 13 #[.slice A bs.length c] w fun e w' => e = .returned (.bool true) ∧ ∃ y, w' = ext w y := by
  have HU := Lib.hid h1
  clear h1
  go_enter Try.func13, Try.ntmps13
  go_wp2_with fail
  refine (lawBig_any (by omega)).mono ?_
  rintro e w1 ⟨rfl, hx1⟩
  rw [decide_eq_false (show ¬ 1048576 < bs.length by omega)]
  have HX := Lib.hid hx1
  clear hx1
  go_wp2_with fail
  refine (DrawEvaluateQuery_any hb (HU.out.toExt HX.out)).mono ?_
  rintro e w2 ⟨A2, c2, d, B2, b2, C2, c3, q, rfl, hvd, hvq, hcap, hD, hQ, hx2⟩
  have VD1 := Lib.hid hvd
  have VQ1 := Lib.hid hvq
  have hdw := Lib.hid hD.w
  have hqb := Lib.hid hQ.b
  have hfd := Lib.hid hD.few
  have hfq := Lib.hid hQ.f
  have Hx2 := Lib.hid hx2
  have hgl : q.2.2.length ≤ 1000000000 := by have := hQ.o; omega
  have hi64 : I64 q.1 := hQ.b.1
  clear hvd hvq hcap hD hQ hx2
  go_upto_region 4 with fail
  refine wp_name ?_
  intro W2 hW
  have xw : ∃ y, W2 = ext w2 y := by rw [hW.out]; exact (by refine x'z ?_; repeat (with_reducible (first | apply x'a | apply x'b | exact x'c (by assumption) | refine x'd ?_ (by assumption) | apply x'e | apply x'f | apply x'g | apply x'h | apply x'i | apply x'j | apply x'k | apply x'l | apply x'm | assumption | (refine x'n ?_; omega) | omega)))
  have BD : Hid (BoxAt W2 w2.heap.size #[.slice A2 d.length c2]) := Lib.hid (by rw [hW.out]; exact (BoxAt.new _ _ _).toExt (alloc_ext _ _))
  have VD1 := Lib.hid (VD1.out.toExt xw)
  have BQ : Hid (BoxAt W2 (w2.heap.size + 1) #[.int .i64 q.1, .slice B2 q.2.1.length b2, .slice C2 q.2.2.length c3]) := Lib.hid (by rw [hW.out]; exact box_second)
  have VQ1 := Lib.hid (VD.toExt VQ1.out xw)
  have xx := trans_ext Hx2.out xw
  have HX := Lib.hid (trans_ext HX.out xx)
  clear hW xw xx
  obtain ⟨lD, kD0, fD⟩ := bx1 BD.out
  obtain ⟨lQ, kQ0, kQ1, kQ2, fQ⟩ := box3 BQ.out
  obtain ⟨t, ht⟩ : ∃ t, iqfB d q = t := ⟨_, rfl⟩
  have HT := Lib.hid ht
  clear ht
  cases t with
  | false =>
    have HE := Lib.hid (eval_none HT.out)
    go_wp2_with fail
    refine (EvaluateQuery_any hdw.out VD1.out hqb.out VQ1.out).mono ?_
    rw [HE.out]
    rintro e w4 ⟨u0, u1, F4, rfl, hx4, hS4, _, _⟩
    obtain ⟨A4, a4, rfl, rfl, _⟩ := sRel_form hS4
    rw [Option.isSome_none, Option.getD_none]
    have Hx4 := Lib.hid hx4
    clear hx4 hS4
    go_upto_region 5 with fail
    refine wp_name ?_
    intro W4 hW
    have xw : ∃ y, W4 = ext w4 y := by rw [hW.out]; exact (by refine x'z ?_; repeat (with_reducible (first | apply x'a | apply x'b | exact x'c (by assumption) | refine x'd ?_ (by assumption) | apply x'e | apply x'f | apply x'g | apply x'h | apply x'i | apply x'j | apply x'k | apply x'l | apply x'm | assumption | (refine x'n ?_; omega) | omega)))
    have B4 : Hid (BoxAt W4 w4.heap.size #[.int .i64 0, .slice A4 0 a4]) := Lib.hid (by rw [hW.out]; exact BoxAt.new _ _ _)
    have xx := trans_ext Hx4.out xw
    have BD := Lib.hid (BD.out.toExt xx)
    have BQ := Lib.hid (BQ.out.toExt xx)
    have VD1 := Lib.hid (VD1.out.toExt xx)
    have VQ1 := Lib.hid (VD.toExt VQ1.out xx)
    have HX := Lib.hid (trans_ext HX.out xx)
    clear hW xw xx lD kD0 fD lQ kQ0 kQ1 kQ2 fQ
    obtain ⟨lD, kD0, fD⟩ := bx1 BD.out
    obtain ⟨lQ, kQ0, kQ1, kQ2, fQ⟩ := box3 BQ.out
    obtain ⟨l4, k40, k41, f4⟩ := bx2 B4.out
    go_wp2_with fail
    refine (specIsQueryFor_any hdw.out VD1.out hqb.out VQ1.out).mono ?_
    rintro e w5 ⟨rfl, hx5⟩
    rw [HT.out]
    go_wp2_with fail
    go_ret
    exact ⟨rfl, trans_ext HX.out hx5⟩
  | true =>
    obtain ⟨k1, k2, k3⟩ := bind_few HT.out hfd.out (hfq.out (iqf_vq HT.out))
    obtain ⟨p, k4, k5, hpb⟩ := eval_few HT.out hfd.out (hfq.out (iqf_vq HT.out))
    have HK1 := Lib.hid k1
    have HK4 := Lib.hid k4
    have HK5 := Lib.hid k5
    have HAL := Lib.hid (fun (x : List Int) (hx : x ∈ allB d q) => show x.length ≤ 1000000000 by have := (allB_rows HT.out x hx).2; omega)
    obtain ⟨al, hal⟩ : ∃ l, allB d q = l := ⟨_, rfl⟩
    rw [hal] at HK1 HK4 HAL k2
    have hal9 : al.length ≤ 1000000000 := by omega
    clear k1 k2 k3 k4 k5 hal
    go_wp2_with fail
    refine (EvaluateQuery_any hdw.out VD1.out hqb.out VQ1.out).mono ?_
    rw [HK5.out]
    rintro e w4 ⟨u0, u1, F4, rfl, hx4, hS4, _, _⟩
    rw [Option.getD_some] at hS4
    obtain ⟨A4, a4, rfl, rfl, _⟩ := sRel_form hS4
    rw [Option.isSome_some]
    have VR4 := Lib.hid (sRel_v _ _ _ hS4)
    have Hx4 := Lib.hid hx4
    clear hx4 hS4
    go_upto_region 5 with fail
    refine wp_name ?_
    intro W4 hW
    have xw : ∃ y, W4 = ext w4 y := by rw [hW.out]; exact (by refine x'z ?_; repeat (with_reducible (first | apply x'a | apply x'b | exact x'c (by assumption) | refine x'd ?_ (by assumption) | apply x'e | apply x'f | apply x'g | apply x'h | apply x'i | apply x'j | apply x'k | apply x'l | apply x'm | assumption | (refine x'n ?_; omega) | omega)))
    have B4 : Hid (BoxAt W4 w4.heap.size #[.int .i64 p.1, .slice A4 p.2.length a4]) := Lib.hid (by rw [hW.out]; exact BoxAt.new _ _ _)
    have VR4 := Lib.hid (VD.toExt VR4.out xw)
    have xx := trans_ext Hx4.out xw
    have BD := Lib.hid (BD.out.toExt xx)
    have BQ := Lib.hid (BQ.out.toExt xx)
    have VD1 := Lib.hid (VD1.out.toExt xx)
    have VQ1 := Lib.hid (VD.toExt VQ1.out xx)
    have HX := Lib.hid (trans_ext HX.out xx)
    clear hW xw xx lD kD0 fD lQ kQ0 kQ1 kQ2 fQ
    obtain ⟨lD, kD0, fD⟩ := bx1 BD.out
    obtain ⟨lQ, kQ0, kQ1, kQ2, fQ⟩ := box3 BQ.out
    obtain ⟨l4, k40, k41, f4⟩ := bx2 B4.out
    go_wp2_with fail
    refine (specIsQueryFor_any hdw.out VD1.out hqb.out VQ1.out).mono ?_
    rintro e w5 ⟨rfl, hx5⟩
    rw [HT.out]
    have BD := Lib.hid (BD.out.toExt hx5)
    have BQ := Lib.hid (BQ.out.toExt hx5)
    have B4 := Lib.hid (B4.out.toExt hx5)
    have VD1 := Lib.hid (VD1.out.toExt hx5)
    have VQ1 := Lib.hid (VD.toExt VQ1.out hx5)
    have VR4 := Lib.hid (VD.toExt VR4.out hx5)
    have HX := Lib.hid (trans_ext HX.out hx5)
    clear hx5 lD kD0 fD lQ kQ0 kQ1 kQ2 fQ l4 k40 k41 f4
    obtain ⟨lD, kD0, fD⟩ := bx1 BD.out
    obtain ⟨lQ, kQ0, kQ1, kQ2, fQ⟩ := box3 BQ.out
    obtain ⟨l4, k40, k41, f4⟩ := bx2 B4.out
    go_upto_region 7 with fail
    refine wp_name ?_
    intro W6 hW
    have xw : ∃ y, W6 = ext w5 y := by rw [hW.out]; exact (by refine x'z ?_; repeat (with_reducible (first | apply x'a | apply x'b | exact x'c (by assumption) | refine x'd ?_ (by assumption) | apply x'e | apply x'f | apply x'g | apply x'h | apply x'i | apply x'j | apply x'k | apply x'l | apply x'm | assumption | (refine x'n ?_; omega) | omega)))
    have BD := Lib.hid (BD.out.toExt xw)
    have BQ := Lib.hid (BQ.out.toExt xw)
    have B4 := Lib.hid (B4.out.toExt xw)
    have VD1 := Lib.hid (VD1.out.toExt xw)
    have VQ1 := Lib.hid (VD.toExt VQ1.out xw)
    have VR4 := Lib.hid (VD.toExt VR4.out xw)
    have HX := Lib.hid (trans_ext HX.out xw)
    clear hW xw lD kD0 fD lQ kQ0 kQ1 kQ2 fQ l4 k40 k41 f4
    obtain ⟨lD, kD0, fD⟩ := bx1 BD.out
    obtain ⟨lQ, kQ0, kQ1, kQ2, fQ⟩ := box3 BQ.out
    obtain ⟨l4, k40, k41, f4⟩ := bx2 B4.out
    have hvo := (vQ_get VQ1.out).2.1
    have HG := Lib.hid hvo
    clear hvo
    go_cut [7, 8] (fun vA vB wx => ∃ b A7 a7, vA = .pointer (some ⟨b, 0, none⟩) ∧ vB = .bool true ∧ BoxAt wx b #[.int .i64 p.1, .slice A7 p.2.length a7] ∧ vRel wx [.int .i64 p.1, .slice A7 p.2.length a7] p ∧ ∃ y, wx = ext W6 y)
    case first =>
      go_region_held3 (fun w' => (∀ a : Addr, a.block < W6.heap.size → w'.cell? a = W6.cell? a) ∧ ∃ y, w' = ext W6 y) (first | exact heldE (by refine x'z ?_; repeat (with_reducible (first | apply x'a | apply x'b | exact x'c (by assumption) | refine x'd ?_ (by assumption) | apply x'e | apply x'f | apply x'g | apply x'h | apply x'i | apply x'j | apply x'k | apply x'l | apply x'm | assumption | (refine x'n ?_; omega) | omega)))) (first
        | (go_at_call 33; refine (AllBindings_any hdw.out (VD1.out.toExt (by refine x'z ?_; repeat (with_reducible (first | apply x'a | apply x'b | exact x'c (by assumption) | refine x'd ?_ (by assumption) | apply x'e | apply x'f | apply x'g | apply x'h | apply x'i | apply x'j | apply x'k | apply x'l | apply x'm | assumption | (refine x'n ?_; omega) | omega)))) hqb.out (VD.toExt VQ1.out (by refine x'z ?_; repeat (with_reducible (first | apply x'a | apply x'b | exact x'c (by assumption) | refine x'd ?_ (by assumption) | apply x'e | apply x'f | apply x'g | apply x'h | apply x'i | apply x'j | apply x'k | apply x'l | apply x'm | assumption | (refine x'n ?_; omega) | omega))))).mono ?_; rw [HK1.out, Option.getD_some]; rintro e w7 ⟨u0, u1, F7, rfl, hx7, hS7, _, _⟩; obtain ⟨A71, a71, rfl, rfl, hI7⟩ := sRel_form hS7; have hrv := (vII_get (sII_v _ _ _ hI7)).2; have hz7 : W6.heap.size ≤ w7.heap.size := size_of_ext (by refine x'z ?_; repeat (with_reducible (first | apply x'a | apply x'b | exact x'c (by assumption) | refine x'd ?_ (by assumption) | apply x'e | apply x'f | apply x'g | apply x'h | apply x'i | apply x'j | apply x'k | apply x'l | apply x'm | assumption | (refine x'n ?_; omega) | omega))); (first | (have L5 : BoxAt w7 W6.heap.size #[.int .i64 0, .slice none 0 0] := BoxAt.toExt (BoxAt.new W6 _ _) hx7; obtain ⟨z1, z2, z3, z4⟩ := bx2 L5) | (have L5 : BoxAt w7 W6.heap.size #[.int .i64 0, .slice none 0 0] := BoxAt.toExt (BoxAt.new W6.drew _ _) hx7; obtain ⟨z1, z2, z3, z4⟩ := bx2 L5) | (have L5 : BoxAt w7 W6.heap.size #[.int .i64 0, .slice none 0 0] := BoxAt.toExt (BoxAt.new W6 _ _).drew hx7; obtain ⟨z1, z2, z3, z4⟩ := bx2 L5) | skip))
        | (go_at_call 80; refine (Project_any hi64 hal9 HAL.out (hrv.toExt (by refine x'z ?_; repeat (with_reducible (first | apply x'a | apply x'b | exact x'c (by assumption) | refine x'd ?_ (by assumption) | apply x'e | apply x'f | apply x'g | apply x'h | apply x'i | apply x'j | apply x'k | apply x'l | apply x'm | assumption | (refine x'n ?_; omega) | omega)))) hgl (HG.out.toExt (by refine x'z ?_; repeat (with_reducible (first | apply x'a | apply x'b | exact x'c (by assumption) | refine x'd ?_ (by assumption) | apply x'e | apply x'f | apply x'g | apply x'h | apply x'i | apply x'j | apply x'k | apply x'l | apply x'm | assumption | (refine x'n ?_; omega) | omega))))).mono ?_; rw [HK4.out]; rintro e w8 ⟨u0, u1, F8, rfl, hx8, hS8, _, hF8⟩; have hG8 : ∀ x ∈ F8, w7.heap.size ≤ x := (fun x hx => Nat.le_trans (size_of_ext (by refine x'z ?_; repeat (with_reducible (first | apply x'a | apply x'b | exact x'c (by assumption) | refine x'd ?_ (by assumption) | apply x'e | apply x'f | apply x'g | apply x'h | apply x'i | apply x'j | apply x'k | apply x'l | apply x'm | assumption | (refine x'n ?_; omega) | omega)))) (hF8 x hx)); rw [Option.getD_some] at hS8; obtain ⟨A8, a8, rfl, rfl, _⟩ := sRel_form hS8; have hz8 : w7.heap.size ≤ w8.heap.size := size_of_ext (by refine x'z ?_; repeat (with_reducible (first | apply x'a | apply x'b | exact x'c (by assumption) | refine x'd ?_ (by assumption) | apply x'e | apply x'f | apply x'g | apply x'h | apply x'i | apply x'j | apply x'k | apply x'l | apply x'm | assumption | (refine x'n ?_; omega) | omega))); (first | (have L3 : BoxAt w8 W6.heap.size #[.int .i64 0, .slice none 0 0] := BoxAt.toExt L5 hx8; obtain ⟨z1, z2, z3, z4⟩ := bx2 L3) | skip); (first | (have M3 : BoxAt w8 w7.heap.size #[.int .i64 0, .slice none 0 0] := BoxAt.toExt (BoxAt.new w7 _ _) hx8; obtain ⟨y1, y2, y3, y4⟩ := bx2 M3) | (have M3 : BoxAt w8 w7.heap.size #[.int .i64 0, .slice none 0 0] := BoxAt.toExt (BoxAt.new w7.drew _ _) hx8; obtain ⟨y1, y2, y3, y4⟩ := bx2 M3) | (have M3 : BoxAt w8 w7.heap.size #[.int .i64 0, .slice none 0 0] := BoxAt.toExt (BoxAt.new w7 _ _).drew hx8; obtain ⟨y1, y2, y3, y4⟩ := bx2 M3) | skip)))
      all_goals
        go_wp2_with fail
        go_meet
        have hdr : W6.drew.heap.size = W6.heap.size := rfl
        first
          | exact ⟨w8.heap.size, A8, a8, rfl, rfl, BoxAt.new _ _ _, sRel_v _ _ _ (OD.toExt hS8 (alloc_ext _ _)), (by refine x'z ?_; repeat (with_reducible (first | apply x'a | apply x'b | exact x'c (by assumption) | refine x'd ?_ (by assumption) | apply x'e | apply x'f | apply x'g | apply x'h | apply x'i | apply x'j | apply x'k | apply x'l | apply x'm | assumption | (refine x'n ?_; omega) | omega)))⟩
          | exact ⟨W6.heap.size, A8, a8, rfl, rfl, (by repeat (with_reducible (first | assumption | exact BoxAt.new _ _ _ | apply BoxAt.set2 | refine BoxAt.set2' ?_ (by omega) | apply BoxAt.setP0 | apply BoxAt.setP1 | refine BoxAt.setO ?_ (by omega) | refine BoxAt.alloc ?_ _ | refine BoxAt.drew ?_ | refine BoxAt.toExt ?_ (by assumption)))), sRel_v _ _ _ (OD.chg (G := [W6.heap.size]) hS8 (by repeat (with_reducible (first | exact Chg.refl _ _ | refine Chg.trans0 ?_ (by assumption) | refine Chg.extS ?_ _ | refine Chg.alloc ?_ _ | refine Chg.drew ?_ | refine Chg.setCell ?_ (.inl (by simp)) _))) (fun x hx hm => by have := hG8 x hx; have h9 := L5.1; rw [List.mem_singleton.1 hm] at this; omega)), (by refine x'z ?_; repeat (with_reducible (first | apply x'a | apply x'b | exact x'c (by assumption) | refine x'd ?_ (by assumption) | apply x'e | apply x'f | apply x'g | apply x'h | apply x'i | apply x'j | apply x'k | apply x'l | apply x'm | assumption | (refine x'n ?_; omega) | omega)))⟩
          | exact ⟨w7.heap.size, A8, a8, rfl, rfl, (by repeat (with_reducible (first | assumption | exact BoxAt.new _ _ _ | apply BoxAt.set2 | refine BoxAt.set2' ?_ (by omega) | apply BoxAt.setP0 | apply BoxAt.setP1 | refine BoxAt.setO ?_ (by omega) | refine BoxAt.alloc ?_ _ | refine BoxAt.drew ?_ | refine BoxAt.toExt ?_ (by assumption)))), sRel_v _ _ _ (OD.chg (G := [w7.heap.size]) hS8 (by repeat (with_reducible (first | exact Chg.refl _ _ | refine Chg.trans0 ?_ (by assumption) | refine Chg.extS ?_ _ | refine Chg.alloc ?_ _ | refine Chg.drew ?_ | refine Chg.setCell ?_ (.inl (by simp)) _))) (fun x hx hm => by have := hF8 x hx; rw [World.size_alloc] at this; rw [List.mem_singleton.1 hm] at this; omega)), (by refine x'z ?_; repeat (with_reducible (first | apply x'a | apply x'b | exact x'c (by assumption) | refine x'd ?_ (by assumption) | apply x'e | apply x'f | apply x'g | apply x'h | apply x'i | apply x'j | apply x'k | apply x'l | apply x'm | assumption | (refine x'n ?_; omega) | omega)))⟩
    obtain ⟨b7, A7, a7, rfl, rfl, h7, hv7, hx7⟩ := hcut
    obtain ⟨W7, rfl⟩ : ∃ W, W = wc := ⟨_, rfl⟩
    have B7 := Lib.hid h7
    have VR7 := Lib.hid hv7
    clear h7 hv7
    have BD := Lib.hid (BD.out.toExt hx7)
    have BQ := Lib.hid (BQ.out.toExt hx7)
    have B4 := Lib.hid (B4.out.toExt hx7)
    have VD1 := Lib.hid (VD1.out.toExt hx7)
    have VQ1 := Lib.hid (VD.toExt VQ1.out hx7)
    have VR4 := Lib.hid (VD.toExt VR4.out hx7)
    have HX := Lib.hid (trans_ext HX.out hx7)
    clear hx7 lD kD0 fD lQ kQ0 kQ1 kQ2 fQ l4 k40 k41 f4
    obtain ⟨lD, kD0, fD⟩ := bx1 BD.out
    obtain ⟨lQ, kQ0, kQ1, kQ2, fQ⟩ := box3 BQ.out
    obtain ⟨l4, k40, k41, f4⟩ := bx2 B4.out
    obtain ⟨l7, k70, k71, f7⟩ := bx2 B7.out
    go_wp2_with fail
    refine (specEvaluateQuery_any hdw.out VD1.out hqb.out VQ1.out).mono ?_
    rw [HK5.out]
    rintro e w9 ⟨u0, u1, F9, rfl, hx9, hS9, _, _⟩
    rw [Option.getD_some] at hS9
    obtain ⟨A9, a9, rfl, rfl, _⟩ := sRel_form hS9
    rw [Option.isSome_some]
    have VR9 := Lib.hid (sRel_v _ _ _ hS9)
    have Hx9 := Lib.hid hx9
    clear hx9 hS9
    go_upto_region 9 with fail
    refine wp_name ?_
    intro W9 hW
    have xw : ∃ y, W9 = ext w9 y := by rw [hW.out]; exact (by refine x'z ?_; repeat (with_reducible (first | apply x'a | apply x'b | exact x'c (by assumption) | refine x'd ?_ (by assumption) | apply x'e | apply x'f | apply x'g | apply x'h | apply x'i | apply x'j | apply x'k | apply x'l | apply x'm | assumption | (refine x'n ?_; omega) | omega)))
    have B9 : Hid (BoxAt W9 w9.heap.size #[.int .i64 p.1, .slice A9 p.2.length a9]) := Lib.hid (by rw [hW.out]; exact BoxAt.new _ _ _)
    have VR9 := Lib.hid (VD.toExt VR9.out xw)
    have xx := trans_ext Hx9.out xw
    have BD := Lib.hid (BD.out.toExt xx)
    have BQ := Lib.hid (BQ.out.toExt xx)
    have B4 := Lib.hid (B4.out.toExt xx)
    have B7 := Lib.hid (B7.out.toExt xx)
    have VD1 := Lib.hid (VD1.out.toExt xx)
    have VQ1 := Lib.hid (VD.toExt VQ1.out xx)
    have VR4 := Lib.hid (VD.toExt VR4.out xx)
    have VR7 := Lib.hid (VD.toExt VR7.out xx)
    have HX := Lib.hid (trans_ext HX.out xx)
    clear hW xw xx lD kD0 fD lQ kQ0 kQ1 kQ2 fQ l4 k40 k41 f4 l7 k70 k71 f7
    obtain ⟨lD, kD0, fD⟩ := bx1 BD.out
    obtain ⟨lQ, kQ0, kQ1, kQ2, fQ⟩ := box3 BQ.out
    obtain ⟨l4, k40, k41, f4⟩ := bx2 B4.out
    obtain ⟨l7, k70, k71, f7⟩ := bx2 B7.out
    obtain ⟨l9, k90, k91, f9⟩ := bx2 B9.out
    go_wp2_with fail
    refine (specEqualRelations_any hpb VR4.out hpb VR7.out).mono ?_
    rintro e wa ⟨rfl, hxa⟩
    rw [decide_eq_true rfl]
    have BD := Lib.hid (BD.out.toExt hxa)
    have BQ := Lib.hid (BQ.out.toExt hxa)
    have B4 := Lib.hid (B4.out.toExt hxa)
    have B7 := Lib.hid (B7.out.toExt hxa)
    have B9 := Lib.hid (B9.out.toExt hxa)
    have VD1 := Lib.hid (VD1.out.toExt hxa)
    have VQ1 := Lib.hid (VD.toExt VQ1.out hxa)
    have VR4 := Lib.hid (VD.toExt VR4.out hxa)
    have VR7 := Lib.hid (VD.toExt VR7.out hxa)
    have VR9 := Lib.hid (VD.toExt VR9.out hxa)
    have HX := Lib.hid (trans_ext HX.out hxa)
    clear hxa lD kD0 fD lQ kQ0 kQ1 kQ2 fQ l4 k40 k41 f4 l7 k70 k71 f7 l9 k90 k91 f9
    obtain ⟨lD, kD0, fD⟩ := bx1 BD.out
    obtain ⟨lQ, kQ0, kQ1, kQ2, fQ⟩ := box3 BQ.out
    obtain ⟨l4, k40, k41, f4⟩ := bx2 B4.out
    obtain ⟨l7, k70, k71, f7⟩ := bx2 B7.out
    obtain ⟨l9, k90, k91, f9⟩ := bx2 B9.out
    go_wp2_with fail
    refine (specEqualRelations_any hpb VR4.out hpb VR9.out).mono ?_
    rintro e wb ⟨rfl, hxb⟩
    rw [decide_eq_true rfl]
    go_wp2_with fail
    go_ret
    exact ⟨rfl, trans_ext HX.out hxb⟩

theorem law_RE (A : Option Addr) (c : Nat) (bs : List UInt8) (w : World) (hl : bs.length ≤ 9223372036854775807) (h1 : RU w A bs) : Calls Try.prog 13 #[.slice A bs.length c] w fun e w' => e = .returned (.bool true) ∧ ∃ y, w' = ext w y := by
  by_cases hb : 1048576 < bs.length
  · exact law_RE_big A c bs w hb hl
  · exact law_RE_m A c bs w (by omega) h1

set_option maxRecDepth 100000 in
theorem lifted_FnReferenceEvaluation (os : Os) (started : os.Started) (H : Type) (enc : TypeId × Value → H) :
    ReturnsInHanded {} Try.checked os 13 .any (Rows.fnReferenceEvaluationSpec.pre6 enc Try.prog Try.f13 Rows.fnReferenceEvaluationRow.domain false) (Rows.fnReferenceEvaluationSpec.post enc Try.prog Try.f13 false true false false) := by
  refine returnsInHanded_of_change (C := Try.checked) Try.own started (by kernel_rfl) Try.func13 (ChangeSpec.witness6 (enc := enc) (C := Try.checked) false ⟨#[], #[.slice none 0 0], []⟩ 8 (by kernel_rfl) (by kernel_rfl) (by kernel_rfl) (by kernel_rfl)) ?_
  intro W base args ds gs before hval0 hW hcnd _
  have hval : ∀ (j : Nat) t v, Try.f13.params[j]? = some t → args[j]? = some v → Value.okWide Try.prog W .any base t v := hval0
  clear hval0 hcnd
  obtain ⟨_, _, hA0, hV0, _, _, _⟩ := id hW
  have hA : DataW.TrodAll enc Try.prog W 0 (fun _ => true) true Try.f13.params.toList args.toList ds _ := hA0
  clear hA0
  rw [Try.params13] at hA hval
  obtain ⟨v0, d0, rfl, rfl, h0⟩ := trodAll_one hA
  obtain ⟨x0, ⟨A0, c0, hc0, r0⟩, l0, _⟩ := openArg oBytes h0
  obtain rfl := one1 hc0 (okWide_slice Try.underlying62 (hval 0 _ v0 rfl rfl))
  refine (law_RE A0 _ x0 W (le_maxLen l0) r0).mono fun e W' ⟨he, hw⟩ => ?_
  exact ⟨_, he, law_post Try.laidOut hW rfl rfl rfl Try.underlying4 (by kernel_rfl) hw⟩

theorem fnReferenceEvaluation_and {a b : Bool} (ha : a = true) (hb : b = true) : (a && b) = true := by rw [ha, hb]; rfl
set_option maxHeartbeats 16000000 in
theorem fnReferenceEvaluation_closed : joinedFacts Try.checked.prog 13 Try.f13 Rows.fnReferenceEvaluationSpec Rows.fnReferenceEvaluationRow = true := by
  unfold joinedFacts
  repeat' (with_reducible refine fnReferenceEvaluation_and ?_ ?_)
  all_goals (as_aux_lemma => kernel_rfl)
theorem fnReferenceEvaluation_holds : Rows.FnReferenceEvaluationSaid :=
  OpenClaim.holds_of_wide 13 Try.f13 rfl rfl rfl rfl rfl rfl rfl ⟨rfl, rfl, rfl, rfl, rfl⟩ rfl rfl rfl rfl rfl (by kernel_rfl) Try.func13 fnReferenceEvaluation_closed
    (of_decide_eq_true (by kernel_rfl)) (by unfold Func.isWrapper; rw [if_neg (of_decide_eq_false (by kernel_rfl))]; exact ⟨rfl, rfl⟩)
    (fun os started H enc _ => lifted_FnReferenceEvaluation os started H enc)

end Go.Proofs.Ytfigcfajkilhiaa
