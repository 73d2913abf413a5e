/- A database, a query and a tree drawn from any bytes: every valid join tree yields the same answers, and full reduction keeps exactly the useful rows. -/
import Derived.Test.YtfigcfajkilhiaaJ01
import Derived.Test.YtfigcfajkilhiaaJ35
import Derived.Test.YtfigcfajkilhiaaJ45
import Derived.Test.YtfigcfajkilhiaaJ46
import Derived.Test.YtfigcfajkilhiaaJ03
namespace Go.Proofs.Ytfigcfajkilhiaa
open Go.ChangeShapes Go.WideShapes Go.ChangeAt Go.RowKit
set_option maxHeartbeats 2000000 in
theorem law_JE_big (A : Option Addr) (c : Nat) (bs : List UInt8) (w : World) (hb : 1048576 < bs.length) (hl : bs.length ≤ 9223372036854775807) : Calls Try.prog 14 #[.slice A bs.length c] w fun e w' => e = .returned (.bool true) ∧ ∃ y, w' = ext w y := by
  go_enter Try.func14, Try.ntmps14
  go_wp2_with fail
  refine (lawBig_any hl).mono ?_
  rintro e w1 ⟨rfl, hx1⟩
  rw [decide_eq_true hb]
  go_wp2_with fail
  go_ret
  exact ⟨rfl, hx1⟩
set_option maxRecDepth 100000 in
set_option maxHeartbeats 16000000 in
theorem law_JE_m (A : Option Addr) (c : Nat) (bs : List UInt8) (w : World) (hb : bs.length ≤ 1048576) (h1 : RU w A bs) : Calls Try.prog 14 #[.slice A bs.length c] w fun e w' => e = .returned (.bool true) ∧ ∃ y, w' = ext w y := by
  have HU := Lib.hid h1
  clear h1
  go_enter Try.func14, Try.ntmps14
  go_wp2_with fail
  refine (lawBig_any (by omega)).mono ?_
  rintro e w1 ⟨rfl, hx1⟩
  rw [decide_eq_false (show ¬ 1048576 < bs.length by omega)]
  have HX := Lib.hid hx1
  clear hx1
  go_wp2_with fail
  refine (DrawEvaluateByJoinTree_any hb (HU.out.toExt HX.out)).mono ?_
  rintro e w2 ⟨A2, c2, d, B2, b2, C2, c3, q, DT, ft0, ps, rfl, hP, hD, hQ, hpl, hx2⟩
  obtain ⟨hvd, hvq, hvt⟩ := hP [] w2 (by simp) (Chg.refl _ _)
  have VD1 := Lib.hid hvd
  have VQ1 := Lib.hid hvq
  have VT1 := Lib.hid hvt
  have hdw := Lib.hid hD.w
  have hqb := Lib.hid hQ.b
  have hfd := Lib.hid hD.few
  have hfq := Lib.hid hQ.f
  have Hx2 := Lib.hid hx2
  have hpl9 : ps.length ≤ 100000000 := by omega
  clear hP hvd hvq hvt hD hQ hx2
  go_upto_region 4 with fail
  refine wp_name ?_
  intro W2 hW
  have xw : ∃ y, W2 = ext w2 y := by rw [hW.out]; exact (by refine x'z ?_; repeat (with_reducible (first | exact x'a _ _ | exact x'b _ | exact x'c (by assumption) | refine x'd ?_ (by assumption) | refine x'e ?_ _ | refine x'f ?_ _ | refine x'g ?_ | refine x'h ?_ ?_ _ | refine x'i ?_ _ | refine x'j ?_ | refine x'k ?_ _ | refine x'l ?_ _ _ | refine x'm ?_ | assumption | (refine x'n ?_; omega) | omega)))
  have BD : Hid (BoxAt W2 w2.heap.size #[.slice A2 d.length c2]) := Lib.hid (by rw [hW.out]; refine ⟨?_, fun j => ?_, fun j => ?_⟩ <;> go_simp)
  have BQ : Hid (BoxAt W2 (w2.heap.size + 1) #[.int .i64 q.1, .slice B2 q.2.1.length b2, .slice C2 q.2.2.length c3]) := Lib.hid (by rw [hW.out]; refine ⟨?_, fun j => ?_, fun j => ?_⟩ <;> go_simp)
  have BT : Hid (BoxAt W2 (w2.heap.size + 1 + 1) #[.slice DT ps.length ft0]) := Lib.hid (by rw [hW.out]; refine ⟨?_, fun j => ?_, fun j => ?_⟩ <;> go_simp)
  have VD1 := Lib.hid (VD1.out.toExt xw)
  have VQ1 := Lib.hid (VD.toExt VQ1.out xw)
  have VT1 := Lib.hid (VT1.out.toExt xw)
  have HX := Lib.hid (trans_ext HX.out (trans_ext Hx2.out xw))
  clear hW xw Hx2
  obtain ⟨lD, kD0, fD⟩ := bx1 BD.out
  obtain ⟨lQ, kQ0, kQ1, kQ2, fQ⟩ := box3 BQ.out
  obtain ⟨lT, kT0, fT⟩ := bx1 BT.out
  obtain ⟨t, ht⟩ : ∃ t, (iqfB d q && ivjB q ps) = t := ⟨_, rfl⟩
  have HT := Lib.hid ht
  clear ht
  cases t with
  | false =>
    have HE := Lib.hid (evT_no HT.out)
    have HR := Lib.hid (fullR_no HT.out)
    go_wp2_with fail
    refine (EvaluateByJoinTree_any hdw.out VD1.out hqb.out VQ1.out (by omega) VT1.out).mono ?_
    rw [HE.out]
    rintro e w4 ⟨u0, u1, F4, rfl, hx4, hS4, _, _⟩
    obtain ⟨A4, a4, rfl, rfl, _⟩ := sRel_form hS4
    rw [Option.isSome_none, Option.getD_none]
    have Hx4 := Lib.hid hx4
    clear hx4 hS4
    go_upto_region 5 with fail
    refine wp_name ?_
    intro W4 hW
    have xw : ∃ y, W4 = ext w4 y := by rw [hW.out]; exact (by refine x'z ?_; repeat (with_reducible (first | exact x'a _ _ | exact x'b _ | exact x'c (by assumption) | refine x'd ?_ (by assumption) | refine x'e ?_ _ | refine x'f ?_ _ | refine x'g ?_ | refine x'h ?_ ?_ _ | refine x'i ?_ _ | refine x'j ?_ | refine x'k ?_ _ | refine x'l ?_ _ _ | refine x'm ?_ | assumption | (refine x'n ?_; omega) | omega)))
    have B4 : Hid (BoxAt W4 w4.heap.size #[.int .i64 0, .slice A4 0 a4]) := Lib.hid (by rw [hW.out]; exact BoxAt.new _ _ _)
    have xx := trans_ext Hx4.out xw
    have BD := Lib.hid (BD.out.toExt xx)
    have BQ := Lib.hid (BQ.out.toExt xx)
    have BT := Lib.hid (BT.out.toExt xx)
    have VD1 := Lib.hid (VD1.out.toExt xx)
    have VQ1 := Lib.hid (VD.toExt VQ1.out xx)
    have VT1 := Lib.hid (VT1.out.toExt xx)
    have HX := Lib.hid (trans_ext HX.out xx)
    clear hW xw xx lD kD0 fD lQ kQ0 kQ1 kQ2 fQ lT kT0 fT
    obtain ⟨lD, kD0, fD⟩ := bx1 BD.out
    obtain ⟨lQ, kQ0, kQ1, kQ2, fQ⟩ := box3 BQ.out
    obtain ⟨lT, kT0, fT⟩ := bx1 BT.out
    obtain ⟨l4, k40, k41, f4⟩ := bx2 B4.out
    go_wp2_with fail
    refine (FullReduction_any hdw.out VD1.out hqb.out VQ1.out (by omega) VT1.out).mono ?_
    rw [HR.out]
    rintro e w5 ⟨v5, F5, rfl, hx5, hS5, _, _⟩
    rw [Option.getD_none] at hS5
    obtain ⟨A5, a5, rfl, _, _⟩ := hS5.form
    rw [Option.isSome_none, List.length_nil]
    have BD := Lib.hid (BD.out.toExt hx5)
    have BQ := Lib.hid (BQ.out.toExt hx5)
    have BT := Lib.hid (BT.out.toExt hx5)
    have B4 := Lib.hid (B4.out.toExt hx5)
    have VD1 := Lib.hid (VD1.out.toExt hx5)
    have VQ1 := Lib.hid (VD.toExt VQ1.out hx5)
    have VT1 := Lib.hid (VT1.out.toExt hx5)
    have HX := Lib.hid (trans_ext HX.out hx5)
    clear hx5 hS5 lD kD0 fD lQ kQ0 kQ1 kQ2 fQ lT kT0 fT l4 k40 k41 f4
    obtain ⟨lD, kD0, fD⟩ := bx1 BD.out
    obtain ⟨lQ, kQ0, kQ1, kQ2, fQ⟩ := box3 BQ.out
    obtain ⟨lT, kT0, fT⟩ := bx1 BT.out
    obtain ⟨l4, k40, k41, f4⟩ := bx2 B4.out
    obtain ⟨t1, ht1⟩ : ∃ t, iqfB d q = t := ⟨_, rfl⟩
    have HT1 := Lib.hid ht1
    have HT2 := Lib.hid (fun (h : t1 = true) => show ivjB q ps = false by have h9 := HT.out; rw [ht1, h, Bool.true_and] at h9; exact h9)
    clear ht1
    go_wp2_with fail
    refine (specIsQueryFor_any hdw.out VD1.out hqb.out VQ1.out).mono ?_
    rintro e w6 ⟨rfl, hx6⟩
    rw [HT1.out]
    have BD := Lib.hid (BD.out.toExt hx6)
    have BQ := Lib.hid (BQ.out.toExt hx6)
    have BT := Lib.hid (BT.out.toExt hx6)
    have B4 := Lib.hid (B4.out.toExt hx6)
    have VD1 := Lib.hid (VD1.out.toExt hx6)
    have VQ1 := Lib.hid (VD.toExt VQ1.out hx6)
    have VT1 := Lib.hid (VT1.out.toExt hx6)
    have HX := Lib.hid (trans_ext HX.out hx6)
    clear hx6 lD kD0 fD lQ kQ0 kQ1 kQ2 fQ lT kT0 fT l4 k40 k41 f4
    obtain ⟨lD, kD0, fD⟩ := bx1 BD.out
    obtain ⟨lQ, kQ0, kQ1, kQ2, fQ⟩ := box3 BQ.out
    obtain ⟨lT, kT0, fT⟩ := bx1 BT.out
    obtain ⟨l4, k40, k41, f4⟩ := bx2 B4.out
    cases t1 with
    | false =>
      go_wp2_with fail
      go_ret
      exact ⟨rfl, HX.out⟩
    | true =>
      have HT3 := Lib.hid (HT2.out rfl)
      go_wp2_with fail
      refine (specIsValidJoinTree_any hqb.out VQ1.out (by omega) VT1.out).mono ?_
      rintro e w7 ⟨rfl, hx7⟩
      rw [HT3.out]
      have BD := Lib.hid (BD.out.toExt hx7)
      have BQ := Lib.hid (BQ.out.toExt hx7)
      have BT := Lib.hid (BT.out.toExt hx7)
      have B4 := Lib.hid (B4.out.toExt hx7)
      have VD1 := Lib.hid (VD1.out.toExt hx7)
      have VQ1 := Lib.hid (VD.toExt VQ1.out hx7)
      have VT1 := Lib.hid (VT1.out.toExt hx7)
      have HX := Lib.hid (trans_ext HX.out hx7)
      clear hx7 lD kD0 fD lQ kQ0 kQ1 kQ2 fQ lT kT0 fT l4 k40 k41 f4
      obtain ⟨lD, kD0, fD⟩ := bx1 BD.out
      obtain ⟨lQ, kQ0, kQ1, kQ2, fQ⟩ := box3 BQ.out
      obtain ⟨lT, kT0, fT⟩ := bx1 BT.out
      obtain ⟨l4, k40, k41, f4⟩ := bx2 B4.out
      go_wp2_with fail
      go_ret
      exact ⟨rfl, HX.out⟩
  | true =>
    obtain ⟨hq1, hq2⟩ := Bool.and_eq_true_iff.1 HT.out
    have hjt : jtB q.1.toNat q.2.1 ps = true := by unfold ivjB at hq2; rw [Bool.and_eq_true] at hq2; exact hq2.2
    obtain ⟨r, hY⟩ := yan hq1 hjt
    have HQ1 := Lib.hid hq1
    have HQ2 := Lib.hid hq2
    obtain ⟨p, k4, k5, hpb⟩ := eval_few hq1 hfd.out (hfq.out (iqf_vq hq1))
    obtain ⟨m1, m2, m3⟩ := bind_few hq1 hfd.out (hfq.out (iqf_vq hq1))
    have HE := Lib.hid (show evT d q ps = some p by rw [evT_yes hq1 hq2]; exact k5)
    have HK5 := Lib.hid k5
    have HB1 := Lib.hid (show (bindR d q).getD (0, []) = (q.1, allB d q) by rw [m1]; rfl)
    obtain ⟨D1, hD1⟩ : ∃ D, fullD d q (prs ps (upL ps)) = D := ⟨_, rfl⟩
    have HF := Lib.hid (show fullR d q ps = some D1 by unfold fullR; rw [if_pos ⟨hq1, hq2⟩, hD1])
    have hlD : D1.length = q.2.1.length := by rw [← hD1]; exact fullD_len _ _ _
    have hl1 : D1.length ≤ q.2.1.length := Nat.le_of_eq hlD
    have hl2 : q.2.1.length ≤ D1.length := Nat.le_of_eq hlD.symm
    have hqne : ((D1.length : Int) != (q.2.1.length : Int)) = false := by rw [hlD]; simp
    have hl4 : q.2.1.length ≤ 4 := hY.n4
    have hl41 : 1 ≤ q.2.1.length := hY.n1
    have HPI := Lib.hid (show ∀ x ∈ ps, x < (ps.length : Int) from fun x hx => by
      have htb : treeB ps = true := by unfold jtB at hjt; rw [Bool.and_eq_true, Bool.and_eq_true] at hjt; exact hjt.1.2
      have := (treeB_in htb x hx).2
      omega)
    have HOK := Lib.hid (show OkDs D1 by rw [← hD1]; exact full_ok hY.n HPI.out hY.ord.ui)
    have HP := Lib.hid (fun (j : Nat) (hj : j < q.2.1.length) => show projR (q.1, allB d q) (avars 5 0 q.2.1[j].2) = some (D1.getD j zV).2 by
      have h := full_proj hY hq1 m2 hj
      rw [hD1] at h
      have e : vrsA q.2.1 j = avars 5 0 q.2.1[j].2 := by unfold vrsA vof; rw [getDl _ _ hj]
      rw [e] at h
      exact h)
    have HAX := Lib.hid (show ∀ x ∈ q.2.1, x.2.length ≤ 1000000000 from fun x hx => by have := (hqb.out.2.1.each x hx).2; omega)
    have HAL := Lib.hid (fun (x : List Int) (hx : x ∈ allB d q) => show x.length ≤ 1000000000 by have := (allB_rows hq1 x hx).2; omega)
    have hn5 : 0 ≤ q.1 ∧ q.1 ≤ 5 := by have a := (qok hq1).n1; have b := (qok hq1).n5; omega
    have hz5 : -1000000000 ≤ q.1 ∧ q.1 ≤ 1000000000 := by omega
    obtain ⟨al, hal⟩ : ∃ l, allB d q = l := ⟨_, rfl⟩
    rw [hal] at HB1 HAL m2 HP
    have hal9 : al.length ≤ 1000000000 := by omega
    clear hq1 hq2 hjt hY k4 k5 m1 m2 m3 hD1 hlD hal HPI
    go_wp2_with fail
    refine (EvaluateByJoinTree_any hdw.out VD1.out hqb.out VQ1.out (by omega) VT1.out).mono ?_
    rw [HE.out]
    rintro e w4 ⟨u0, u1, F4, rfl, hx4, hS4, _, _⟩
    rw [Option.getD_some] at hS4
    obtain ⟨A4, a4, rfl, rfl, _⟩ := sRel_form hS4
    rw [Option.isSome_some]
    have VR4 := Lib.hid (sRel_v _ _ _ hS4)
    have Hx4 := Lib.hid hx4
    clear hx4 hS4
    go_upto_region 5 with fail
    refine wp_name ?_
    intro W4 hW
    have xw : ∃ y, W4 = ext w4 y := by rw [hW.out]; exact (by refine x'z ?_; repeat (with_reducible (first | exact x'a _ _ | exact x'b _ | exact x'c (by assumption) | refine x'd ?_ (by assumption) | refine x'e ?_ _ | refine x'f ?_ _ | refine x'g ?_ | refine x'h ?_ ?_ _ | refine x'i ?_ _ | refine x'j ?_ | refine x'k ?_ _ | refine x'l ?_ _ _ | refine x'm ?_ | assumption | (refine x'n ?_; omega) | omega)))
    have B4 : Hid (BoxAt W4 w4.heap.size #[.int .i64 p.1, .slice A4 p.2.length a4]) := Lib.hid (by rw [hW.out]; exact BoxAt.new _ _ _)
    have VR4 := Lib.hid (VD.toExt VR4.out xw)
    have xx := trans_ext Hx4.out xw
    have BD := Lib.hid (BD.out.toExt xx)
    have BQ := Lib.hid (BQ.out.toExt xx)
    have BT := Lib.hid (BT.out.toExt xx)
    have VD1 := Lib.hid (VD1.out.toExt xx)
    have VQ1 := Lib.hid (VD.toExt VQ1.out xx)
    have VT1 := Lib.hid (VT1.out.toExt xx)
    have HX := Lib.hid (trans_ext HX.out xx)
    clear hW xw xx lD kD0 fD lQ kQ0 kQ1 kQ2 fQ lT kT0 fT
    obtain ⟨lD, kD0, fD⟩ := bx1 BD.out
    obtain ⟨lQ, kQ0, kQ1, kQ2, fQ⟩ := box3 BQ.out
    obtain ⟨lT, kT0, fT⟩ := bx1 BT.out
    obtain ⟨l4, k40, k41, f4⟩ := bx2 B4.out
    go_wp2_with fail
    refine (FullReduction_any hdw.out VD1.out hqb.out VQ1.out (by omega) VT1.out).mono ?_
    rw [HF.out]
    rintro e w5 ⟨v5, F5, rfl, hx5, hS5, hN5, _⟩
    rw [Option.getD_some] at hS5
    obtain ⟨g5, a5, rfl, _, _, _⟩ := hS5.block (by intro h; have h9 : D1.length = 0 := (by rw [h]; rfl); omega)
    rw [Option.isSome_some]
    have HN5 := Lib.hid hN5
    have HS5 := Lib.hid hS5
    clear hN5 hS5
    have BD := Lib.hid (BD.out.toExt hx5)
    have BQ := Lib.hid (BQ.out.toExt hx5)
    have BT := Lib.hid (BT.out.toExt hx5)
    have B4 := Lib.hid (B4.out.toExt hx5)
    have VD1 := Lib.hid (VD1.out.toExt hx5)
    have VQ1 := Lib.hid (VD.toExt VQ1.out hx5)
    have VT1 := Lib.hid (VT1.out.toExt hx5)
    have VR4 := Lib.hid (VD.toExt VR4.out hx5)
    have HX := Lib.hid (trans_ext HX.out hx5)
    clear hx5 lD kD0 fD lQ kQ0 kQ1 kQ2 fQ lT kT0 fT l4 k40 k41 f4
    obtain ⟨lD, kD0, fD⟩ := bx1 BD.out
    obtain ⟨lQ, kQ0, kQ1, kQ2, fQ⟩ := box3 BQ.out
    obtain ⟨lT, kT0, fT⟩ := bx1 BT.out
    obtain ⟨l4, k40, k41, f4⟩ := bx2 B4.out
    have VS5 := HS5
    clear HS5
    go_wp2_with fail
    refine (specIsQueryFor_any hdw.out VD1.out hqb.out VQ1.out).mono ?_
    rintro e w6 ⟨rfl, hx6⟩
    rw [HQ1.out]
    have BD := Lib.hid (BD.out.toExt hx6)
    have BQ := Lib.hid (BQ.out.toExt hx6)
    have BT := Lib.hid (BT.out.toExt hx6)
    have B4 := Lib.hid (B4.out.toExt hx6)
    have VD1 := Lib.hid (VD1.out.toExt hx6)
    have VQ1 := Lib.hid (VD.toExt VQ1.out hx6)
    have VT1 := Lib.hid (VT1.out.toExt hx6)
    have VR4 := Lib.hid (VD.toExt VR4.out hx6)
    have VS5 := Lib.hid (VS5.out.toExt hx6)
    have HX := Lib.hid (trans_ext HX.out hx6)
    clear hx6 lD kD0 fD lQ kQ0 kQ1 kQ2 fQ lT kT0 fT l4 k40 k41 f4
    obtain ⟨lD, kD0, fD⟩ := bx1 BD.out
    obtain ⟨lQ, kQ0, kQ1, kQ2, fQ⟩ := box3 BQ.out
    obtain ⟨lT, kT0, fT⟩ := bx1 BT.out
    obtain ⟨l4, k40, k41, f4⟩ := bx2 B4.out
    go_wp2_with fail
    refine (specIsValidJoinTree_any hqb.out VQ1.out (by omega) VT1.out).mono ?_
    rintro e w7 ⟨rfl, hx7⟩
    rw [HQ2.out]
    have BD := Lib.hid (BD.out.toExt hx7)
    have BQ := Lib.hid (BQ.out.toExt hx7)
    have BT := Lib.hid (BT.out.toExt hx7)
    have B4 := Lib.hid (B4.out.toExt hx7)
    have VD1 := Lib.hid (VD1.out.toExt hx7)
    have VQ1 := Lib.hid (VD.toExt VQ1.out hx7)
    have VT1 := Lib.hid (VT1.out.toExt hx7)
    have VR4 := Lib.hid (VD.toExt VR4.out hx7)
    have VS5 := Lib.hid (VS5.out.toExt hx7)
    have HX := Lib.hid (trans_ext HX.out hx7)
    clear hx7 lD kD0 fD lQ kQ0 kQ1 kQ2 fQ lT kT0 fT l4 k40 k41 f4
    obtain ⟨lD, kD0, fD⟩ := bx1 BD.out
    obtain ⟨lQ, kQ0, kQ1, kQ2, fQ⟩ := box3 BQ.out
    obtain ⟨lT, kT0, fT⟩ := bx1 BT.out
    obtain ⟨l4, k40, k41, f4⟩ := bx2 B4.out
    go_wp2_with fail
    refine (specEvaluateQuery_any hdw.out VD1.out hqb.out VQ1.out).mono ?_
    rw [HK5.out]
    rintro e w8 ⟨u0, u1, F8, rfl, hx8, hS8, _, _⟩
    rw [Option.getD_some] at hS8
    obtain ⟨A8, a8, rfl, rfl, _⟩ := sRel_form hS8
    rw [Option.isSome_some]
    have VR8 := Lib.hid (sRel_v _ _ _ hS8)
    have Hx8 := Lib.hid hx8
    clear hx8 hS8
    go_upto_region 9 with fail
    refine wp_name ?_
    intro W8 hW
    have xw : ∃ y, W8 = ext w8 y := by rw [hW.out]; exact (by refine x'z ?_; repeat (with_reducible (first | exact x'a _ _ | exact x'b _ | exact x'c (by assumption) | refine x'd ?_ (by assumption) | refine x'e ?_ _ | refine x'f ?_ _ | refine x'g ?_ | refine x'h ?_ ?_ _ | refine x'i ?_ _ | refine x'j ?_ | refine x'k ?_ _ | refine x'l ?_ _ _ | refine x'm ?_ | assumption | (refine x'n ?_; omega) | omega)))
    have B8 : Hid (BoxAt W8 w8.heap.size #[.int .i64 p.1, .slice A8 p.2.length a8]) := Lib.hid (by rw [hW.out]; exact BoxAt.new _ _ _)
    have VR8 := Lib.hid (VD.toExt VR8.out xw)
    have xx := trans_ext Hx8.out xw
    have BD := Lib.hid (BD.out.toExt xx)
    have BQ := Lib.hid (BQ.out.toExt xx)
    have BT := Lib.hid (BT.out.toExt xx)
    have B4 := Lib.hid (B4.out.toExt xx)
    have VD1 := Lib.hid (VD1.out.toExt xx)
    have VQ1 := Lib.hid (VD.toExt VQ1.out xx)
    have VT1 := Lib.hid (VT1.out.toExt xx)
    have VR4 := Lib.hid (VD.toExt VR4.out xx)
    have VS5 := Lib.hid (VS5.out.toExt xx)
    have HX := Lib.hid (trans_ext HX.out xx)
    clear hW xw xx lD kD0 fD lQ kQ0 kQ1 kQ2 fQ lT kT0 fT l4 k40 k41 f4
    obtain ⟨lD, kD0, fD⟩ := bx1 BD.out
    obtain ⟨lQ, kQ0, kQ1, kQ2, fQ⟩ := box3 BQ.out
    obtain ⟨lT, kT0, fT⟩ := bx1 BT.out
    obtain ⟨l4, k40, k41, f4⟩ := bx2 B4.out
    obtain ⟨l8, k80, k81, f8⟩ := bx2 B8.out
    go_wp2_with fail
    refine (specAllBindings_any hdw.out VD1.out hqb.out VQ1.out).mono ?_
    rw [HB1.out]
    rintro e w9 ⟨u0, u1, F9, rfl, hx9, hS9, _, _⟩
    obtain ⟨A9, a9, rfl, rfl, hI9⟩ := sRel_form hS9
    have VI9 := Lib.hid (vII_get (sII_v _ _ _ hI9)).2
    have Hx9 := Lib.hid hx9
    clear hx9 hS9 hI9
    go_upto_region 10 with fail
    refine wp_name ?_
    intro W9 hW
    have xw : ∃ y, W9 = ext w9 y := by rw [hW.out]; exact (by refine x'z ?_; repeat (with_reducible (first | exact x'a _ _ | exact x'b _ | exact x'c (by assumption) | refine x'd ?_ (by assumption) | refine x'e ?_ _ | refine x'f ?_ _ | refine x'g ?_ | refine x'h ?_ ?_ _ | refine x'i ?_ _ | refine x'j ?_ | refine x'k ?_ _ | refine x'l ?_ _ _ | refine x'm ?_ | assumption | (refine x'n ?_; omega) | omega)))
    have B9 : Hid (BoxAt W9 w9.heap.size #[.int .i64 q.1, .slice A9 al.length a9]) := Lib.hid (by rw [hW.out]; exact BoxAt.new _ _ _)
    have VI9 := Lib.hid (VI9.out.toExt xw)
    have xx := trans_ext Hx9.out xw
    have BD := Lib.hid (BD.out.toExt xx)
    have BQ := Lib.hid (BQ.out.toExt xx)
    have BT := Lib.hid (BT.out.toExt xx)
    have B4 := Lib.hid (B4.out.toExt xx)
    have B8 := Lib.hid (B8.out.toExt xx)
    have VD1 := Lib.hid (VD1.out.toExt xx)
    have VQ1 := Lib.hid (VD.toExt VQ1.out xx)
    have VT1 := Lib.hid (VT1.out.toExt xx)
    have VR4 := Lib.hid (VD.toExt VR4.out xx)
    have VS5 := Lib.hid (VS5.out.toExt xx)
    have VR8 := Lib.hid (VD.toExt VR8.out xx)
    have HX := Lib.hid (trans_ext HX.out xx)
    clear hW xw xx lD kD0 fD lQ kQ0 kQ1 kQ2 fQ lT kT0 fT l4 k40 k41 f4 l8 k80 k81 f8
    obtain ⟨lD, kD0, fD⟩ := bx1 BD.out
    obtain ⟨lQ, kQ0, kQ1, kQ2, fQ⟩ := box3 BQ.out
    obtain ⟨lT, kT0, fT⟩ := bx1 BT.out
    obtain ⟨l4, k40, k41, f4⟩ := bx2 B4.out
    obtain ⟨l8, k80, k81, f8⟩ := bx2 B8.out
    obtain ⟨l9, k90, k91, f9⟩ := bx2 B9.out
    go_wp2_with fail
    refine (specEqualRelations_any hpb VR4.out hpb VR8.out).mono ?_
    rintro e wa ⟨rfl, hxa⟩
    rw [decide_eq_true rfl]
    have BD := Lib.hid (BD.out.toExt hxa)
    have BQ := Lib.hid (BQ.out.toExt hxa)
    have BT := Lib.hid (BT.out.toExt hxa)
    have B4 := Lib.hid (B4.out.toExt hxa)
    have B8 := Lib.hid (B8.out.toExt hxa)
    have B9 := Lib.hid (B9.out.toExt hxa)
    have VD1 := Lib.hid (VD1.out.toExt hxa)
    have VQ1 := Lib.hid (VD.toExt VQ1.out hxa)
    have VT1 := Lib.hid (VT1.out.toExt hxa)
    have VR4 := Lib.hid (VD.toExt VR4.out hxa)
    have VS5 := Lib.hid (VS5.out.toExt hxa)
    have VR8 := Lib.hid (VD.toExt VR8.out hxa)
    have VI9 := Lib.hid (VI9.out.toExt hxa)
    have HX := Lib.hid (trans_ext HX.out hxa)
    clear hxa lD kD0 fD lQ kQ0 kQ1 kQ2 fQ lT kT0 fT l4 k40 k41 f4 l8 k80 k81 f8 l9 k90 k91 f9
    obtain ⟨lD, kD0, fD⟩ := bx1 BD.out
    obtain ⟨lQ, kQ0, kQ1, kQ2, fQ⟩ := box3 BQ.out
    obtain ⟨lT, kT0, fT⟩ := bx1 BT.out
    obtain ⟨l4, k40, k41, f4⟩ := bx2 B4.out
    obtain ⟨l8, k80, k81, f8⟩ := bx2 B8.out
    obtain ⟨l9, k90, k91, f9⟩ := bx2 B9.out
    obtain ⟨Wa, rfl⟩ : ∃ W, W = wa := ⟨_, rfl⟩
    have HAV := Lib.hid (vAts_get (vQ_get VQ1.out).1).2
    go_wp2_with fail
    clear lD kD0 fD lQ kQ0 kQ1 kQ2 fQ lT kT0 fT l4 k40 k41 f4 l8 k80 k81 f8 l9 k90 k91 f9
    go_loopw [13] (fun i wr => ∃ k : Nat, i = .int .i64 k ∧ k ≤ D1.length ∧ ∃ y, wr = ext Wa y) (fun i _ => D1.length - (intOf i).toNat)
    case atStart => exact ⟨0, rfl, by omega, refl_ext Wa⟩
    case round =>
      obtain ⟨k, rfl, hk, hy⟩ := hrel
      obtain ⟨lD, kD0, fD⟩ := bx1 (BD.out.toExt hy)
      obtain ⟨lQ, kQ0, kQ1, kQ2, fQ⟩ := box3 (BQ.out.toExt hy)
      obtain ⟨l9, k90, k91, f9⟩ := bx2 (B9.out.toExt hy)
      by_cases hlt : k < D1.length
      · have hkq : k < q.2.1.length := by omega
        have hp := HP.out k hkq
        have hx9 := HAX.out _ (List.getElem_mem hkq)
        obtain ⟨bb, oo, A1, c1, rfl, hbb, hc0, hc1, hvx⟩ := (HAV.out.toExt hy).atA hkq
        obtain ⟨x, hx⟩ : ∃ x, q.2.1[k] = x := ⟨_, rfl⟩
        rw [hx] at hp hx9 hc0 hc1 hvx
        obtain ⟨s, xs⟩ := x
        dsimp only at hp hx9 hc0 hc1 hvx
        obtain ⟨Ab, ab, Bb, cb, cb0, cb1, cb2, hvb⟩ := vr_at (VS5.out.toExt hy) HN5.out hlt
        have hgb := (vr_cell (VS5.out.toExt hy) rfl hlt).2.2.2
        have hbd := vrok_bd (HOK.out.get hlt)
        rw [← getDl _ zV hlt] at hbd
        obtain ⟨db, hdb⟩ : ∃ x, D1.getD k zV = x := ⟨_, rfl⟩
        rw [hdb] at cb0 cb1 cb2 hvb hbd hp
        have HVX := Lib.hid hvx
        have HVB := Lib.hid (vVR_get hvb).2.1
        have HBD := Lib.hid hbd.2
        have HPP := Lib.hid hp
        have HI9 := Lib.hid (VI9.out.toExt hy)
        have hav := avars_length 5 0 xs
        obtain ⟨vs, hvs⟩ : ∃ l, avars 5 0 xs = l := ⟨_, rfl⟩
        rw [hvs] at HPP hav
        have HVS := Lib.hid hvs
        have hki : (k : Int) < (q.2.1.length : Int) := by omega
        clear hp hvx hvb hbd hx hdb hvs
        go_upto_region 15 with fail
        go_cut [14, 15] (fun vA vB wx => ∃ b A7 a7, vA = .pointer (some ⟨b, 0, none⟩) ∧ vB = .bool true ∧ BoxAt wx b #[.int .i64 db.2.1, .slice A7 db.2.2.length a7] ∧ vRel wx [.int .i64 db.2.1, .slice A7 db.2.2.length a7] db.2 ∧ ∃ y, wx = ext wr y)
        case first =>
          go_region_held3 (fun w' => (∀ a : Addr, a.block < wr.heap.size → w'.cell? a = wr.cell? a) ∧ ∃ y, w' = ext wr y) (first | exact heldE (by refine x'z ?_; repeat (with_reducible (first | exact x'a _ _ | exact x'b _ | exact x'c (by assumption) | refine x'd ?_ (by assumption) | refine x'e ?_ _ | refine x'f ?_ _ | refine x'g ?_ | refine x'h ?_ ?_ _ | refine x'i ?_ _ | refine x'j ?_ | refine x'k ?_ _ | refine x'l ?_ _ _ | refine x'm ?_ | assumption | (refine x'n ?_; omega) | omega)))) (first
            | (go_at_call 69; refine (specAtomVariables_any hx9 (HVX.out.toExt (by refine x'z ?_; repeat (with_reducible (first | exact x'a _ _ | exact x'b _ | exact x'c (by assumption) | refine x'd ?_ (by assumption) | refine x'e ?_ _ | refine x'f ?_ _ | refine x'g ?_ | refine x'h ?_ ?_ _ | refine x'i ?_ _ | refine x'j ?_ | refine x'k ?_ _ | refine x'l ?_ _ _ | refine x'm ?_ | assumption | (refine x'n ?_; omega) | omega))))).mono ?_; rw [HVS.out]; rintro e w7 ⟨v7, F7, rfl, hx7, hS7, _⟩; obtain ⟨A71, a71, rfl, _, _, hr7⟩ := hS7.view sI_v; have hz7 : wr.heap.size ≤ w7.heap.size := size_of_ext (by refine x'z ?_; repeat (with_reducible (first | exact x'a _ _ | exact x'b _ | exact x'c (by assumption) | refine x'd ?_ (by assumption) | refine x'e ?_ _ | refine x'f ?_ _ | refine x'g ?_ | refine x'h ?_ ?_ _ | refine x'i ?_ _ | refine x'j ?_ | refine x'k ?_ _ | refine x'l ?_ _ _ | refine x'm ?_ | assumption | (refine x'n ?_; omega) | omega))); (first | (have L5 : BoxAt w7 wr.heap.size #[.int .i64 0, .slice none 0 0] := BoxAt.toExt (BoxAt.new wr _ _) hx7; obtain ⟨z1, z2, z3, z4⟩ := bx2 L5) | (have L5 : BoxAt w7 wr.heap.size #[.int .i64 0, .slice none 0 0] := BoxAt.toExt (BoxAt.new wr.drew _ _) hx7; obtain ⟨z1, z2, z3, z4⟩ := bx2 L5) | (have L5 : BoxAt w7 wr.heap.size #[.int .i64 0, .slice none 0 0] := BoxAt.toExt (BoxAt.new wr _ _).drew hx7; obtain ⟨z1, z2, z3, z4⟩ := bx2 L5) | skip))
            | (go_at_call 47; refine (specProject_any hz5 hal9 HAL.out (HI9.out.toExt (by refine x'z ?_; repeat (with_reducible (first | exact x'a _ _ | exact x'b _ | exact x'c (by assumption) | refine x'd ?_ (by assumption) | refine x'e ?_ _ | refine x'f ?_ _ | refine x'g ?_ | refine x'h ?_ ?_ _ | refine x'i ?_ _ | refine x'j ?_ | refine x'k ?_ _ | refine x'l ?_ _ _ | refine x'm ?_ | assumption | (refine x'n ?_; omega) | omega)))) (by omega) (hr7.toExt (by refine x'z ?_; repeat (with_reducible (first | exact x'a _ _ | exact x'b _ | exact x'c (by assumption) | refine x'd ?_ (by assumption) | refine x'e ?_ _ | refine x'f ?_ _ | refine x'g ?_ | refine x'h ?_ ?_ _ | refine x'i ?_ _ | refine x'j ?_ | refine x'k ?_ _ | refine x'l ?_ _ _ | refine x'm ?_ | assumption | (refine x'n ?_; omega) | omega))))).mono ?_; rw [HPP.out]; rintro e w8 ⟨u0, u1, F8, rfl, hx8, hS8, _, hF8⟩; have hG8 : ∀ x ∈ F8, w7.heap.size ≤ x := (fun x hx => Nat.le_trans (size_of_ext (by refine x'z ?_; repeat (with_reducible (first | exact x'a _ _ | exact x'b _ | exact x'c (by assumption) | refine x'd ?_ (by assumption) | refine x'e ?_ _ | refine x'f ?_ _ | refine x'g ?_ | refine x'h ?_ ?_ _ | refine x'i ?_ _ | refine x'j ?_ | refine x'k ?_ _ | refine x'l ?_ _ _ | refine x'm ?_ | assumption | (refine x'n ?_; omega) | omega)))) (hF8 x hx)); rw [Option.getD_some] at hS8; obtain ⟨A8, a8, rfl, rfl, _⟩ := sRel_form hS8; have hz8 : w7.heap.size ≤ w8.heap.size := size_of_ext (by refine x'z ?_; repeat (with_reducible (first | exact x'a _ _ | exact x'b _ | exact x'c (by assumption) | refine x'd ?_ (by assumption) | refine x'e ?_ _ | refine x'f ?_ _ | refine x'g ?_ | refine x'h ?_ ?_ _ | refine x'i ?_ _ | refine x'j ?_ | refine x'k ?_ _ | refine x'l ?_ _ _ | refine x'm ?_ | assumption | (refine x'n ?_; omega) | omega))); (first | (have L3 : BoxAt w8 wr.heap.size #[.int .i64 0, .slice none 0 0] := BoxAt.toExt L5 hx8; obtain ⟨z1, z2, z3, z4⟩ := bx2 L3) | skip); (first | (have M3 : BoxAt w8 w7.heap.size #[.int .i64 0, .slice none 0 0] := BoxAt.toExt (BoxAt.new w7 _ _) hx8; obtain ⟨y1, y2, y3, y4⟩ := bx2 M3) | (have M3 : BoxAt w8 w7.heap.size #[.int .i64 0, .slice none 0 0] := BoxAt.toExt (BoxAt.new w7.drew _ _) hx8; obtain ⟨y1, y2, y3, y4⟩ := bx2 M3) | (have M3 : BoxAt w8 w7.heap.size #[.int .i64 0, .slice none 0 0] := BoxAt.toExt (BoxAt.new w7 _ _).drew hx8; obtain ⟨y1, y2, y3, y4⟩ := bx2 M3) | skip)))
          all_goals
            go_wp2_with fail
            go_meet
            have hdr : wr.drew.heap.size = wr.heap.size := rfl
            first
              | exact ⟨w8.heap.size, A8, a8, rfl, rfl, BoxAt.new _ _ _, sRel_v _ _ _ (OD.toExt hS8 (alloc_ext _ _)), (by refine x'z ?_; repeat (with_reducible (first | exact x'a _ _ | exact x'b _ | exact x'c (by assumption) | refine x'd ?_ (by assumption) | refine x'e ?_ _ | refine x'f ?_ _ | refine x'g ?_ | refine x'h ?_ ?_ _ | refine x'i ?_ _ | refine x'j ?_ | refine x'k ?_ _ | refine x'l ?_ _ _ | refine x'm ?_ | assumption | (refine x'n ?_; omega) | omega)))⟩
              | exact ⟨wr.heap.size, A8, a8, rfl, rfl, (by repeat (with_reducible (first | assumption | exact BoxAt.new _ _ _ | apply BoxAt.set2 | refine BoxAt.set2' ?_ (by omega) | apply BoxAt.setP0 | apply BoxAt.setP1 | refine BoxAt.setO ?_ (by omega) | refine BoxAt.alloc ?_ _ | refine BoxAt.drew ?_ | refine BoxAt.toExt ?_ (by assumption)))), sRel_v _ _ _ (OD.chg (G := [wr.heap.size]) hS8 (by repeat (with_reducible (first | exact Chg.refl _ _ | refine Chg.trans0 ?_ (by assumption) | refine Chg.extS ?_ _ | refine Chg.alloc ?_ _ | refine Chg.drew ?_ | refine Chg.setCell ?_ (.inl (by simp)) _))) (fun x hx hm => by have := hG8 x hx; have h9 := L5.1; rw [List.mem_singleton.1 hm] at this; omega)), (by refine x'z ?_; repeat (with_reducible (first | exact x'a _ _ | exact x'b _ | exact x'c (by assumption) | refine x'd ?_ (by assumption) | refine x'e ?_ _ | refine x'f ?_ _ | refine x'g ?_ | refine x'h ?_ ?_ _ | refine x'i ?_ _ | refine x'j ?_ | refine x'k ?_ _ | refine x'l ?_ _ _ | refine x'm ?_ | assumption | (refine x'n ?_; omega) | omega)))⟩
              | exact ⟨w7.heap.size, A8, a8, rfl, rfl, (by repeat (with_reducible (first | assumption | exact BoxAt.new _ _ _ | apply BoxAt.set2 | refine BoxAt.set2' ?_ (by omega) | apply BoxAt.setP0 | apply BoxAt.setP1 | refine BoxAt.setO ?_ (by omega) | refine BoxAt.alloc ?_ _ | refine BoxAt.drew ?_ | refine BoxAt.toExt ?_ (by assumption)))), sRel_v _ _ _ (OD.chg (G := [w7.heap.size]) hS8 (by repeat (with_reducible (first | exact Chg.refl _ _ | refine Chg.trans0 ?_ (by assumption) | refine Chg.extS ?_ _ | refine Chg.alloc ?_ _ | refine Chg.drew ?_ | refine Chg.setCell ?_ (.inl (by simp)) _))) (fun x hx hm => by have := hF8 x hx; rw [World.size_alloc] at this; rw [List.mem_singleton.1 hm] at this; omega)), (by refine x'z ?_; repeat (with_reducible (first | exact x'a _ _ | exact x'b _ | exact x'c (by assumption) | refine x'd ?_ (by assumption) | refine x'e ?_ _ | refine x'f ?_ _ | refine x'g ?_ | refine x'h ?_ ?_ _ | refine x'i ?_ _ | refine x'j ?_ | refine x'k ?_ _ | refine x'l ?_ _ _ | refine x'm ?_ | assumption | (refine x'n ?_; omega) | omega)))⟩
        obtain ⟨b7, A7, a7, rfl, rfl, h7, hv7, hx7⟩ := hcut
        obtain ⟨W7, rfl⟩ : ∃ W, W = wc := ⟨_, rfl⟩
        have HV7 := Lib.hid hv7
        have HVB7 := Lib.hid (VD.toExt HVB.out hx7)
        have cb17 := cell_x cb1 hgb hx7
        have cb27 := cell_x cb2 hgb hx7
        have hgb7 := lt_x hgb hx7
        have hy7 := trans_ext hy hx7
        obtain ⟨l7, k70, k71, f7⟩ := bx2 h7
        clear h7 hv7 hx7 cb0 cb1 cb2 hgb lD kD0 fD lQ kQ0 kQ1 kQ2 fQ l9 k90 k91 f9 hc0 hc1
        go_upto_region 16 with fail
        refine wp_region_ext (by kernel_rfl) (by kernel_rfl) ?_
        repeat (go_big_quiet_step (first
          | (go_at_call 48; exact quietEb (specEqualRelations_any HBD.out (VD.toExt HVB7.out ⟨_, rfl⟩) HBD.out (VD.toExt HV7.out ⟨_, rfl⟩)) (decide_eq_true rfl))))
        refine wpQuiet_nil ?_
        rintro _ ⟨zz, rfl⟩
        go_wp2_with fail
        exact ⟨⟨k + 1, by go_num, by omega, trans_ext hy7 ⟨zz, rfl⟩⟩, by simp [intOf]; omega⟩
      · go_wp2_with fail
        go_ret
        exact ⟨rfl, trans_ext HX.out hy⟩
theorem law_JE (A : Option Addr) (c : Nat) (bs : List UInt8) (w : World) (hl : bs.length ≤ 9223372036854775807) (h1 : RU w A bs) : Calls Try.prog 14 #[.slice A bs.length c] w fun e w' => e = .returned (.bool true) ∧ ∃ y, w' = ext w y := by
  by_cases hb : 1048576 < bs.length
  · exact law_JE_big A c bs w hb hl
  · exact law_JE_m A c bs w (by omega) h1
set_option maxRecDepth 100000 in
theorem lifted_FnJoinTreeEvaluation (os : Os) (started : os.Started) (H : Type) (enc : TypeId × Value → H) :
    ReturnsInHanded {} Try.checked os 14 .any (Rows.fnJoinTreeEvaluationSpec.pre6 enc Try.prog Try.f14 Rows.fnJoinTreeEvaluationRow.domain false) (Rows.fnJoinTreeEvaluationSpec.post enc Try.prog Try.f14 false true false false) := by
  refine returnsInHanded_of_change (C := Try.checked) Try.own started (by kernel_rfl) Try.func14 (ChangeSpec.witness6 (enc := enc) (C := Try.checked) false ⟨#[], #[.slice none 0 0], []⟩ 8 (by kernel_rfl) (by kernel_rfl) (by kernel_rfl) (by kernel_rfl)) ?_
  intro W base args ds gs before hval0 hW hcnd _
  have hval : ∀ (j : Nat) t v, Try.f14.params[j]? = some t → args[j]? = some v → Value.okWide Try.prog W .any base t v := hval0
  clear hval0 hcnd
  obtain ⟨_, _, hA0, hV0, _, _, _⟩ := id hW
  have hA : DataW.TrodAll enc Try.prog W 0 (fun _ => true) true Try.f14.params.toList args.toList ds _ := hA0
  clear hA0
  rw [Try.params14] at hA hval
  obtain ⟨v0, d0, rfl, rfl, h0⟩ := trodAll_one hA
  obtain ⟨x0, ⟨A0, c0, hc0, r0⟩, l0, _⟩ := openArg oBytes h0
  obtain rfl := one1 hc0 (okWide_slice Try.underlying62 (hval 0 _ v0 rfl rfl))
  refine (law_JE A0 _ x0 W (le_maxLen l0) r0).mono fun e W' ⟨he, hw⟩ => ?_
  exact ⟨_, he, law_post Try.laidOut hW rfl rfl rfl Try.underlying4 (by kernel_rfl) hw⟩
theorem fnJoinTreeEvaluation_and {a b : Bool} (ha : a = true) (hb : b = true) : (a && b) = true := by rw [ha, hb]; rfl
set_option maxHeartbeats 16000000 in
theorem fnJoinTreeEvaluation_closed : joinedFacts Try.checked.prog 14 Try.f14 Rows.fnJoinTreeEvaluationSpec Rows.fnJoinTreeEvaluationRow = true := by
  unfold joinedFacts
  repeat' (with_reducible refine fnJoinTreeEvaluation_and ?_ ?_)
  all_goals (as_aux_lemma => kernel_rfl)
theorem fnJoinTreeEvaluation_holds : Rows.FnJoinTreeEvaluationSaid :=
  OpenClaim.holds_of_wide 14 Try.f14 rfl rfl rfl rfl rfl rfl rfl ⟨rfl, rfl, rfl, rfl, rfl⟩ rfl rfl rfl rfl rfl (by kernel_rfl) Try.func14 fnJoinTreeEvaluation_closed
    (of_decide_eq_true (by kernel_rfl)) (by unfold Func.isWrapper; rw [if_neg (of_decide_eq_false (by kernel_rfl))]; exact ⟨rfl, rfl⟩)
    (fun os started H enc _ => lifted_FnJoinTreeEvaluation os started H enc)
end Go.Proofs.Ytfigcfajkilhiaa
