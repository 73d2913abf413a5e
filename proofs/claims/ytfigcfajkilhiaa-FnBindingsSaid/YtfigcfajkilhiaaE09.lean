/- Contracts of functions that the statements reach, joined from several texts: EvalQ, RefPl, Draw15, VrBd, BdBd, Draw16, IsBind. -/
import Derived.Test.YtfigcfajkilhiaaE08
import Derived.Test.YtfigcfajkilhiaaE05
import Derived.Test.YtfigcfajkilhiaaE06
import Derived.Test.YtfigcfajkilhiaaE01
import Derived.Test.YtfigcfajkilhiaaE07
import Derived.Deep.RegionHeld3
import Derived.Test.YtfigcfajkilhiaaE04
import Derived.Test.YtfigcfajkilhiaaE02
/- A query's answer: both ways. -/
namespace Go.Proofs.Ytfigcfajkilhiaa
open Go.RowKit
set_option maxRecDepth 100000 in
set_option maxHeartbeats 8000000 in
theorem EvaluateQuery_any {A B C : Option Addr} {c e g : Nat} {d : Dbd} {q : Qd} {w : World} (hd : WDb d) (h1 : RV 3 vTb w A d) (hb : BQ q) (h2 : vQ w [.int .i64 q.1, .slice B q.2.1.length e, .slice C q.2.2.length g] q) :
    Calls Try.prog 38 #[.agg #[.slice A d.length c], .agg #[.int .i64 q.1, .slice B q.2.1.length e, .slice C q.2.2.length g]] w (RelOut (evalR d q) w) := by
  have HD := Lib.hid hd
  have HB := Lib.hid hb
  have HV := Lib.hid h2
  have hgo := (vQ_get h2).2.1
  have hgl : q.2.2.length ≤ 1000000000 := by have := hb.2.2; omega
  obtain ⟨o, ho⟩ : ∃ o, bindR d q = o := ⟨_, rfl⟩
  have HO := Lib.hid ho
  have hbl := fun r h => bind_ok (d := d) (q := q) (r := r) h
  have hba := fun r h => bind_ar (d := d) (q := q) (r := r) h
  rw [ho] at hbl hba
  have HBL := Lib.hid hbl
  have HBA := Lib.hid hba
  obtain ⟨t1, ht1⟩ : ∃ t, iqfB d q = t := ⟨_, rfl⟩
  have HT1 := Lib.hid ht1
  have HQ := Lib.hid (fun (h : t1 = true) => qok (show iqfB d q = true by rw [ht1, h]))
  clear hd hb h2 ho hbl hba ht1
  go_enter Try.func38, Try.ntmps38
  go_upto_region 1 with fail
  refine wp_name ?_
  intro W hW
  have xW : ∃ y, W = ext w y := by rw [hW.out]; exact (by refine x'z ?_; repeat (with_reducible (first | apply x'a | apply x'b | exact x'c (by assumption) | refine x'd ?_ (by assumption) | apply x'e | apply x'f | apply x'g | apply x'h | apply x'i | apply x'j | apply x'k | apply x'l | apply x'm | assumption | (refine x'n ?_; omega) | omega)))
  have PW : BoxAt W w.heap.size #[.slice A d.length c] := by rw [hW.out]; exact (by repeat (with_reducible (first | assumption | exact BoxAt.new _ _ _ | apply BoxAt.set10 | apply BoxAt.set2 | refine BoxAt.set2' ?_ (by omega) | apply BoxAt.setP0 | apply BoxAt.setP1 | refine BoxAt.setO ?_ (by omega) | refine BoxAt.alloc ?_ _ | refine BoxAt.drew ?_ | refine BoxAt.toExt ?_ (by assumption))))
  have QW : BoxAt W (w.heap.size + 1) #[.int .i64 q.1, .slice B q.2.1.length e, .slice C q.2.2.length g] := by
    rw [hW.out]
    refine ⟨?_, fun j => ?_, fun j => ?_⟩ <;> go_simp
  have RW : BoxAt W (w.heap.size + 1 + 1) #[.int .i64 0, .slice none 0 0] := by rw [hW.out]; refine ⟨?_, fun j => ?_, fun j => ?_⟩ <;> go_simp
  obtain ⟨lp, p0, fp⟩ := bx1 PW
  obtain ⟨lq, q0, q1, q2, fq⟩ := box3 QW
  have hRW := RW.1
  have hz0 := size_of_ext xW
  clear hW
  cases o with
  | none =>
    have HZ := Lib.hid (evalR_no HO.out)
    go_wp2_with (go_at_call 106; refine (bindings_any HD.out (h1.toExt xW) HB.out (VD.toExt HV.out xW)).mono ?_; rw [HO.out]; rintro e w1 ⟨u0, u1, F1, rfl, hx1, hS1, hN1, hF1⟩; obtain ⟨A1, c1, rfl, rfl, hI1⟩ := sRel_form hS1; obtain ⟨lr1, r10, r11, fr1⟩ := bx2 (RW.toExt hx1); simp only [Option.getD_none, Option.isSome_none])
    refine bodyPost_ret (v := .tuple #[.agg #[.int .i64 0, .slice none 0 0], .bool false]) (by simp [results, Try.results38, go_sem, *]) rfl (relOut_none HZ.out rfl (by refine x'z ?_; repeat (with_reducible (first | apply x'a | apply x'b | exact x'c (by assumption) | refine x'd ?_ (by assumption) | apply x'e | apply x'f | apply x'g | apply x'h | apply x'i | apply x'j | apply x'k | apply x'l | apply x'm | assumption | (refine x'n ?_; omega) | omega))))
  | some r =>
    obtain ⟨b1, b2⟩ := HBL.out r rfl
    have hra := HBA.out r rfl
    have HZ := Lib.hid (evalR_some HO.out)
    obtain ⟨p, hp⟩ : ∃ p, projR r q.2.2 = p := ⟨_, rfl⟩
    rw [hp] at HZ
    have HP := Lib.hid (show projR (r.1, r.2) q.2.2 = p from hp)
    have hrl : r.2.length ≤ 1000000000 := by omega
    have HRE := Lib.hid (fun x (hx : x ∈ r.2) => show x.length ≤ 1000000000 by have := b2 x hx; omega)
    have hI64 : I64 r.1 := by rw [hra]; exact HB.out.1
    clear hp b1 b2 hra
    go_upto_region 4 with (go_at_call 106; refine (bindings_any HD.out (h1.toExt xW) HB.out (VD.toExt HV.out xW)).mono ?_; rw [HO.out]; rintro e w1 ⟨u0, u1, F1, rfl, hx1, hS1, hN1, hF1⟩; obtain ⟨A1, c1, rfl, rfl, hI1⟩ := sRel_form hS1; simp only [Option.getD_some, Option.isSome_some] at hI1 ⊢)
    refine wp_name ?_
    intro w2 hw2
    have x12 : ∃ y, w2 = ext w1 y := by rw [hw2.out]; exact (by refine x'z ?_; repeat (with_reducible (first | apply x'a | apply x'b | exact x'c (by assumption) | refine x'd ?_ (by assumption) | apply x'e | apply x'f | apply x'g | apply x'h | apply x'i | apply x'j | apply x'k | apply x'l | apply x'm | assumption | (refine x'n ?_; omega) | omega)))
    have X2 : BoxAt w2 w1.heap.size #[.int .i64 r.1, .slice A1 r.2.length c1] := by rw [hw2.out]; exact (by repeat (with_reducible (first | assumption | exact BoxAt.new _ _ _ | apply BoxAt.set2 | refine BoxAt.set2' ?_ (by omega) | apply BoxAt.setP0 | apply BoxAt.setP1 | refine BoxAt.setO ?_ (by omega) | refine BoxAt.alloc ?_ _ | refine BoxAt.drew ?_ | refine BoxAt.toExt ?_ (by assumption))))
    obtain ⟨bX, qX⟩ : ∃ b, w1.heap.size = b := ⟨_, rfl⟩
    have hzX := size_of_ext hx1
    have hz12 := size_of_ext x12
    rw [qX] at X2 hzX hz12 ⊢
    obtain ⟨lx2, x20, x21, fx2⟩ := bx2 X2
    have xW2 := trans_ext hx1 x12
    have R2 := RW.toExt xW2
    obtain ⟨lr2, r20, r21, fr2⟩ := bx2 R2
    obtain ⟨lq2, q20, q21, q22, fq2⟩ := box3 (QW.toExt xW2)
    have hrv := ((vII_get (sII_v _ _ _ hI1)).2).toExt x12
    have hgo2 := hgo.toExt (trans_ext xW xW2)
    clear hw2 qX lp p0 fp lq q0 q1 q2 fq
    go_wp2_with (go_at_call 80; refine (Project_any hI64 hrl HRE.out hrv hgl hgo2).mono ?_; rw [HP.out]; rintro e w3 ⟨u0, u1, F3, rfl, hx3, hS3, hN3, hF3⟩; obtain ⟨A3, c3, rfl, rfl, hI3⟩ := sRel_form hS3; obtain ⟨lr3, r30, r31, fr3⟩ := bx2 (R2.toExt hx3))
    have hz3 := size_of_ext hx3
    refine bodyPost_ret (v := .tuple #[.agg #[.int .i64 (p.getD (0, [])).1, .slice A3 (p.getD (0, [])).2.length c3], .bool p.isSome]) (by simp [results, Try.results38, go_sem, *]) rfl ⟨_, _, F3, by rw [HZ.out], (by refine x'z ?_; repeat (with_reducible (first | apply x'a | apply x'b | exact x'c (by assumption) | refine x'd ?_ (by assumption) | apply x'e | apply x'f | apply x'g | apply x'h | apply x'i | apply x'j | apply x'k | apply x'l | apply x'm | assumption | (refine x'n ?_; omega) | omega))), ?_, hN3, fun b hb => ?_⟩
    · rw [HZ.out]
      refine sRel_mk (z := (p.getD (0, [])).1) (rows := (p.getD (0, [])).2) ?_
      refine OD.chg (E := sII) (G := [w.heap.size + 1 + 1]) hI3 (by repeat (with_reducible (first | exact Chg.refl _ _ | refine Chg.trans0 ?_ (by assumption) | refine Chg.extS ?_ _ | refine Chg.alloc ?_ _ | refine Chg.drew ?_ | refine Chg.setCell ?_ (.inl (by simp)) _))) ?_
      intro b hb h
      have := hF3 b hb
      rw [List.mem_singleton.1 h] at this
      omega
    · have := hF3 b hb
      omega
set_option maxRecDepth 100000 in
set_option maxHeartbeats 8000000 in
theorem specEvaluateQuery_any {A B C : Option Addr} {c e g : Nat} {d : Dbd} {q : Qd} {w : World} (hd : WDb d) (h1 : RV 3 vTb w A d) (hb : BQ q) (h2 : vQ w [.int .i64 q.1, .slice B q.2.1.length e, .slice C q.2.2.length g] q) :
    Calls Try.prog 37 #[.agg #[.slice A d.length c], .agg #[.int .i64 q.1, .slice B q.2.1.length e, .slice C q.2.2.length g]] w (RelOut (evalR d q) w) := by
  have HD := Lib.hid hd
  have HB := Lib.hid hb
  have HV := Lib.hid h2
  have hgo := (vQ_get h2).2.1
  have hgl : q.2.2.length ≤ 1000000000 := by have := hb.2.2; omega
  obtain ⟨o, ho⟩ : ∃ o, bindR d q = o := ⟨_, rfl⟩
  have HO := Lib.hid ho
  have hbl := fun r h => bind_ok (d := d) (q := q) (r := r) h
  have hba := fun r h => bind_ar (d := d) (q := q) (r := r) h
  rw [ho] at hbl hba
  have HBL := Lib.hid hbl
  have HBA := Lib.hid hba
  obtain ⟨t1, ht1⟩ : ∃ t, iqfB d q = t := ⟨_, rfl⟩
  have HT1 := Lib.hid ht1
  have HQ := Lib.hid (fun (h : t1 = true) => qok (show iqfB d q = true by rw [ht1, h]))
  clear hd hb h2 ho hbl hba ht1
  go_enter Try.func37, Try.ntmps37
  go_upto_region 1 with fail
  refine wp_name ?_
  intro W hW
  have xW : ∃ y, W = ext w y := by rw [hW.out]; exact (by refine x'z ?_; repeat (with_reducible (first | apply x'a | apply x'b | exact x'c (by assumption) | refine x'd ?_ (by assumption) | apply x'e | apply x'f | apply x'g | apply x'h | apply x'i | apply x'j | apply x'k | apply x'l | apply x'm | assumption | (refine x'n ?_; omega) | omega)))
  have PW : BoxAt W w.heap.size #[.slice A d.length c] := by rw [hW.out]; exact (by repeat (with_reducible (first | assumption | exact BoxAt.new _ _ _ | apply BoxAt.set10 | apply BoxAt.set2 | refine BoxAt.set2' ?_ (by omega) | apply BoxAt.setP0 | apply BoxAt.setP1 | refine BoxAt.setO ?_ (by omega) | refine BoxAt.alloc ?_ _ | refine BoxAt.drew ?_ | refine BoxAt.toExt ?_ (by assumption))))
  have QW : BoxAt W (w.heap.size + 1) #[.int .i64 q.1, .slice B q.2.1.length e, .slice C q.2.2.length g] := by
    rw [hW.out]
    refine ⟨?_, fun j => ?_, fun j => ?_⟩ <;> go_simp
  have RW : BoxAt W (w.heap.size + 1 + 1) #[.int .i64 0, .slice none 0 0] := by rw [hW.out]; refine ⟨?_, fun j => ?_, fun j => ?_⟩ <;> go_simp
  obtain ⟨lp, p0, fp⟩ := bx1 PW
  obtain ⟨lq, q0, q1, q2, fq⟩ := box3 QW
  have hRW := RW.1
  have hz0 := size_of_ext xW
  clear hW
  go_upto_region 2 with (go_at_call 31; refine (specAllBindings_any HD.out (h1.toExt xW) HB.out (VD.toExt HV.out xW)).mono ?_; rw [HO.out]; rintro e w1 ⟨u0, u1, F1, rfl, hx1, hS1, hN1, hF1⟩; obtain ⟨A1, c1, rfl, rfl, hI1⟩ := sRel_form hS1)
  refine wp_name ?_
  intro w2 hw2
  have x12 : ∃ y, w2 = ext w1 y := by rw [hw2.out]; exact (by refine x'z ?_; repeat (with_reducible (first | apply x'a | apply x'b | exact x'c (by assumption) | refine x'd ?_ (by assumption) | apply x'e | apply x'f | apply x'g | apply x'h | apply x'i | apply x'j | apply x'k | apply x'l | apply x'm | assumption | (refine x'n ?_; omega) | omega)))
  have X2 : BoxAt w2 w1.heap.size #[.int .i64 (o.getD (0, [])).1, .slice A1 (o.getD (0, [])).2.length c1] := by rw [hw2.out]; exact (by repeat (with_reducible (first | assumption | exact BoxAt.new _ _ _ | apply BoxAt.set2 | refine BoxAt.set2' ?_ (by omega) | apply BoxAt.setP0 | apply BoxAt.setP1 | refine BoxAt.setO ?_ (by omega) | refine BoxAt.alloc ?_ _ | refine BoxAt.drew ?_ | refine BoxAt.toExt ?_ (by assumption))))
  obtain ⟨bX, qX⟩ : ∃ b, w1.heap.size = b := ⟨_, rfl⟩
  have hzX := size_of_ext hx1
  have hz12 := size_of_ext x12
  rw [qX] at X2 hzX hz12 ⊢
  have xW2 := trans_ext hx1 x12
  have xw2 := trans_ext xW xW2
  have P2 := PW.toExt xW2
  have Q2 := QW.toExt xW2
  have R2 := RW.toExt xW2
  obtain ⟨lx2, x20, x21, fx2⟩ := bx2 X2
  obtain ⟨lp2, p20, fp2⟩ := bx1 P2
  obtain ⟨lr2, r20, r21, fr2⟩ := bx2 R2
  obtain ⟨lq2, q20, q21, q22, fq2⟩ := box3 Q2
  have hrv := ((vII_get (sII_v _ _ _ hI1)).2).toExt x12
  have hgo2 := hgo.toExt xw2
  clear hw2 qX lp p0 fp lq q0 q1 q2 fq
  cases t1 with
  | false =>
    have HZ := Lib.hid (evalR_no (d := d) (q := q) (bind_no HT1.out))
    go_wp2_with (go_at_call 75; refine (specIsQueryFor_any HD.out (h1.toExt xw2) HB.out (VD.toExt HV.out xw2)).mono ?_; rintro e w3 ⟨rfl, hx3⟩; rw [HT1.out]; obtain ⟨lr3, r30, r31, fr3⟩ := bx2 (R2.toExt hx3))
    refine bodyPost_ret (v := .tuple #[.agg #[.int .i64 0, .slice none 0 0], .bool false]) (by simp [results, Try.results37, go_sem, *]) rfl (relOut_none HZ.out rfl (by refine x'z ?_; repeat (with_reducible (first | apply x'a | apply x'b | exact x'c (by assumption) | refine x'd ?_ (by assumption) | apply x'e | apply x'f | apply x'g | apply x'h | apply x'i | apply x'j | apply x'k | apply x'l | apply x'm | assumption | (refine x'n ?_; omega) | omega))))
  | true =>
    have hn1 := (HQ.out rfl).n1
    cases o with
    | none =>
      have HZ := Lib.hid (evalR_no HO.out)
      simp only [Option.getD_none] at X2 x20 x21 ⊢
      have hne : ((0 : Int) != q.1) = true := by simp; omega
      go_wp2_with (go_at_call 75; refine (specIsQueryFor_any HD.out (h1.toExt xw2) HB.out (VD.toExt HV.out xw2)).mono ?_; rintro e w3 ⟨rfl, hx3⟩; rw [HT1.out]; obtain ⟨lr3, r30, r31, fr3⟩ := bx2 (R2.toExt hx3); obtain ⟨lx3, x30, x31, fx3⟩ := bx2 (X2.toExt hx3); obtain ⟨lq3, q30, q31, q32, fq3⟩ := box3 (Q2.toExt hx3))
      refine bodyPost_ret (v := .tuple #[.agg #[.int .i64 0, .slice none 0 0], .bool false]) (by simp [results, Try.results37, go_sem, *]) rfl (relOut_none HZ.out rfl (by refine x'z ?_; repeat (with_reducible (first | apply x'a | apply x'b | exact x'c (by assumption) | refine x'd ?_ (by assumption) | apply x'e | apply x'f | apply x'g | apply x'h | apply x'i | apply x'j | apply x'k | apply x'l | apply x'm | assumption | (refine x'n ?_; omega) | omega))))
    | some r =>
      simp only [Option.getD_some] at X2 x20 x21 hrv hI1 ⊢
      obtain ⟨b1, b2⟩ := HBL.out r rfl
      have hra := HBA.out r rfl
      have hn5 := (HQ.out rfl).n5
      have HZ := Lib.hid (evalR_some HO.out)
      obtain ⟨p, hp⟩ : ∃ p, projR r q.2.2 = p := ⟨_, rfl⟩
      rw [hp] at HZ
      have HP := Lib.hid (show projR (r.1, r.2) q.2.2 = p from hp)
      have hrl : r.2.length ≤ 1000000000 := by omega
      have HRE := Lib.hid (fun x (hx : x ∈ r.2) => show x.length ≤ 1000000000 by have := b2 x hx; omega)
      have hrb : -1000000000 ≤ r.1 ∧ r.1 ≤ 1000000000 := by omega
      have hne : (r.1 != q.1) = false := by simp [hra]
      clear hp b1 b2 hra
      go_upto_region 4 with (go_at_call 75; refine (specIsQueryFor_any HD.out (h1.toExt xw2) HB.out (VD.toExt HV.out xw2)).mono ?_; rintro e w3 ⟨rfl, hx3⟩; rw [HT1.out]; obtain ⟨lx3, x30, x31, fx3⟩ := bx2 (X2.toExt hx3); obtain ⟨lq3, q30, q31, q32, fq3⟩ := box3 (Q2.toExt hx3))
      have R3 := R2.toExt hx3
      have hrv3 := hrv.toExt hx3
      have hgo3 := hgo2.toExt hx3
      have xw3 := trans_ext xW2 hx3
      have hz3 := size_of_ext xw3
      clear lx2 x20 x21 fx2 lp2 p20 fp2 lr2 r20 r21 fr2 lq2 q20 q21 q22 fq2
      go_upto_region 5 with (go_at_call 47; refine (specProject_any hrb hrl HRE.out (hrv3.toExt (by refine x'z ?_; repeat (with_reducible (first | apply x'a | apply x'b | exact x'c (by assumption) | refine x'd ?_ (by assumption) | apply x'e | apply x'f | apply x'g | apply x'h | apply x'i | apply x'j | apply x'k | apply x'l | apply x'm | assumption | (refine x'n ?_; omega) | omega)))) hgl (hgo3.toExt (by refine x'z ?_; repeat (with_reducible (first | apply x'a | apply x'b | exact x'c (by assumption) | refine x'd ?_ (by assumption) | apply x'e | apply x'f | apply x'g | apply x'h | apply x'i | apply x'j | apply x'k | apply x'l | apply x'm | assumption | (refine x'n ?_; omega) | omega))))).mono ?_; rw [HP.out]; rintro e w8 ⟨u0, u1, F8, rfl, hx8, hS8, hN8, hF8⟩; obtain ⟨A8, c8, rfl, rfl, hI8⟩ := sRel_form hS8)
      refine wp_name ?_
      intro w4 hw4
      have x84 : ∃ y, w4 = ext w8 y := by rw [hw4.out]; exact (by refine x'z ?_; repeat (with_reducible (first | apply x'a | apply x'b | exact x'c (by assumption) | refine x'd ?_ (by assumption) | apply x'e | apply x'f | apply x'g | apply x'h | apply x'i | apply x'j | apply x'k | apply x'l | apply x'm | assumption | (refine x'n ?_; omega) | omega)))
      have BY : BoxAt w4 w8.heap.size #[.int .i64 (p.getD (0, [])).1, .slice A8 (p.getD (0, [])).2.length c8] := by rw [hw4.out]; exact (by repeat (with_reducible (first | assumption | exact BoxAt.new _ _ _ | apply BoxAt.set2 | refine BoxAt.set2' ?_ (by omega) | apply BoxAt.setP0 | apply BoxAt.setP1 | refine BoxAt.setO ?_ (by omega) | refine BoxAt.alloc ?_ _ | refine BoxAt.drew ?_ | refine BoxAt.toExt ?_ (by assumption))))
      obtain ⟨bY, qY⟩ : ∃ b, w8.heap.size = b := ⟨_, rfl⟩
      rw [qY] at BY ⊢
      have hz8 := size_of_ext hx8
      have hI8 : sII w4 _ _ _ := OD.toExt hI8 x84
      obtain ⟨lr4, r40, r41, fr4⟩ := bx2 (R3.toExt (trans_ext hx8 x84))
      obtain ⟨ly4, y40, y41, fy4⟩ := bx2 BY
      clear lx3 x30 x31 fx3 lq3 q30 q31 q32 fq3 hw4 qY
      go_wp2_with fail
      refine bodyPost_ret (v := .tuple #[.agg #[.int .i64 (p.getD (0, [])).1, .slice A8 (p.getD (0, [])).2.length c8], .bool p.isSome]) (by simp [results, Try.results37, go_sem, *]) rfl ⟨_, _, F8, by rw [HZ.out], (by refine x'z ?_; repeat (with_reducible (first | apply x'a | apply x'b | exact x'c (by assumption) | refine x'd ?_ (by assumption) | apply x'e | apply x'f | apply x'g | apply x'h | apply x'i | apply x'j | apply x'k | apply x'l | apply x'm | assumption | (refine x'n ?_; omega) | omega))), ?_, hN8, fun b hb => ?_⟩
      · rw [HZ.out]
        refine sRel_mk (z := (p.getD (0, [])).1) (rows := (p.getD (0, [])).2) ?_
        refine OD.chg (E := sII) (G := [w.heap.size + 1 + 1]) hI8 (by repeat (with_reducible (first | exact Chg.refl _ _ | refine Chg.trans0 ?_ (by assumption) | refine Chg.extS ?_ _ | refine Chg.alloc ?_ _ | refine Chg.drew ?_ | refine Chg.setCell ?_ (.inl (by simp)) _))) ?_
        intro b hb h
        have := hF8 b hb
        rw [List.mem_singleton.1 h] at this
        omega
      · have := hF8 b hb
        omega
end Go.Proofs.Ytfigcfajkilhiaa

/- What the laws on bindings and evaluation need. No program in it. -/
namespace Go.Proofs.Ytfigcfajkilhiaa
open Go.RowKit
theorem pick_okv {r cols : List Int} (hr : rowV r = true) (hc : ∀ v ∈ cols, 0 ≤ v ∧ v < r.length) : rowV (pickL r cols) = true := by
  rw [rowV_iff] at hr ⊢
  intro x hx
  unfold pickL at hx
  obtain ⟨v, hv, rfl⟩ := List.mem_map.1 hx
  have := hc v hv
  rw [getDl _ _ (show v.toNat < r.length by omega)]
  exact hr _ (List.getElem_mem _)
theorem projR_ok {d : Rd} {cols : List Int} (h : rowsB d.1 d.2 = true) (hf : fitsC d.1 cols = true) : projR d cols = some ((cols.length : Int), sortR (d.2.map fun r => pickL r cols)) := by
  obtain ⟨f1, f2⟩ := fitsC_iff.1 hf
  obtain ⟨a1, a2, a3, a4, a5⟩ := rowsB_iff.1 h
  unfold projR
  rw [if_pos ⟨h, hf⟩]
  refine newR_some (rowsIn_iff.2 fun r hr => ?_) (by omega) (by omega) ?_
  · obtain ⟨s, hs, rfl⟩ := List.mem_map.1 hr
    have h4 := a4 s hs
    exact ⟨by rw [pickL_length], pick_okv h4.2 fun v hv => by have := f2 v hv; omega⟩
  · refine Nat.le_trans (sortR_length _) ?_
    rw [List.length_map]
    exact a3
theorem brel_of {a : Int} {rows : List (List Int)} (ha : 0 ≤ a ∧ a ≤ 5) (hn : rows.length ≤ 4000) (hl : ∀ x ∈ rows, x.length ≤ 5) : BRel (a, rows) := by
  have h2 := sum_len (m := 5) (l := rows) hl
  exact ⟨⟨by dsimp only; omega, by dsimp only; omega⟩, by dsimp only; omega, by dsimp only; omega⟩
theorem iqf_vq {d : Dbd} {q : Qd} (h : iqfB d q = true) : vqB q = true := by
  unfold iqfB at h
  simp only [Bool.and_eq_true] at h
  exact h.1.1
theorem bind_few {d : Dbd} {q : Qd} (h : iqfB d q = true) (hd : FewD d) (hq : FewQ q) : bindR d q = some (q.1, allB d q) ∧ (allB d q).length ≤ 4000 ∧ rowsB q.1 (allB d q) = true := by
  have hn := few_bindings (qok h) hd hq
  refine ⟨?_, hn, by rw [allB_rowsB (qok h)]; exact decide_eq_true hn⟩
  unfold bindR
  rw [if_pos ⟨h, hn⟩]
theorem out_fit {d : Dbd} {q : Qd} (h : iqfB d q = true) : fitsC q.1 q.2.2 = true := fitsC_iff.2 ⟨(vqB_facts (iqf_vq h)).2.1, (qok h).out⟩
theorem eval_few {d : Dbd} {q : Qd} (h : iqfB d q = true) (hd : FewD d) (hq : FewQ q) :
    ∃ p, projR (q.1, allB d q) q.2.2 = some p ∧ evalR d q = some p ∧ BRel p := by
  obtain ⟨h1, h2, h3⟩ := bind_few h hd hq
  have h4 := projR_ok (d := (q.1, allB d q)) h3 (out_fit h)
  have h5 := (vqB_facts (iqf_vq h)).2.1
  refine ⟨_, h4, ?_, brel_of ⟨by omega, by omega⟩ ?_ fun x hx => ?_⟩
  · rw [evalR_some h1, h4]
  · refine Nat.le_trans (sortR_length _) ?_
    rw [List.length_map]
    exact h2
  · obtain ⟨s, _, rfl⟩ := List.mem_map.1 (mem_sortR.1 hx)
    rw [pickL_length]
    exact h5
theorem eval_none {d : Dbd} {q : Qd} (h : iqfB d q = false) : evalR d q = none := evalR_no (bind_no h)
theorem allB_rows {d : Dbd} {q : Qd} (h : iqfB d q = true) : ∀ x ∈ allB d q, (x.length : Int) = q.1 ∧ x.length ≤ 5 := fun x hx => by
  have h1 := (allB_row (qok h) hx).1
  have h5 := (qok h).n5
  exact ⟨h1, by omega⟩
end Go.Proofs.Ytfigcfajkilhiaa

/- The reference's draws of an atom over a database. -/
namespace Go.Proofs.Ytfigcfajkilhiaa
open Go.RowKit
def DabP (w : World) (e : Ending) (w' : World) : Prop := ∃ A c d B b s xs, e = .returned (.tuple #[.agg #[.slice A d.length c], .agg #[.string s, .slice B xs.length b]]) ∧ RV 3 vTb w' A d ∧ RI w' B xs ∧ DrD d ∧ s.size ≤ 4 ∧ xs.length ≤ 5 ∧ ∃ y, w' = ext w y
theorem atom_at {w : World} {ga n c : Nat} {ats : List At} {F : List Nat} {k : Nat} (h : SV 81 2 sAt w (.slice (some ⟨ga, 0, none⟩) n c) ats F) (hN : F.Nodup) (hk : k < ats.length) (hl : ∀ x ∈ ats, x.1.size ≤ 4 ∧ x.2.length ≤ 5) :
    ∃ s xs B b0 Fk, w.cell? ⟨ga, k * 2, none⟩ = some (.string s) ∧ w.cell? ⟨ga, k * 2 + 1, none⟩ = some (.slice B xs.length b0) ∧ SV 3 1 sI w (.slice B xs.length b0) xs Fk ∧ (∀ b ∈ Fk, b ∈ F) ∧ s.size ≤ 4 ∧ xs.length ≤ 5 := by
  obtain ⟨g, cap, cl, Fk, hv, _, _, _, hFk, _, _, hcells, _, hE, _, _⟩ := h.at hN hk
  injection hv with hv
  injection hv with hv
  injection hv with hv
  subst hv
  obtain ⟨v, rfl, hS⟩ := sAt_get hE
  obtain ⟨B, b0, rfl, _, _⟩ := hS.form
  have h5 := hl _ (List.getElem_mem hk)
  exact ⟨_, _, B, b0, Fk, by simpa using hcells 0 (by simp), by simpa using hcells 1 (by simp), hS, hFk, h5.1, h5.2⟩
def CutA (w2 W5 : World) (g b5 : Nat) (v : Value) (wx : World) : Prop := ∃ b7 s xs B b0 Fk, v = .pointer (some ⟨b7, 0, none⟩) ∧ BoxAt wx b7 #[.string s, .slice B xs.length b0] ∧ SV 3 1 sI wx (.slice B xs.length b0) xs Fk ∧ (∀ b ∈ Fk, w2.heap.size ≤ b ∧ b ≠ b7 ∧ b ≠ b5 ∧ b ≠ g) ∧ s.size ≤ 4 ∧ xs.length ≤ 5 ∧ W5.heap.size ≤ b7 ∧ Chg [g] W5 wx ∧ ∃ w0, Cur w0 wx g
set_option maxRecDepth 100000 in
set_option maxHeartbeats 8000000 in
theorem DrawAtomBindings_any {A : Option Addr} {c : Nat} {bs : List UInt8} {w : World} (hx : bs.length ≤ 1048576) (h1 : RU w A bs) :
    Calls Try.prog 64 #[.slice A bs.length c] w (DabP w) := by
  go_enter Try.func64, Try.ntmps64
  go_upto_region 1 with fail
  refine wp_name ?_
  intro W hW
  have xW : ∃ y, W = ext w y := by rw [hW.out]; exact (by refine x'z ?_; repeat (with_reducible (first | apply x'a | apply x'b | exact x'c (by assumption) | refine x'd ?_ (by assumption) | apply x'e | apply x'f | apply x'g | apply x'h | apply x'i | apply x'j | apply x'k | apply x'l | apply x'm | assumption | (refine x'n ?_; omega) | omega)))
  have BW0 : BoxAt W (w.heap.size) #[.slice none 0 0] := by rw [hW.out]; refine ⟨?_, fun j => ?_, fun j => ?_⟩ <;> go_simp
  obtain ⟨lW0, bW0, fW0⟩ := BW0
  have cW0_0 : W.cell? ⟨w.heap.size, 0, none⟩ = some (.slice none 0 0) := bW0 0
  have BW1 : BoxAt W (w.heap.size + 1) #[.string ⟨#[]⟩, .slice none 0 0] := by rw [hW.out]; refine ⟨?_, fun j => ?_, fun j => ?_⟩ <;> go_simp
  obtain ⟨lW1, bW1, fW1⟩ := BW1
  have cW1_0 : W.cell? ⟨w.heap.size + 1, 0, none⟩ = some (.string ⟨#[]⟩) := bW1 0
  have cW1_1 : W.cell? ⟨w.heap.size + 1, 1, none⟩ = some (.slice none 0 0) := bW1 1
  clear hW
  have HR := Lib.hid (show BoxAt W w.heap.size #[.slice none 0 0] from ⟨lW0, bW0, fW0⟩)
  have HT := Lib.hid (show BoxAt W (w.heap.size + 1) #[.string ⟨#[]⟩, .slice none 0 0] from ⟨lW1, bW1, fW1⟩)
  clear bW0 fW0 cW0_0 bW1 fW1 cW1_0 cW1_1
  go_wp2_with fail
  refine (l1New_any hx (h1.toExt xW)).mono ?_
  rintro e w1 ⟨g, rfl, hc1⟩
  have hg1 := hc1.1
  have hgl := hc1.lt
  have HR1 := Lib.hid (HR.out.toExt hc1.2.1)
  have HT1 := Lib.hid (HT.out.toExt hc1.2.1)
  have hz1 := size_of_ext hc1.2.1
  clear HR HT
  go_wp2_with fail
  refine (l6Any_any hc1).mono ?_
  rintro e w2 ⟨A2, c2, d, rfl, hP, _, hD, hc2, hC2⟩
  have HP := Lib.hid hP
  have HD := Lib.hid hD
  have HR2 := Lib.hid (HR1.out.chg hC2 (by simp; omega))
  have HT2 := Lib.hid (HT1.out.chg hC2 (by simp; omega))
  have HX2 := Lib.hid (trans_ext xW hc2.2.1)
  have Hc2 := Lib.hid hc2
  have hz2 := hC2.size
  clear hP hD hc2 hC2 hc1 HR1 HT1
  go_upto_region 3 with fail
  refine wp_name ?_
  intro W3 hW
  have x3 : ∃ y, W3 = ext w2 y := by rw [hW.out]; exact (by refine x'z ?_; repeat (with_reducible (first | apply x'a | apply x'b | exact x'c (by assumption) | refine x'd ?_ (by assumption) | apply x'e | apply x'f | apply x'g | apply x'h | apply x'i | apply x'j | apply x'k | apply x'l | apply x'm | assumption | (refine x'n ?_; omega) | omega)))
  have B5 : BoxAt W3 w2.heap.size #[.slice A2 d.length c2] := by rw [hW.out]; exact BoxAt.new _ _ _
  have HR3 := Lib.hid (HR2.out.toExt x3)
  have HT3 := Lib.hid (HT2.out.toExt x3)
  have Hc3 := Lib.hid (Hc2.out.toExt x3)
  have HC3 := Lib.hid (Chg.ofExt (F := [g]) x3)
  have hz3 := size_of_ext x3
  obtain ⟨b5, q5⟩ : ∃ b, w2.heap.size = b := ⟨_, rfl⟩
  have hb5w : w2.heap.size ≤ b5 := by omega
  rw [q5] at B5 ⊢
  have h53 : b5 < W3.heap.size := B5.1
  have n5g : b5 ≠ g := by omega
  have HB3 := Lib.hid B5
  clear hW q5 B5 HR2 HT2 Hc2 x3
  go_wp2_with fail
  refine (l7Any_any Hc3.out).mono ?_
  rintro e w4 ⟨u0, u1, u2, F, q, rfl, hS, hN, hF, hQ, hc4, hC4⟩
  obtain ⟨A4, a4, B4, b4, rfl, rfl, rfl⟩ := sQ_form hS
  obtain ⟨FA, FO, rfl, _, ⟨_, eA, hA⟩, hO⟩ := sQ_get hS
  injection eA with eA
  subst eA
  have hn1 := hQ.n1
  have hn5 := hQ.n
  have HAB := Lib.hid hQ.a
  have HNA := Lib.hid (List.nodup_append.1 hN).1
  have HFA := Lib.hid (show ∀ b ∈ FA, W3.heap.size ≤ b ∧ b < w4.heap.size from fun b hb => ⟨hF b (List.mem_append_left _ hb), hA.lt b hb⟩)
  have HR4 := Lib.hid (HR3.out.chg hC4 (by simp; omega))
  have HT4 := Lib.hid (HT3.out.chg hC4 (by simp; omega))
  have HB4 := Lib.hid (HB3.out.chg hC4 (by simpa using n5g))
  have HC4 := Lib.hid (HC3.out.trans hC4 (fun x hx => .inl hx))
  have HA4 := Lib.hid hA
  have Hc4 := Lib.hid hc4
  have hz4 := hC4.size
  clear hS hN hF hQ hc4 hC4 hA hO HR3 HT3 HB3 HC3 Hc3
  go_upto_region 4 with fail
  refine wp_name ?_
  intro W5 hW
  have x5 : ∃ y, W5 = ext w4 y := by rw [hW.out]; exact (by refine x'z ?_; repeat (with_reducible (first | apply x'a | apply x'b | exact x'c (by assumption) | refine x'd ?_ (by assumption) | apply x'e | apply x'f | apply x'g | apply x'h | apply x'i | apply x'j | apply x'k | apply x'l | apply x'm | assumption | (refine x'n ?_; omega) | omega)))
  have B6 : BoxAt W5 w4.heap.size #[.int .i64 q.1, .slice A4 q.2.1.length a4, .slice B4 q.2.2.length b4] := by rw [hW.out]; exact BoxAt.new _ _ _
  have HR5 := Lib.hid (HR4.out.toExt x5)
  have HT5 := Lib.hid (HT4.out.toExt x5)
  have HB5 := Lib.hid (HB4.out.toExt x5)
  have HC5 := Lib.hid (HC4.out.trans0 x5)
  have HA5 := Lib.hid (HA4.out.toExt x5)
  have Hc5 := Lib.hid (Hc4.out.toExt x5)
  have hz5 := size_of_ext x5
  obtain ⟨b6, q6⟩ : ∃ b, w4.heap.size = b := ⟨_, rfl⟩
  have hb6w : w4.heap.size ≤ b6 := by omega
  have HF6 := Lib.hid (show ∀ b ∈ FA, W3.heap.size ≤ b ∧ b < b6 from fun b hb => by have := HFA.out b hb; omega)
  rw [q6] at B6 ⊢
  have n6g : b6 ≠ g := by omega
  have h65 : b6 < W5.heap.size := B6.1
  have HB6 := Lib.hid B6
  obtain ⟨ga, cap', eA4, hgF, _, _⟩ := HA5.out.block (by intro h; rw [h] at hn1; simp at hn1)
  injection eA4 with eA4 _ eC4
  subst eA4 eC4
  have hga := HF6.out ga hgF
  obtain ⟨l6, k60, k61, k62, f6⟩ := box3 B6
  clear hW q6 B6 HR4 HT4 HB4 HC4 HA4 Hc4 x5 HFA
  go_cut [7] (fun v wx => CutA w2 W5 g b5 v wx)
  case first =>
    go_region_with (first | (go_at_call 136; (with_reducible refine (l1Below_gen (n := q.2.1.length) (Hc5.out.toExt (by repeat (with_reducible (first | exact refl_ext _ | exact alloc_ext _ _ | exact drew_ext _ | assumption | refine trans_ext ?_ (drew_ext _) | refine trans_ext ?_ (alloc_ext _ _) | refine trans_ext ?_ (by assumption))))) ?_ ?_).mono ?_); (focus omega); (focus omega); rintro e w6 ⟨k, rfl, hk, hc6, hC6⟩; obtain ⟨s, xs, B, b0, Fk, hq0, hq1, hSk, hFk, hs4, hx5⟩ := atom_at ((HA5.out.toExt (by repeat (with_reducible (first | exact refl_ext _ | exact alloc_ext _ _ | exact drew_ext _ | assumption | refine trans_ext ?_ (drew_ext _) | refine trans_ext ?_ (alloc_ext _ _) | refine trans_ext ?_ (by assumption))))).chg hC6 (fun b hb h => by have := HF6.out b hb; rw [List.mem_singleton.1 h] at this; omega)) HNA.out hk HAB.out; obtain ⟨m6, m60, m61, m62, g6⟩ := box3 ((HB6.out.toExt (by repeat (with_reducible (first | exact refl_ext _ | exact alloc_ext _ _ | exact drew_ext _ | assumption | refine trans_ext ?_ (drew_ext _) | refine trans_ext ?_ (alloc_ext _ _) | refine trans_ext ?_ (by assumption))))).chg hC6 (by simpa using n6g)); have hgw6 : ga < w6.heap.size := (by have h := hC6.size; first | omega | (simp only [World.drew] at h; omega) | (simp at h; omega)); (first | (have L5 : BoxAt w6 W5.heap.size #[.string ⟨#[]⟩, .slice none 0 0] := (BoxAt.new W5 _ _).chg hC6 (by simp; omega); obtain ⟨z1, z2, z3, z4⟩ := bx2 L5) | (have L5 : BoxAt w6 W5.heap.size #[.string ⟨#[]⟩, .slice none 0 0] := (BoxAt.new W5.drew _ _).chg hC6 (by rw [show W5.drew.heap.size = W5.heap.size from rfl]; simp; omega); obtain ⟨z1, z2, z3, z4⟩ := bx2 L5) | (have L5 : BoxAt w6 W5.heap.size #[.string ⟨#[]⟩, .slice none 0 0] := ((BoxAt.new W5 _ _).drew).chg hC6 (by simp; omega); obtain ⟨z1, z2, z3, z4⟩ := bx2 L5) | skip)))
    all_goals
      go_wp2_with fail
      go_meet
      have hz6 := hC6.size
      first
        | exact ⟨w6.heap.size, s, xs, B, b0, Fk, rfl, BoxAt.new _ _ _, hSk.toExt (alloc_ext _ _), fun b hb => by have h1 := HF6.out b (hFk b hb); have h2 := hSk.lt b hb; omega, hs4, hx5, by first | omega | (simp only [World.drew] at hz6; omega), ((Chg.ofExt (F := [g]) (by repeat (with_reducible (first | exact refl_ext _ | exact alloc_ext _ _ | exact drew_ext _ | assumption | refine trans_ext ?_ (drew_ext _) | refine trans_ext ?_ (alloc_ext _ _) | refine trans_ext ?_ (by assumption))))).trans hC6 (fun x hx => .inl hx)).alloc _, _, hc6.toExt (alloc_ext _ _)⟩
        | exact ⟨W5.heap.size, s, xs, B, b0, Fk, rfl, (by repeat (with_reducible (first | assumption | exact BoxAt.new _ _ _ | apply BoxAt.set2 | refine BoxAt.set2' ?_ (by omega) | apply BoxAt.setP0 | apply BoxAt.setP1 | refine BoxAt.setO ?_ (by omega) | refine BoxAt.alloc ?_ _ | refine BoxAt.drew ?_ | refine BoxAt.toExt ?_ (by assumption)))), hSk.chg (G := [W5.heap.size]) (by repeat (with_reducible (first | exact Chg.refl _ _ | refine Chg.trans0 ?_ (by assumption) | refine Chg.extS ?_ _ | refine Chg.alloc ?_ _ | refine Chg.drew ?_ | refine Chg.setCell ?_ (.inl (by simp)) _))) (fun b hb hm => by have h1 := HF6.out b (hFk b hb); rw [List.mem_singleton.1 hm] at h1; omega), fun b hb => by have h1 := HF6.out b (hFk b hb); omega, hs4, hx5, Nat.le_refl _, (((Chg.ofExt (F := [g]) (by repeat (with_reducible (first | exact refl_ext _ | exact alloc_ext _ _ | exact drew_ext _ | assumption | refine trans_ext ?_ (drew_ext _) | refine trans_ext ?_ (alloc_ext _ _) | refine trans_ext ?_ (by assumption))))).trans hC6 (fun x hx => .inl hx)).setCell (p := ⟨W5.heap.size, 0, none⟩) (.inr (Nat.le_refl _)) _).setCell (p := ⟨W5.heap.size, 1, none⟩) (.inr (Nat.le_refl _)) _, _, hc6.chg (F := [W5.heap.size]) (by repeat (with_reducible (first | exact Chg.refl _ _ | refine Chg.trans0 ?_ (by assumption) | refine Chg.extS ?_ _ | refine Chg.alloc ?_ _ | refine Chg.drew ?_ | refine Chg.setCell ?_ (.inl (by simp)) _))) (by simp; omega) (by simp; omega)⟩
  obtain ⟨b7, s, xs, B, b0, Fk, rfl, hB7, hSk, hFk, hs4, hx5, hb7, hC6, w0, hc6⟩ := hcut
  obtain ⟨W6, rfl⟩ : ∃ W, W = wc := ⟨_, rfl⟩
  have HR6 := Lib.hid (HR5.out.chg hC6 (by simp; omega))
  have HT6 := Lib.hid (HT5.out.chg hC6 (by simp; omega))
  have HB6 := Lib.hid (HB5.out.chg hC6 (by simpa using n5g))
  have HC6 := Lib.hid (HC5.out.trans hC6 (fun x hx => .inl hx))
  have HA6 := Lib.hid hB7
  have HS6 := Lib.hid hSk
  have HFk := Lib.hid hFk
  have n7g : b7 ≠ g := by omega
  have hz6 := hC6.size
  obtain ⟨l7, k70, k71, f7⟩ := bx2 hB7
  clear hB7 hSk hFk hC6 l6 k60 k61 k62 f6 HR5 HT5 HB5 HC5 HA5 Hc5 HAB HNA HF6
  go_upto_region 5 with fail
  go_cut [30] (fun v wx => ∃ t, v = .bool t ∧ (t = true → 1 < xs.length) ∧ Chg [g] W6 wx)
  case first =>
    by_cases h1 : 1 < xs.length
    · have q1 : (1 : Int) < (xs.length : Int) := by omega
      go_wp2_with (go_at_call 146; refine (l1Once_any hc6 (by omega) (by omega)).mono ?_; rintro e w7 ⟨t, rfl, hc7, hC7⟩)
      go_meet
      exact ⟨_, rfl, fun _ => h1, hC7⟩
    · have q1 : ¬ (1 : Int) < (xs.length : Int) := by omega
      go_wp2_with fail
      go_meet
      exact ⟨_, rfl, fun h => by simp at h, Chg.refl _ _⟩
  obtain ⟨t, rfl, ht, hC7⟩ := hcut
  obtain ⟨W7, rfl⟩ : ∃ W, W = wc := ⟨_, rfl⟩
  have HR7 := Lib.hid (HR6.out.chg hC7 (by simp; omega))
  have HT7 := Lib.hid (HT6.out.chg hC7 (by simp; omega))
  have HB7 := Lib.hid (HB6.out.chg hC7 (by simpa using n5g))
  have HA7 := Lib.hid (HA6.out.chg hC7 (by simpa using n7g))
  have HC7 := Lib.hid (HC6.out.trans hC7 (fun x hx => .inl hx))
  have HS7 := Lib.hid (HS6.out.chg hC7 (fun b hb h => (HFk.out b hb).2.2.2 (List.mem_singleton.1 h)))
  have hz7 := hC7.size
  clear hC7 l7 k70 k71 f7 HR6 HT6 HB6 HA6 HC6 HS6 hc6
  cases t with
  | false =>
    have HRX := HR7
    have HTX := HT7
    have HBX := HB7
    have HAX := HA7
    have HCX := HC7
    have HSX := HS7
    have HLY := Lib.hid (show xs.length = xs.length from rfl)
    obtain ⟨WX, rfl⟩ : ∃ W, W = W7 := ⟨_, rfl⟩
    obtain ⟨lr, kr, fr⟩ := bx1 HRX.out
    obtain ⟨lt, kt0, kt1, ft⟩ := bx2 HTX.out
    obtain ⟨l5, k5, f5⟩ := bx1 HBX.out
    obtain ⟨l7, k70, k71, f7⟩ := bx2 HAX.out
    go_upto_region 7 with fail
    go_region_with (fail)
    all_goals
      go_wp2
      refine bodyPost_ret (v := .tuple #[.agg #[.slice A2 d.length c2], .agg #[.string s, .slice B xs.length b0]]) (by simp [results, Try.results64, go_sem, *]) rfl ?_
      show DabP w _ _
      have hC := ((((Chg.refl [w.heap.size, w.heap.size + 1] WX).drew).setCell (p := ⟨w.heap.size, 0, none⟩) (.inl (by simp)) (.slice A2 d.length c2)).setCell (p := ⟨w.heap.size + 1, 0, none⟩) (.inl (by simp)) (.string s)).setCell (p := ⟨w.heap.size + 1, 1, none⟩) (.inl (by simp)) (.slice B xs.length b0)
      have hCC := (HCX.out.mono (G := g :: [w.heap.size, w.heap.size + 1]) (fun x hx => .inl (by rw [List.mem_singleton.1 hx]; simp))).trans hC (fun x hx => .inl (List.mem_cons_of_mem _ hx))
      have hv9 := (HSX.out.chg hC (fun b hb h => by have := HFk.out b hb; simp at h; omega)).toView sI_v
      exact ⟨A2, c2, d, B, b0, s, xs, by first | rfl | rw [HLY.out], HP.out (g :: [w.heap.size, w.heap.size + 1]) _ (fun x hx => by simp at hx; omega) hCC, hv9, HD.out, hs4, by first | omega | (rw [HLY.out]; omega), hCC.isExt HX2.out (fun x hx => by simp at hx; omega)⟩
  | true =>
    have h1 := ht rfl
    obtain ⟨gb, cb, eB, hgbF, _, _⟩ := HS7.out.block (by intro h; rw [h] at h1; simp at h1)
    injection eB with eB _ eC
    subst eB eC
    obtain ⟨hgb2, hgb7, hgb5, hgbg⟩ := HFk.out gb hgbF
    obtain ⟨lg, cells⟩ : gb < W7.heap.size ∧ ∀ j (h : j < xs.length), W7.cell? ⟨gb, j, none⟩ = some (.int .i64 xs[j]) := by
      have hv := HS7.out.toView sI_v
      refine ⟨HS7.out.lt gb hgbF, fun j hj => ?_⟩
      obtain ⟨b, o, e, _, hc⟩ := hv.atI hj
      injection e with e
      injection e with e1 e2
      subst e1 e2
      simpa using hc
    have ce1 := cells 1 h1
    have ce0 := cells 0 (by omega)
    obtain ⟨x1, hx1⟩ : ∃ x, xs[1] = x := ⟨_, rfl⟩
    rw [hx1] at ce1
    obtain ⟨hS8, hC8⟩ := HS7.out.set1 rfl (k := 0) (u := .int .i64 x1) (d := x1) (by omega) (fun _ => ⟨rfl, rfl⟩)
    have HSX := Lib.hid hS8
    have HCX := Lib.hid (HC7.out.trans hC8 (fun x hx => .inr (by rw [List.mem_singleton.1 hx]; exact hgb2)))
    have HRX := Lib.hid (HR7.out.chg hC8 (by simp; omega))
    have HTX := Lib.hid (HT7.out.chg hC8 (by simp; omega))
    have HBX := Lib.hid (HB7.out.chg hC8 (by simpa using fun h => hgb5 h.symm))
    have HAX := Lib.hid (HA7.out.chg hC8 (by simpa using fun h => hgb7 h.symm))
    have HLY := Lib.hid (show (xs.set 0 x1).length = xs.length by rw [List.length_set])
    have hf0 : W7.frozen? ⟨gb, 0, none⟩ = false := (HS7.out.cell rfl (j := 0) (by omega)).2.1
    have i1 : (1 : Int) < (xs.length : Int) := by omega
    have i0 : (0 : Int) < (xs.length : Int) := by omega
    obtain ⟨l7, k70, k71, f7⟩ := bx2 HA7.out
    clear hS8 hC8 cells hx1
    go_upto_region 6 with fail
    go_cut [] (fun wx => ∃ y, wx = ext (W7.setCell ⟨gb, 0, none⟩ (.int .i64 x1)) y)
    case first =>
      go_region_with (fail)
      all_goals
        go_wp2_with fail
        go_meet
        first
          | exact refl_ext _
          | exact drew_ext _
          | exact (by refine x'z ?_; repeat (with_reducible (first | apply x'a | apply x'b | exact x'c (by assumption) | refine x'd ?_ (by assumption) | apply x'e | apply x'f | apply x'g | apply x'h | apply x'i | apply x'j | apply x'k | apply x'l | apply x'm | assumption | (refine x'n ?_; omega) | omega)))
    obtain ⟨yX, eX⟩ := hcut
    obtain ⟨WX, rfl⟩ : ∃ W, W = wc := ⟨_, rfl⟩
    have xX : ∃ y, WX = ext (W7.setCell ⟨gb, 0, none⟩ (.int .i64 x1)) y := ⟨yX, eX⟩
    have HSX := Lib.hid (HSX.out.toExt xX)
    have HCX := Lib.hid (HCX.out.trans0 xX)
    have HRX := Lib.hid (HRX.out.toExt xX)
    have HTX := Lib.hid (HTX.out.toExt xX)
    have HBX := Lib.hid (HBX.out.toExt xX)
    have HAX := Lib.hid (HAX.out.toExt xX)
    clear eX xX l7 k70 k71 f7 ce1 ce0
    obtain ⟨lr, kr, fr⟩ := bx1 HRX.out
    obtain ⟨lt, kt0, kt1, ft⟩ := bx2 HTX.out
    obtain ⟨l5, k5, f5⟩ := bx1 HBX.out
    obtain ⟨l7, k70, k71, f7⟩ := bx2 HAX.out
    go_upto_region 7 with fail
    go_region_with (fail)
    all_goals
      go_wp2
      refine bodyPost_ret (v := .tuple #[.agg #[.slice A2 d.length c2], .agg #[.string s, .slice (some ⟨gb, 0, none⟩) xs.length b0]]) (by simp [results, Try.results64, go_sem, *]) rfl ?_
      show DabP w _ _
      have hC := ((((Chg.refl [w.heap.size, w.heap.size + 1] WX).drew).setCell (p := ⟨w.heap.size, 0, none⟩) (.inl (by simp)) (.slice A2 d.length c2)).setCell (p := ⟨w.heap.size + 1, 0, none⟩) (.inl (by simp)) (.string s)).setCell (p := ⟨w.heap.size + 1, 1, none⟩) (.inl (by simp)) (.slice (some ⟨gb, 0, none⟩) xs.length b0)
      have hCC := (HCX.out.mono (G := g :: [w.heap.size, w.heap.size + 1]) (fun x hx => .inl (by rw [List.mem_singleton.1 hx]; simp))).trans hC (fun x hx => .inl (List.mem_cons_of_mem _ hx))
      have hv9 := (HSX.out.chg hC (fun b hb h => by have := HFk.out b hb; simp at h; omega)).toView sI_v
      exact ⟨A2, c2, d, (some ⟨gb, 0, none⟩), b0, s, (xs.set 0 x1), by first | rfl | rw [HLY.out], HP.out (g :: [w.heap.size, w.heap.size + 1]) _ (fun x hx => by simp at hx; omega) hCC, hv9, HD.out, hs4, by first | omega | (rw [HLY.out]; omega), hCC.isExt HX2.out (fun x hx => by simp at hx; omega)⟩
end Go.Proofs.Ytfigcfajkilhiaa

/- Valid labeled relations are small. No program in it. -/
namespace Go.Proofs.Ytfigcfajkilhiaa
open Go.RowKit

theorem vrok_bd {d : VRd} (h : VrOk d) : BVR d := by
  have h1 := h.len
  have h2 := h.cnt
  have h3 := sum_len (m := 5) (l := d.2.2) (fun x hx => by rw [h.rl x hx]; exact h.len)
  refine ⟨by omega, ⟨?_, ?_⟩, by omega, by omega⟩
  · rw [h.ar]; omega
  · rw [h.ar]; omega
theorem zVR_bd : BVR zVR := ⟨by decide, ⟨by decide, by decide⟩, by decide, by decide⟩
theorem semi_bd (d d' : VRd) : BVR ((semiR d d').getD zVR) := by
  cases h : semiR d d' with
  | none => exact zVR_bd
  | some x => exact vrok_bd (semi_ok h)
theorem join_bd (d d' : VRd) : BVR ((joinR d d').getD zVR) := by
  cases h : joinR d d' with
  | none => exact zVR_bd
  | some x => exact vrok_bd (join_ok h)
end Go.Proofs.Ytfigcfajkilhiaa

/- Bindings of atoms and queries are small. No program in it. -/
namespace Go.Proofs.Ytfigcfajkilhiaa
open Go.RowKit

theorem atomVR_bd (d : Dbd) (a : At) : BVR (atomVR d a) := vrok_bd atomBd_ok
theorem atomBd_bd (d : Dbd) (a : At) : BRel (atomBd d a) := (atomVR_bd d a).2
end Go.Proofs.Ytfigcfajkilhiaa

/- The reference's draws of a database, a query and a row. -/
namespace Go.Proofs.Ytfigcfajkilhiaa
open Go.RowKit
def DibP (w : World) (e : Ending) (w' : World) : Prop := ∃ A c d B b C c' q R cr row, e = .returned (.tuple #[.agg #[.slice A d.length c], .agg #[.int .i64 q.1, .slice B q.2.1.length b, .slice C q.2.2.length c'], .slice R row.length cr]) ∧ RV 3 vTb w' A d ∧ vQ w' [.int .i64 q.1, .slice B q.2.1.length b, .slice C q.2.2.length c'] q ∧ RI w' R row ∧ DrD d ∧ QaD q ∧ row.length ≤ 100 ∧ ∃ y, w' = ext w y
theorem row_at {w : World} {ga n c : Nat} {rows : List (List Int)} {F : List Nat} {k : Nat} (h : SV 48 1 sRow w (.slice (some ⟨ga, 0, none⟩) n c) rows F) (hN : F.Nodup) (hk : k < rows.length) :
    ∃ row B b0 Fk, row ∈ rows ∧ w.cell? ⟨ga, k, none⟩ = some (.slice B row.length b0) ∧ SV 3 1 sI w (.slice B row.length b0) row Fk ∧ ∀ b ∈ Fk, b ∈ F := by
  obtain ⟨g, cap, cl, Fk, hv, _, _, _, hFk, _, _, hcells, _, hE, _, _⟩ := h.at hN hk
  injection hv with hv
  injection hv with hv
  injection hv with hv
  subst hv
  obtain ⟨v, rfl, hS⟩ := hE
  obtain ⟨B, b0, rfl, _, _⟩ := hS.form
  exact ⟨_, B, b0, Fk, List.getElem_mem hk, by simpa using hcells 0 (by simp), hS, hFk⟩
theorem l4Row_z {g : Nat} {z : Int} {most : Int} {w0 w : World} (hc : Cur w0 w g) (h0 : 0 ≤ z) (hn : z ≤ 10) (hm : 1 ≤ most) (hm2 : most ≤ 256) :
    Calls Try.prog 155 #[.pointer (some ⟨g, 0, none⟩), .int .i64 z, .int .i64 most] w (RowDP w0 g z.toNat most w) := by
  obtain ⟨n, rfl⟩ : ∃ n : Nat, z = n := ⟨z.toNat, by omega⟩
  exact l4Row_any hc (by omega) hm hm2
def CutD (w w2 : World) (g : Nat) (A2 : Option Addr) (d : Dbd) (c2 : Nat) (B2 C2 : Option Addr) (q : Qd) (b2 c3 : Nat) (v : Value) (wx : World) : Prop := ∃ row RA rc Fk, v = .slice RA row.length rc ∧ BoxAt wx w.heap.size #[.slice A2 d.length c2] ∧ BoxAt wx (w.heap.size + 1) #[.int .i64 q.1, .slice B2 q.2.1.length b2, .slice C2 q.2.2.length c3] ∧ SV 3 1 sI wx (.slice RA row.length rc) row Fk ∧ row.length ≤ 100 ∧ Chg (g :: [w.heap.size, w.heap.size + 1]) w2 wx
theorem heldC {W w' : World} {g r t : Nat} (h : Chg (g :: [r, t]) W w') : ∀ b o : Nat, b < W.heap.size → b ≠ g → b ≠ r → b ≠ t → w'.cell? ⟨b, o, none⟩ = W.cell? ⟨b, o, none⟩ := fun b o h1 h2 h3 h4 => h.cell (by simp; exact ⟨h2, h3, h4⟩) h1
set_option maxRecDepth 100000 in
set_option maxHeartbeats 8000000 in
theorem DrawIsBinding_any {A : Option Addr} {c : Nat} {bs : List UInt8} {w : World} (hx : bs.length ≤ 1048576) (h1 : RU w A bs) :
    Calls Try.prog 73 #[.slice A bs.length c] w (DibP w) := by
  go_enter Try.func73, Try.ntmps73
  go_upto_region 1 with fail
  refine wp_name ?_
  intro W hW
  have xW : ∃ y, W = ext w y := by rw [hW.out]; exact (by refine x'z ?_; repeat (with_reducible (first | apply x'a | apply x'b | exact x'c (by assumption) | refine x'd ?_ (by assumption) | apply x'e | apply x'f | apply x'g | apply x'h | apply x'i | apply x'j | apply x'k | apply x'l | apply x'm | assumption | (refine x'n ?_; omega) | omega)))
  have BW0 : BoxAt W (w.heap.size) #[.slice none 0 0] := by rw [hW.out]; refine ⟨?_, fun j => ?_, fun j => ?_⟩ <;> go_simp
  obtain ⟨lW0, bW0, fW0⟩ := BW0
  have cW0_0 : W.cell? ⟨w.heap.size, 0, none⟩ = some (.slice none 0 0) := bW0 0
  have BW1 : BoxAt W (w.heap.size + 1) #[.int .i64 0, .slice none 0 0, .slice none 0 0] := by rw [hW.out]; refine ⟨?_, fun j => ?_, fun j => ?_⟩ <;> go_simp
  obtain ⟨lW1, bW1, fW1⟩ := BW1
  have cW1_0 : W.cell? ⟨w.heap.size + 1, 0, none⟩ = some (.int .i64 0) := bW1 0
  have cW1_1 : W.cell? ⟨w.heap.size + 1, 1, none⟩ = some (.slice none 0 0) := bW1 1
  have cW1_2 : W.cell? ⟨w.heap.size + 1, 2, none⟩ = some (.slice none 0 0) := bW1 2
  clear hW
  have HR := Lib.hid (show BoxAt W w.heap.size #[.slice none 0 0] from ⟨lW0, bW0, fW0⟩)
  have HT := Lib.hid (show BoxAt W (w.heap.size + 1) #[.int .i64 0, .slice none 0 0, .slice none 0 0] from ⟨lW1, bW1, fW1⟩)
  clear bW0 fW0 cW0_0 bW1 fW1 cW1_0 cW1_1 cW1_2
  go_wp2_with fail
  refine (l1New_any hx (h1.toExt xW)).mono ?_
  rintro e w1 ⟨g, rfl, hc1⟩
  have hg1 := hc1.1
  have hgl := hc1.lt
  have HR1 := Lib.hid (HR.out.toExt hc1.2.1)
  have HT1 := Lib.hid (HT.out.toExt hc1.2.1)
  have hz1 := size_of_ext hc1.2.1
  clear HR HT
  go_wp2_with fail
  refine (l7Both_any hc1).mono ?_
  rintro e w2 ⟨A2, c2, d, v0, v1, v2, q, rfl, hP, hcap, hD, hQ, hc2, hC2⟩
  obtain ⟨B2, b2, C2, c3, hsh⟩ := vQ_shape (hP [] w2 (by simp) (Chg.refl _ _)).2
  simp only [List.cons.injEq, and_true] at hsh
  obtain ⟨rfl, rfl, rfl⟩ := hsh
  have HP := Lib.hid hP
  have HD := Lib.hid hD
  have HQ := Lib.hid hQ
  have HR2 := Lib.hid (HR1.out.chg hC2 (by simp; omega))
  have HT2 := Lib.hid (HT1.out.chg hC2 (by simp; omega))
  have HX2 := Lib.hid (trans_ext xW hc2.2.1)
  have Hc2 := Lib.hid hc2
  have hz2 := hC2.size
  have hq0 := hQ.lo
  have hq6 := hQ.hi
  clear hP hcap hD hQ hc2 hC2 hc1 HR1 HT1
  go_upto_region 3 with fail
  refine wp_name ?_
  intro W3 hW
  have x3 : ∃ y, W3 = ext w2 y := by rw [hW.out]; exact (by refine x'z ?_; repeat (with_reducible (first | apply x'a | apply x'b | exact x'c (by assumption) | refine x'd ?_ (by assumption) | apply x'e | apply x'f | apply x'g | apply x'h | apply x'i | apply x'j | apply x'k | apply x'l | apply x'm | assumption | (refine x'n ?_; omega) | omega)))
  have B6 : BoxAt W3 w2.heap.size #[.slice A2 d.length c2] := by rw [hW.out]; exact (BoxAt.new _ _ _).toExt (alloc_ext _ _)
  have B7 : BoxAt W3 (w2.heap.size + 1) #[.int .i64 q.1, .slice B2 q.2.1.length b2, .slice C2 q.2.2.length c3] := by rw [hW.out]; exact box_second
  have hV3 := HP.out [] W3 (by simp) (Chg.ofExt x3)
  have HR3 := Lib.hid (HR2.out.toExt x3)
  have HT3 := Lib.hid (HT2.out.toExt x3)
  have Hc3 := Lib.hid (Hc2.out.toExt x3)
  have hz3 := size_of_ext x3
  obtain ⟨b6, q6⟩ : ∃ b, w2.heap.size = b := ⟨_, rfl⟩
  have hb6w : w2.heap.size ≤ b6 := by omega
  rw [q6] at B6 B7 ⊢
  have h63 := B6.1
  have h73 := B7.1
  have HB3 := Lib.hid B6
  have HE3 := Lib.hid B7
  obtain ⟨l6, k6, f6⟩ := bx1 B6
  obtain ⟨l7, k70, k71, k72, f7⟩ := box3 B7
  have n6g : b6 ≠ g := by omega
  have n7g : b6 + 1 ≠ g := by omega
  have n6r : b6 ≠ w.heap.size := by omega
  have n6t : b6 ≠ w.heap.size + 1 := by omega
  have n7r : b6 + 1 ≠ w.heap.size := by omega
  have n7t : b6 + 1 ≠ w.heap.size + 1 := by omega
  clear hW q6 B6 B7 HR2 HT2 Hc2
  go_wp2_with fail
  refine (specAllBindings_any HD.out.w hV3.1 HQ.out.b hV3.2).mono ?_
  obtain ⟨rel, hrel⟩ : ∃ r, (bindR d q).getD (0, []) = r := ⟨_, rfl⟩
  have hrlen : rel.2.length ≤ 4000 ∧ ∀ x ∈ rel.2, x.length ≤ 5 := by
    rw [← hrel]
    cases h : bindR d q with
    | none => exact ⟨by simp, by simp⟩
    | some r => exact bind_ok h
  rw [hrel]
  clear hrel
  rintro e w4 ⟨u0, u1, F4, rfl, hx4, hS4, hN4, hF4⟩
  obtain ⟨A4, a4, rfl, rfl, ⟨_, eI, hI4⟩⟩ := sRel_form hS4
  injection eI with eI
  subst eI
  have HI4 := Lib.hid hI4
  have HN4 := Lib.hid hN4
  have HF4 := Lib.hid hF4
  have HRL := Lib.hid hrlen.2
  have hr4000 := hrlen.1
  have Hx4 := Lib.hid hx4
  clear hS4 hI4 hN4 hF4 hx4 hrlen hV3
  go_upto_region 4 with fail
  refine wp_name ?_
  intro W5 hW
  have x5 : ∃ y, W5 = ext w4 y := by rw [hW.out]; exact (by refine x'z ?_; repeat (with_reducible (first | apply x'a | apply x'b | exact x'c (by assumption) | refine x'd ?_ (by assumption) | apply x'e | apply x'f | apply x'g | apply x'h | apply x'i | apply x'j | apply x'k | apply x'l | apply x'm | assumption | (refine x'n ?_; omega) | omega)))
  have B8 : BoxAt W5 w4.heap.size #[.int .i64 rel.1, .slice A4 rel.2.length a4] := by rw [hW.out]; exact BoxAt.new _ _ _
  have xx := trans_ext Hx4.out x5
  have HR5 := Lib.hid (HR3.out.toExt xx)
  have HT5 := Lib.hid (HT3.out.toExt xx)
  have HB5 := Lib.hid (HB3.out.toExt xx)
  have HE5 := Lib.hid (HE3.out.toExt xx)
  have Hc5 := Lib.hid (Hc3.out.toExt xx)
  have HC5 := Lib.hid (Chg.ofExt (F := [g]) (trans_ext x3 xx))
  have HI5 := Lib.hid (HI4.out.toExt x5)
  have HFI := Lib.hid (show ∀ b ∈ F4, W3.heap.size ≤ b ∧ b < w4.heap.size from fun b hb => ⟨HF4.out b hb, HI4.out.lt b hb⟩)
  have hz5 := size_of_ext x5
  have hz45 := size_of_ext Hx4.out
  obtain ⟨b8, q8⟩ : ∃ b, w4.heap.size = b := ⟨_, rfl⟩
  rw [q8] at B8 HFI hz45 ⊢
  have h85 := B8.1
  have HA5 := Lib.hid B8
  have n8g : b8 ≠ g := by omega
  have n8r : b8 ≠ w.heap.size := by omega
  have n8t : b8 ≠ w.heap.size + 1 := by omega
  obtain ⟨l8, k80, k81, f8⟩ := bx2 B8
  clear hW q8 B8 xx HR3 HT3 HB3 HE3 Hc3 HI4 HF4 Hx4 l6 k6 f6 l7 k70 k71 k72 f7
  go_cut [26] (fun v wx => ∃ t, v = .bool t ∧ (t = true → 1 ≤ rel.2.length) ∧ Chg [g] W5 wx ∧ ∃ w0, Cur w0 wx g)
  case first =>
    by_cases h1 : 1 ≤ rel.2.length
    · have q1 : (0 : Int) < (rel.2.length : Int) := by omega
      go_wp2_with (go_at_call 146; refine (l1Once_any Hc5.out (by omega) (by omega)).mono ?_; rintro e w7 ⟨t, rfl, hc7, hC7⟩)
      go_meet
      exact ⟨_, rfl, fun _ => h1, hC7, _, hc7⟩
    · have q1 : ¬ (0 : Int) < (rel.2.length : Int) := by omega
      go_wp2_with fail
      go_meet
      exact ⟨_, rfl, fun h => by simp at h, Chg.refl _ _, _, Hc5.out⟩
  obtain ⟨t, rfl, ht, hC6, w0, hc6⟩ := hcut
  obtain ⟨W6, rfl⟩ : ∃ W, W = wc := ⟨_, rfl⟩
  have HR6 := Lib.hid (HR5.out.chg hC6 (by simp; omega))
  have HT6 := Lib.hid (HT5.out.chg hC6 (by simp; omega))
  have HB6 := Lib.hid (HB5.out.chg hC6 (by simpa using n6g))
  have HE6 := Lib.hid (HE5.out.chg hC6 (by simpa using n7g))
  have HA6 := Lib.hid (HA5.out.chg hC6 (by simpa using n8g))
  have HC6 := Lib.hid (HC5.out.trans hC6 (fun x hx => .inl hx))
  have HI6 := Lib.hid (HI5.out.chg hC6 (fun b hb h => by have := HFI.out b hb; rw [List.mem_singleton.1 h] at this; omega))
  have Hc6 := Lib.hid hc6
  have hz6 := hC6.size
  obtain ⟨l6, k6, f6⟩ := bx1 HB6.out
  obtain ⟨l7, k70, k71, k72, f7⟩ := box3 HE6.out
  clear hC6 hc6 HR5 HT5 HB5 HE5 HA5 HC5 HI5 Hc5 l8 k80 k81 f8
  obtain ⟨l8, k80, k81, f8⟩ := bx2 HA6.out
  obtain ⟨lr, kr, fr⟩ := bx1 HR6.out
  obtain ⟨lt, kt0, kt1, kt2, ft⟩ := box3 HT6.out
  cases t with
  | true =>
    have h1 := ht rfl
    obtain ⟨ga, cap', eA, hgF, _, _⟩ := HI6.out.block (by intro h; rw [h] at h1; simp at h1)
    injection eA with eA _ eC
    subst eA eC
    have hga := HFI.out ga hgF
    have nag : ga ≠ g := by omega
    have nar : ga ≠ w.heap.size := by omega
    have nat : ga ≠ w.heap.size + 1 := by omega
    have hga6 : ga < W6.heap.size := by omega
    go_upto_region 5 with fail
    go_cut [4] (fun v wx => CutD w w2 g A2 d c2 B2 C2 q b2 c3 v wx)
    case first =>
      go_region_held3 (fun w' => ∀ b o : Nat, b < W6.heap.size → b ≠ g → b ≠ w.heap.size → b ≠ w.heap.size + 1 → w'.cell? ⟨b, o, none⟩ = W6.cell? ⟨b, o, none⟩) (exact heldC (by repeat (with_reducible (first | exact Chg.refl _ _ | refine Chg.drew ?_ | refine Chg.alloc ?_ _ | refine Chg.setCell ?_ (.inl (by simp)) _ | refine Chg.trans ?_ hC7 (fun x hx => .inl (by rw [List.mem_singleton.1 hx]; simp)))))) (first | (go_at_call 136; (with_reducible refine (l1Below_gen (n := rel.2.length) (Hc6.out.toExt (by repeat (with_reducible (first | exact refl_ext _ | exact alloc_ext _ _ | exact drew_ext _ | assumption | refine trans_ext ?_ (drew_ext _) | refine trans_ext ?_ (alloc_ext _ _) | refine trans_ext ?_ (by assumption))))) ?_ ?_).mono ?_); (focus omega); (focus omega); rintro e w7 ⟨k, rfl, hk, hc7, hC7⟩; obtain ⟨row, RA, rc, Fk, hm, hq0, hSk0, hFk⟩ := row_at HI6.out HN4.out hk; have hSk := (hSk0.toExt (by repeat (with_reducible (first | exact refl_ext _ | exact alloc_ext _ _ | exact drew_ext _ | assumption | refine trans_ext ?_ (drew_ext _) | refine trans_ext ?_ (alloc_ext _ _) | refine trans_ext ?_ (by assumption))))).chg hC7 (fun b hb h => by have := HFI.out b (hFk b hb); rw [List.mem_singleton.1 h] at this; omega); obtain ⟨mr, mr0, gr⟩ := bx1 ((HR6.out.toExt (by repeat (with_reducible (first | exact refl_ext _ | exact alloc_ext _ _ | exact drew_ext _ | assumption | refine trans_ext ?_ (drew_ext _) | refine trans_ext ?_ (alloc_ext _ _) | refine trans_ext ?_ (by assumption))))).chg hC7 (by simp; omega)); obtain ⟨mt, mt0, mt1, mt2, gt⟩ := box3 ((HT6.out.toExt (by repeat (with_reducible (first | exact refl_ext _ | exact alloc_ext _ _ | exact drew_ext _ | assumption | refine trans_ext ?_ (drew_ext _) | refine trans_ext ?_ (alloc_ext _ _) | refine trans_ext ?_ (by assumption))))).chg hC7 (by simp; omega))))
      all_goals
        go_wp2_with fail
        go_meet
        have hr5 := HRL.out row hm
        have hFk9 : ∀ b ∈ Fk, W3.heap.size ≤ b := fun b hb => (HFI.out b (hFk b hb)).1
        exact ⟨row, RA, rc, Fk, rfl, (by repeat (with_reducible (first | exact HR6.out | refine BoxAt.drew ?_ | refine BoxAt.alloc ?_ _ | refine BoxAt.chg ?_ hC7 (by simp; omega) | apply BoxAt.set10 | refine BoxAt.setO ?_ (by omega)))), (by repeat (with_reducible (first | exact HT6.out | refine BoxAt.drew ?_ | refine BoxAt.alloc ?_ _ | refine BoxAt.chg ?_ hC7 (by simp; omega) | apply BoxAt.set32 | apply BoxAt.set31 | apply BoxAt.set30 | refine BoxAt.setO ?_ (by omega)))), (by repeat (with_reducible (first | exact hSk | refine SV.toExt ?_ (drew_ext _) | refine SV.toExt ?_ (alloc_ext _ _) | refine SV.chg ?_ (Chg.setCell (F := [w.heap.size, w.heap.size + 1]) (Chg.refl _ _) (.inl (by simp)) _) (fun b hb h => by have := hFk9 b hb; simp at h; omega)))), by omega, (HC6.out.mono (G := g :: [w.heap.size, w.heap.size + 1]) (fun x hx => .inl (by rw [List.mem_singleton.1 hx]; simp))).trans (by repeat (with_reducible (first | exact Chg.refl _ _ | refine Chg.drew ?_ | refine Chg.alloc ?_ _ | refine Chg.setCell ?_ (.inl (by simp)) _ | refine Chg.trans ?_ hC7 (fun x hx => .inl (by rw [List.mem_singleton.1 hx]; simp))))) (fun x hx => .inl hx)⟩
    obtain ⟨row, RA, rc, Fk, rfl, hRX, hTX, hSX, hLX, hCX⟩ := hcut
    obtain ⟨WX, rfl⟩ : ∃ W, W = wc := ⟨_, rfl⟩
    obtain ⟨lr, kr, fr⟩ := bx1 hRX
    obtain ⟨lt, kt0, kt1, kt2, ft⟩ := box3 hTX
    have HSX := Lib.hid hSX
    have HCX := Lib.hid hCX
    have HLX := Lib.hid hLX
    clear hRX hTX hSX hCX hLX
    go_wp2
    refine bodyPost_ret (v := .tuple #[.agg #[.slice A2 d.length c2], .agg #[.int .i64 q.1, .slice B2 q.2.1.length b2, .slice C2 q.2.2.length c3], .slice RA row.length rc]) (by simp [results, Try.results73, go_sem, *]) rfl ?_
    show DibP w _ _
    have hP := HP.out (g :: [w.heap.size, w.heap.size + 1]) _ (fun x hx => by simp at hx; omega) HCX.out
    exact ⟨A2, c2, d, B2, b2, C2, c3, q, RA, rc, row, rfl, hP.1, hP.2, HSX.out.toView sI_v, HD.out, HQ.out, HLX.out, HCX.out.isExt HX2.out (fun x hx => by simp at hx; omega)⟩
  | false =>
    go_wp2_with fail
    refine (l1Once_any Hc6.out (by omega) (by omega)).mono ?_
    rintro e w7 ⟨t2, rfl, hc7, hC7⟩
    have HR7 := Lib.hid (HR6.out.chg hC7 (by simp; omega))
    have HT7 := Lib.hid (HT6.out.chg hC7 (by simp; omega))
    have HB7 := Lib.hid (HB6.out.chg hC7 (by simpa using n6g))
    have HE7 := Lib.hid (HE6.out.chg hC7 (by simpa using n7g))
    have HC7 := Lib.hid (HC6.out.trans hC7 (fun x hx => .inl hx))
    have Hc7 := Lib.hid hc7
    have hz7 := hC7.size
    clear hC7 hc7 HR6 HT6 HB6 HE6 HA6 HC6 HI6 Hc6 l6 k6 f6 l7 k70 k71 k72 f7 l8 k80 k81 f8 lr kr fr lt kt0 kt1 kt2 ft
    obtain ⟨l6, k6, f6⟩ := bx1 HB7.out
    obtain ⟨l7, k70, k71, k72, f7⟩ := box3 HE7.out
    obtain ⟨lr, kr, fr⟩ := bx1 HR7.out
    obtain ⟨lt, kt0, kt1, kt2, ft⟩ := box3 HT7.out
    cases t2 with
    | true =>
      go_upto_region 7 with fail
      go_cut [4] (fun v wx => CutD w w2 g A2 d c2 B2 C2 q b2 c3 v wx)
      case first =>
        have HS0 : Hid (∀ (W : World) (n : Nat), W.heap.size = n → SV 3 1 sI (W.alloc (.cells #[.int .i64 1] 3)) (.slice (some ⟨n, 0, none⟩) [(1 : Int)].length 1) [(1 : Int)] [n]) := Lib.hid (fun W n h => by subst h; exact SV.lit (te := 3) (E := sI) (u := .int .i64 1) (d := (1 : Int)) W (fun _ => ⟨rfl, rfl⟩))
        go_region_held3 (fun w' => ∀ b o : Nat, b < w7.heap.size → b ≠ g → b ≠ w.heap.size → b ≠ w.heap.size + 1 → w'.cell? ⟨b, o, none⟩ = w7.cell? ⟨b, o, none⟩) (exact heldC (by repeat (with_reducible (first | exact Chg.refl _ _ | refine Chg.drew ?_ | refine Chg.alloc ?_ _ | refine Chg.setCell ?_ (.inl (by simp)) _ | refine Chg.trans ?_ hC7 (fun x hx => .inl (by rw [List.mem_singleton.1 hx]; simp)))))) (fail)
        all_goals
          go_wp2_with fail
          go_meet
          exact ⟨[(1 : Int)], _, 1, _, rfl, (by repeat (with_reducible (first | exact HR7.out | refine BoxAt.drew ?_ | refine BoxAt.alloc ?_ _ | refine BoxAt.chg ?_ hC8 (by simp; omega) | apply BoxAt.set10 | refine BoxAt.setO ?_ (by omega)))), (by repeat (with_reducible (first | exact HT7.out | refine BoxAt.drew ?_ | refine BoxAt.alloc ?_ _ | refine BoxAt.chg ?_ hC8 (by simp; omega) | apply BoxAt.set32 | apply BoxAt.set31 | apply BoxAt.set30 | refine BoxAt.setO ?_ (by omega)))), (by first | exact (HS0.out _ _ (by simp)).toExt (drew_ext _) | exact HS0.out _ _ (by simp) | repeat (with_reducible (first | exact HS0.out _ _ (by simp) | refine SV.toExt ?_ (drew_ext _) | refine SV.toExt ?_ (alloc_ext _ _) | refine SV.chg ?_ (Chg.setCell (F := [w.heap.size, w.heap.size + 1]) (Chg.refl _ _) (.inl (by simp)) _) (fun b hb h => by simp at hb h; omega)))), by simp, (HC7.out.mono (G := g :: [w.heap.size, w.heap.size + 1]) (fun x hx => .inl (by rw [List.mem_singleton.1 hx]; simp))).trans (by repeat (with_reducible (first | exact Chg.refl _ _ | refine Chg.drew ?_ | refine Chg.alloc ?_ _ | refine Chg.setCell ?_ (.inl (by simp)) _ | refine Chg.trans ?_ hC7 (fun x hx => .inl (by rw [List.mem_singleton.1 hx]; simp))))) (fun x hx => .inl hx)⟩
      obtain ⟨row, RA, rc, Fk, rfl, hRX, hTX, hSX, hLX, hCX⟩ := hcut
      obtain ⟨WX, rfl⟩ : ∃ W, W = wc := ⟨_, rfl⟩
      obtain ⟨lr, kr, fr⟩ := bx1 hRX
      obtain ⟨lt, kt0, kt1, kt2, ft⟩ := box3 hTX
      have HSX := Lib.hid hSX
      have HCX := Lib.hid hCX
      have HLX := Lib.hid hLX
      clear hRX hTX hSX hCX hLX
      go_wp2
      refine bodyPost_ret (v := .tuple #[.agg #[.slice A2 d.length c2], .agg #[.int .i64 q.1, .slice B2 q.2.1.length b2, .slice C2 q.2.2.length c3], .slice RA row.length rc]) (by simp [results, Try.results73, go_sem, *]) rfl ?_
      show DibP w _ _
      have hP := HP.out (g :: [w.heap.size, w.heap.size + 1]) _ (fun x hx => by simp at hx; omega) HCX.out
      exact ⟨A2, c2, d, B2, b2, C2, c3, q, RA, rc, row, rfl, hP.1, hP.2, HSX.out.toView sI_v, HD.out, HQ.out, HLX.out, HCX.out.isExt HX2.out (fun x hx => by simp at hx; omega)⟩
    | false =>
      have hm1 : (if q.1 < 6 then q.1 else 6) = q.1 := by split <;> omega
      have hm2 : (if 0 < q.1 then q.1 else 0) = q.1 := by split <;> omega
      go_upto_region 8 with fail
      go_cut [4] (fun v wx => CutD w w2 g A2 d c2 B2 C2 q b2 c3 v wx)
      case first =>
        go_region_held3 (fun w' => ∀ b o : Nat, b < w7.heap.size → b ≠ g → b ≠ w.heap.size → b ≠ w.heap.size + 1 → w'.cell? ⟨b, o, none⟩ = w7.cell? ⟨b, o, none⟩) (exact heldC (by repeat (with_reducible (first | exact Chg.refl _ _ | refine Chg.drew ?_ | refine Chg.alloc ?_ _ | refine Chg.setCell ?_ (.inl (by simp)) _ | refine Chg.trans ?_ hC8 (fun x hx => .inl (by rw [List.mem_singleton.1 hx]; simp)))))) (first | (go_at_call 155; (with_reducible refine (l4Row_z (Hc7.out.toExt (by repeat (with_reducible (first | exact refl_ext _ | exact alloc_ext _ _ | exact drew_ext _ | assumption | refine trans_ext ?_ (drew_ext _) | refine trans_ext ?_ (alloc_ext _ _) | refine trans_ext ?_ (by assumption))))) ?_ ?_ ?_ ?_).mono ?_); (focus omega); (focus omega); (focus omega); (focus omega); rintro e w8 ⟨v8, Fk, row, rfl, hSk, hF8, hl8, hr8, hc8, hC8⟩; obtain ⟨RA, rc, rfl, _, _⟩ := hSk.form; have HL8 := Lib.hid hl8; clear hl8; obtain ⟨mr, mr0, gr⟩ := bx1 ((HR7.out.toExt (by repeat (with_reducible (first | exact refl_ext _ | exact alloc_ext _ _ | exact drew_ext _ | assumption | refine trans_ext ?_ (drew_ext _) | refine trans_ext ?_ (alloc_ext _ _) | refine trans_ext ?_ (by assumption))))).chg hC8 (by simp; omega)); obtain ⟨mt, mt0, mt1, mt2, gt⟩ := box3 ((HT7.out.toExt (by repeat (with_reducible (first | exact refl_ext _ | exact alloc_ext _ _ | exact drew_ext _ | assumption | refine trans_ext ?_ (drew_ext _) | refine trans_ext ?_ (alloc_ext _ _) | refine trans_ext ?_ (by assumption))))).chg hC8 (by simp; omega))))
        all_goals
          go_wp2_with fail
          go_meet
          have hFk9 : ∀ b ∈ Fk, w.heap.size + 1 < b := fun b hb => by
            have h9 := hF8 b hb
            rw [show w7.drew.heap.size = w7.heap.size from rfl] at h9
            omega
          have hl9 : row.length ≤ 100 := by rw [HL8.out]; omega
          exact ⟨row, RA, rc, Fk, rfl, (by repeat (with_reducible (first | exact HR7.out | refine BoxAt.drew ?_ | refine BoxAt.alloc ?_ _ | refine BoxAt.chg ?_ hC8 (by simp; omega) | apply BoxAt.set10 | refine BoxAt.setO ?_ (by omega)))), (by repeat (with_reducible (first | exact HT7.out | refine BoxAt.drew ?_ | refine BoxAt.alloc ?_ _ | refine BoxAt.chg ?_ hC8 (by simp; omega) | apply BoxAt.set32 | apply BoxAt.set31 | apply BoxAt.set30 | refine BoxAt.setO ?_ (by omega)))), (by repeat (with_reducible (first | exact hSk | refine SV.toExt ?_ (drew_ext _) | refine SV.toExt ?_ (alloc_ext _ _) | refine SV.chg ?_ (Chg.setCell (F := [w.heap.size, w.heap.size + 1]) (Chg.refl _ _) (.inl (by simp)) _) (fun b hb h => by have := hFk9 b hb; simp at h; omega)))), hl9, (HC7.out.mono (G := g :: [w.heap.size, w.heap.size + 1]) (fun x hx => .inl (by rw [List.mem_singleton.1 hx]; simp))).trans (by repeat (with_reducible (first | exact Chg.refl _ _ | refine Chg.drew ?_ | refine Chg.alloc ?_ _ | refine Chg.setCell ?_ (.inl (by simp)) _ | refine Chg.trans ?_ hC8 (fun x hx => .inl (by rw [List.mem_singleton.1 hx]; simp))))) (fun x hx => .inl hx)⟩
      obtain ⟨row, RA, rc, Fk, rfl, hRX, hTX, hSX, hLX, hCX⟩ := hcut
      obtain ⟨WX, rfl⟩ : ∃ W, W = wc := ⟨_, rfl⟩
      obtain ⟨lr, kr, fr⟩ := bx1 hRX
      obtain ⟨lt, kt0, kt1, kt2, ft⟩ := box3 hTX
      have HSX := Lib.hid hSX
      have HCX := Lib.hid hCX
      have HLX := Lib.hid hLX
      clear hRX hTX hSX hCX hLX
      go_wp2
      refine bodyPost_ret (v := .tuple #[.agg #[.slice A2 d.length c2], .agg #[.int .i64 q.1, .slice B2 q.2.1.length b2, .slice C2 q.2.2.length c3], .slice RA row.length rc]) (by simp [results, Try.results73, go_sem, *]) rfl ?_
      show DibP w _ _
      have hP := HP.out (g :: [w.heap.size, w.heap.size + 1]) _ (fun x hx => by simp at hx; omega) HCX.out
      exact ⟨A2, c2, d, B2, b2, C2, c3, q, RA, rc, row, rfl, hP.1, hP.2, HSX.out.toView sI_v, HD.out, HQ.out, HLX.out, HCX.out.isExt HX2.out (fun x hx => by simp at hx; omega)⟩
end Go.Proofs.Ytfigcfajkilhiaa

/- Whether a row is a binding: the program's way and the reference's. -/
namespace Go.Proofs.Ytfigcfajkilhiaa
open Go.RowKit

def holdB (d : Dbd) (row : List Int) (a : At) : Bool := rowsB (relOf d a).1 (relOf d a).2 && decide (pickL row a.2 ∈ (relOf d a).2)
def isbB (d : Dbd) (q : Qd) (row : List Int) : Bool := iqfB d q && decide ((row.length : Int) = q.1) && q.2.1.all (holdB d row)
theorem holdB_eq {d : Dbd} {row : List Int} {a : At} {r : Rd} (h : relOf d a = r) : holdB d row a = (rowsB r.1 r.2 && decide (pickL row a.2 ∈ r.2)) := by
  subst h
  rfl
theorem holdL_step {d : Dbd} {row : List Int} {l : List At} {k : Nat} (h : k < l.length) : (l.drop k).all (holdB d row) = (holdB d row l[k] && (l.drop (k + 1)).all (holdB d row)) := by
  rw [List.drop_eq_getElem_cons h, List.all_cons]
theorem holdL_end {d : Dbd} {row : List Int} {l : List At} {k : Nat} (h : ¬ k < l.length) : (l.drop k).all (holdB d row) = true := by
  rw [List.drop_eq_nil_of_le (by omega)]; rfl
set_option maxRecDepth 100000 in
set_option maxHeartbeats 16000000 in
theorem IsBinding_any {A B C R : Option Addr} {c e g cr : Nat} {d : Dbd} {q : Qd} {row : List Int} {w : World} (hd : WDb d) (h1 : RV 3 vTb w A d) (hb : BQ q) (h2 : vQ w [.int .i64 q.1, .slice B q.2.1.length e, .slice C q.2.2.length g] q) (_hr : row.length ≤ 1000000000) (h4 : RI w R row) :
    Calls Try.prog 76 #[.agg #[.slice A d.length c], .agg #[.int .i64 q.1, .slice B q.2.1.length e, .slice C q.2.2.length g], .slice R row.length cr] w fun e w' => e = .returned (.bool (isbB d q row)) ∧ ∃ y, w' = ext w y := by
  have HD := Lib.hid hd
  have HB := Lib.hid hb
  have HV := Lib.hid h2
  have h3 := (vAts_get (vQ_get h2).1).2
  have hal := hb.2.1.1
  obtain ⟨t1, ht1⟩ : ∃ t, iqfB d q = t := ⟨_, rfl⟩
  obtain ⟨t2, ht2⟩ : ∃ t, decide ((row.length : Int) = q.1) = t := ⟨_, rfl⟩
  have hq2 : ((row.length : Int) != q.1) = !t2 := by rw [← ht2]; by_cases q9 : (row.length : Int) = q.1 <;> simp [q9]
  have HT1 := Lib.hid ht1
  have HE := Lib.hid (show isbB d q row = (t1 && t2 && q.2.1.all (holdB d row)) by unfold isbB; rw [ht1, ht2])
  have HQ := Lib.hid (fun (h : t1 = true) => qok (show iqfB d q = true by rw [ht1, h]))
  have HL := Lib.hid (fun (h : t2 = true) => show (row.length : Int) = q.1 from of_decide_eq_true (by rw [ht2, h]))
  have HLB : Hid (∀ x : At, x ∈ q.2.1 → x.2.length ≤ 1000000000) := Lib.hid (fun x hx => by have := (hb.2.1.each x hx).2; omega)
  clear hd hb h2 ht1 ht2
  go_enter Try.func76, Try.ntmps76
  go_upto_region 1 with fail
  refine wp_name ?_
  intro W hW
  have xW : ∃ y, W = ext w y := by rw [hW.out]; exact (by refine x'z ?_; repeat (with_reducible (first | apply x'a | apply x'b | exact x'c (by assumption) | refine x'd ?_ (by assumption) | apply x'e | apply x'f | apply x'g | apply x'h | apply x'i | apply x'j | apply x'k | apply x'l | apply x'm | assumption | (refine x'n ?_; omega) | omega)))
  have PW : BoxAt W w.heap.size #[.slice A d.length c] := by rw [hW.out]; exact (by repeat (with_reducible (first | assumption | exact BoxAt.new _ _ _ | apply BoxAt.set10 | apply BoxAt.set2 | refine BoxAt.set2' ?_ (by omega) | apply BoxAt.setP0 | apply BoxAt.setP1 | refine BoxAt.setO ?_ (by omega) | refine BoxAt.alloc ?_ _ | refine BoxAt.drew ?_ | refine BoxAt.toExt ?_ (by assumption))))
  have QW : BoxAt W (w.heap.size + 1) #[.int .i64 q.1, .slice B q.2.1.length e, .slice C q.2.2.length g] := by
    rw [hW.out]
    simpa using BoxAt.new (w.alloc (.cells #[.slice A d.length c] 29)) #[.int .i64 q.1, .slice B q.2.1.length e, .slice C q.2.2.length g] 55
  obtain ⟨lp, p0, fp⟩ := bx1 PW
  obtain ⟨lq, q0, q1, q2, fq⟩ := box3 QW
  clear hW
  cases t1 with
  | false =>
    go_wp2_with (go_at_call 74; refine (IsQueryFor_any HD.out (h1.toExt xW) HB.out (VD.toExt HV.out xW)).mono ?_; rintro e w1 ⟨rfl, hx1⟩; rw [HT1.out]; obtain ⟨lq1, q10, q11, q12, fq1⟩ := box3 (QW.toExt hx1))
    go_ret
    exact ⟨by rw [HE.out]; rfl, trans_ext xW hx1⟩
  | true =>
    cases t2 with
    | false =>
      go_wp2_with (go_at_call 74; refine (IsQueryFor_any HD.out (h1.toExt xW) HB.out (VD.toExt HV.out xW)).mono ?_; rintro e w1 ⟨rfl, hx1⟩; rw [HT1.out]; obtain ⟨lq1, q10, q11, q12, fq1⟩ := box3 (QW.toExt hx1))
      go_ret
      exact ⟨by rw [HE.out]; rfl, trans_ext xW hx1⟩
    | true =>
      have HE2 := Lib.hid (show isbB d q row = q.2.1.all (holdB d row) by rw [HE.out]; rfl)
      have HQK := Lib.hid (HQ.out (by trivial))
      have HLK := Lib.hid (HL.out (by trivial))
      go_wp2_with (go_at_call 74; refine (IsQueryFor_any HD.out (h1.toExt xW) HB.out (VD.toExt HV.out xW)).mono ?_; rintro e w1 ⟨rfl, hx1⟩; rw [HT1.out]; obtain ⟨lq1, q10, q11, q12, fq1⟩ := box3 (QW.toExt hx1))
      have P1 := PW.toExt hx1
      have xw1 := trans_ext xW hx1
      clear lp p0 fp lq q0 q1 q2 fq lq1 q10 q11 q12 fq1 PW QW
      go_loopw [25] (fun i wr => ∃ k : Nat, i = .int .i64 k ∧ k ≤ q.2.1.length ∧ (∃ y, wr = ext w1 y) ∧ Hid ((q.2.1.drop k).all (holdB d row) = q.2.1.all (holdB d row))) (fun i _ => q.2.1.length - (intOf i).toNat)
      case atStart => exact ⟨0, rfl, by omega, refl_ext w1, Lib.hid (by simp)⟩
      case round =>
        obtain ⟨k, rfl, hk, hy, Hj⟩ := hrel
        have hyw := trans_ext xw1 hy
        have P3 := P1.toExt hy
        obtain ⟨lp3, p30, fp3⟩ := bx1 P3
        by_cases hlt : k < q.2.1.length
        · obtain ⟨b, o, A1, c1, rfl, hbb, hc, hc1, hv⟩ := (h3.toExt hyw).atA hlt
          have e := Hj.out
          rw [holdL_step hlt] at e
          have hfit := HQK.out.fit _ (List.getElem_mem hlt)
          have hvars := HQK.out.vars _ (List.getElem_mem hlt)
          have hxl := HLB.out _ (List.getElem_mem hlt)
          obtain ⟨x, hx⟩ : ∃ x, q.2.1[k] = x := ⟨_, rfl⟩
          rw [hx] at e hc hc1 hv hfit hvars hxl
          have HO := Lib.hid (atFit_get hfit)
          have hrel := rowsB_iff.1 (atFit_some hfit).2.1.rel
          have HPI := Lib.hid (show ∀ v ∈ x.2, 0 ≤ v ∧ v < (row.length : Int) by rw [HLK.out]; exact hvars)
          have HRB := Lib.hid ((atFit_some hfit).2.1.rel)
          have hw9 := look_w HD.out (atFit_get hfit)
          obtain ⟨r, hr9⟩ : ∃ r, relOf d x = r := ⟨_, rfl⟩
          rw [holdB_eq hr9] at e
          rw [hr9] at HO hw9 HRB
          obtain ⟨hw9a, hw9b⟩ := hw9
          have HW9 := Lib.hid hw9b
          obtain ⟨px, hpx⟩ : ∃ p, pickL row x.2 = p := ⟨_, rfl⟩
          have hpl : px.length ≤ 1000000000 := by rw [← hpx, pickL_length]; exact hxl
          rw [hpx] at e
          have HPX := Lib.hid hpx
          have HV1 := Lib.hid hv
          obtain ⟨t, ht⟩ : ∃ t, (rowsB r.1 r.2 && decide (px ∈ r.2)) = t := ⟨_, rfl⟩
          rw [ht] at e
          have HTT := Lib.hid ht
          have He := Lib.hid e
          clear hx hv hfit hvars hrel hr9 hw9b hpx ht e
          go_upto_region 7 with (go_at_call 147; refine (LookupRelation_any HD.out (h1.toExt (trans_ext hyw (by refine x'z ?_; repeat (with_reducible (first | apply x'a | apply x'b | exact x'c (by assumption) | refine x'd ?_ (by assumption) | apply x'e | apply x'f | apply x'g | apply x'h | apply x'i | apply x'j | apply x'k | apply x'l | apply x'm | assumption | (refine x'n ?_; omega) | omega)))))).mono ?_; rw [HO.out]; rintro e w3 ⟨u0, u1, F3, rfl, hx3, hS3, hN3, hF3⟩; obtain ⟨A3, c3, rfl, rfl, hI3⟩ := sRel_form hS3; have T3 : BoxAt w3 wr.heap.size #[.string x.1, .slice A1 x.2.length c1] := (by repeat (with_reducible (first | assumption | exact BoxAt.new _ _ _ | apply BoxAt.set2 | refine BoxAt.set2' ?_ (by omega) | apply BoxAt.setP0 | apply BoxAt.setP1 | refine BoxAt.setO ?_ (by omega) | refine BoxAt.alloc ?_ _ | refine BoxAt.drew ?_ | refine BoxAt.toExt ?_ (by assumption)))))
          refine wp_name ?_
          intro w4 hw4
          have x34 : ∃ y, w4 = ext w3 y := by rw [hw4.out]; exact (by refine x'z ?_; repeat (with_reducible (first | apply x'a | apply x'b | exact x'c (by assumption) | refine x'd ?_ (by assumption) | apply x'e | apply x'f | apply x'g | apply x'h | apply x'i | apply x'j | apply x'k | apply x'l | apply x'm | assumption | (refine x'n ?_; omega) | omega)))
          have X4 : BoxAt w4 w3.heap.size #[.int .i64 r.1, .slice A3 r.2.length c3] := by rw [hw4.out]; exact (by repeat (with_reducible (first | assumption | exact BoxAt.new _ _ _ | apply BoxAt.set2 | refine BoxAt.set2' ?_ (by omega) | apply BoxAt.setP0 | apply BoxAt.setP1 | refine BoxAt.setO ?_ (by omega) | refine BoxAt.alloc ?_ _ | refine BoxAt.drew ?_ | refine BoxAt.toExt ?_ (by assumption))))
          have hy4 : ∃ y, w4 = ext wr y := (by refine x'z ?_; repeat (with_reducible (first | apply x'a | apply x'b | exact x'c (by assumption) | refine x'd ?_ (by assumption) | apply x'e | apply x'f | apply x'g | apply x'h | apply x'i | apply x'j | apply x'k | apply x'l | apply x'm | assumption | (refine x'n ?_; omega) | omega)))
          have hyw4 := trans_ext hyw hy4
          have T4 := T3.toExt x34
          obtain ⟨lt4, t40, t41, ft4⟩ := bx2 T4
          obtain ⟨lx4, x40, x41, fx4⟩ := bx2 X4
          have rk4 : RII w4 A3 r.2 := ((vII_get (sII_v _ _ _ hI3)).2).toExt x34
          have rr4 := h4.toExt hyw4
          have rv4 := HV1.out.toExt hy4
          clear hw4 hS3 hI3 hN3 hF3 T3 T4 X4 lp3 p30 fp3 hc hc1
          cases t with
          | false =>
            have HF2 := Lib.hid (show q.2.1.all (holdB d row) = false by rw [← He.out]; rfl)
            go_region_held3 (fun w' => (∀ a : Addr, a.block < w4.heap.size → w'.cell? a = w4.cell? a) ∧ ∃ y, w' = ext w4 y) (first | exact heldE (by refine x'z ?_; repeat (with_reducible (first | apply x'a | apply x'b | exact x'c (by assumption) | refine x'd ?_ (by assumption) | apply x'e | apply x'f | apply x'g | apply x'h | apply x'i | apply x'j | apply x'k | apply x'l | apply x'm | assumption | (refine x'n ?_; omega) | omega)))) (first
              | (go_at_call 150; refine (pick_any (rr4.toExt (by refine x'z ?_; repeat (with_reducible (first | apply x'a | apply x'b | exact x'c (by assumption) | refine x'd ?_ (by assumption) | apply x'e | apply x'f | apply x'g | apply x'h | apply x'i | apply x'j | apply x'k | apply x'l | apply x'm | assumption | (refine x'n ?_; omega) | omega)))) hxl (rv4.toExt (by refine x'z ?_; repeat (with_reducible (first | apply x'a | apply x'b | exact x'c (by assumption) | refine x'd ?_ (by assumption) | apply x'e | apply x'f | apply x'g | apply x'h | apply x'i | apply x'j | apply x'k | apply x'l | apply x'm | assumption | (refine x'n ?_; omega) | omega)))) HPI.out).mono ?_; rw [HPX.out]; rintro e w5 ⟨v5, F5, rfl, hx5, hS5, hF5⟩; obtain ⟨A5, c5, rfl, _, _, rv5⟩ := hS5.view sI_v)
              | (go_at_call 78; refine (ContainsRow_any hw9a HW9.out (rk4.toExt (by refine x'z ?_; repeat (with_reducible (first | apply x'a | apply x'b | exact x'c (by assumption) | refine x'd ?_ (by assumption) | apply x'e | apply x'f | apply x'g | apply x'h | apply x'i | apply x'j | apply x'k | apply x'l | apply x'm | assumption | (refine x'n ?_; omega) | omega)))) hpl rv5).mono ?_; rintro e w6 ⟨rfl, hx6⟩; rw [HTT.out]))
            go_wp2
            go_ret
            exact ⟨by rw [HE2.out, HF2.out]; rfl, trans_ext hyw4 (by refine x'z ?_; repeat (with_reducible (first | apply x'a | apply x'b | exact x'c (by assumption) | refine x'd ?_ (by assumption) | apply x'e | apply x'f | apply x'g | apply x'h | apply x'i | apply x'j | apply x'k | apply x'l | apply x'm | assumption | (refine x'n ?_; omega) | omega)))⟩
          | true =>
            have HK := Lib.hid (show (q.2.1.drop (k + 1)).all (holdB d row) = q.2.1.all (holdB d row) by rw [← He.out]; rfl)
            go_region_held3 (fun w' => (∀ a : Addr, a.block < w4.heap.size → w'.cell? a = w4.cell? a) ∧ ∃ y, w' = ext w4 y) (first | exact heldE (by refine x'z ?_; repeat (with_reducible (first | apply x'a | apply x'b | exact x'c (by assumption) | refine x'd ?_ (by assumption) | apply x'e | apply x'f | apply x'g | apply x'h | apply x'i | apply x'j | apply x'k | apply x'l | apply x'm | assumption | (refine x'n ?_; omega) | omega)))) (first
              | (go_at_call 150; refine (pick_any (rr4.toExt (by refine x'z ?_; repeat (with_reducible (first | apply x'a | apply x'b | exact x'c (by assumption) | refine x'd ?_ (by assumption) | apply x'e | apply x'f | apply x'g | apply x'h | apply x'i | apply x'j | apply x'k | apply x'l | apply x'm | assumption | (refine x'n ?_; omega) | omega)))) hxl (rv4.toExt (by refine x'z ?_; repeat (with_reducible (first | apply x'a | apply x'b | exact x'c (by assumption) | refine x'd ?_ (by assumption) | apply x'e | apply x'f | apply x'g | apply x'h | apply x'i | apply x'j | apply x'k | apply x'l | apply x'm | assumption | (refine x'n ?_; omega) | omega)))) HPI.out).mono ?_; rw [HPX.out]; rintro e w5 ⟨v5, F5, rfl, hx5, hS5, hF5⟩; obtain ⟨A5, c5, rfl, _, _, rv5⟩ := hS5.view sI_v)
              | (go_at_call 78; refine (ContainsRow_any hw9a HW9.out (rk4.toExt (by refine x'z ?_; repeat (with_reducible (first | apply x'a | apply x'b | exact x'c (by assumption) | refine x'd ?_ (by assumption) | apply x'e | apply x'f | apply x'g | apply x'h | apply x'i | apply x'j | apply x'k | apply x'l | apply x'm | assumption | (refine x'n ?_; omega) | omega)))) hpl rv5).mono ?_; rintro e w6 ⟨rfl, hx6⟩; rw [HTT.out]))
            go_wp2
            exact ⟨⟨k + 1, by go_num, by omega, trans_ext (trans_ext hy hy4) (by refine x'z ?_; repeat (with_reducible (first | apply x'a | apply x'b | exact x'c (by assumption) | refine x'd ?_ (by assumption) | apply x'e | apply x'f | apply x'g | apply x'h | apply x'i | apply x'j | apply x'k | apply x'l | apply x'm | assumption | (refine x'n ?_; omega) | omega))), HK⟩, by simp [intOf]; omega⟩
        · have e := Hj.out
          rw [holdL_end hlt] at e
          have HK := Lib.hid (show isbB d q row = true by rw [HE2.out, ← e])
          clear e Hj
          go_wp2
          go_ret
          exact ⟨by rw [HK.out]; rfl, hyw⟩
set_option maxRecDepth 100000 in
set_option maxHeartbeats 16000000 in
theorem specIsBinding_any {A B C R : Option Addr} {c e g cr : Nat} {d : Dbd} {q : Qd} {row : List Int} {w : World} (hd : WDb d) (h1 : RV 3 vTb w A d) (hb : BQ q) (h2 : vQ w [.int .i64 q.1, .slice B q.2.1.length e, .slice C q.2.2.length g] q) (_hr : row.length ≤ 1000000000) (h4 : RI w R row) :
    Calls Try.prog 77 #[.agg #[.slice A d.length c], .agg #[.int .i64 q.1, .slice B q.2.1.length e, .slice C q.2.2.length g], .slice R row.length cr] w fun e w' => e = .returned (.bool (isbB d q row)) ∧ ∃ y, w' = ext w y := by
  have HD := Lib.hid hd
  have HB := Lib.hid hb
  have HV := Lib.hid h2
  have h3 := (vAts_get (vQ_get h2).1).2
  have hal := hb.2.1.1
  obtain ⟨t1, ht1⟩ : ∃ t, iqfB d q = t := ⟨_, rfl⟩
  obtain ⟨t2, ht2⟩ : ∃ t, decide ((row.length : Int) = q.1) = t := ⟨_, rfl⟩
  have hq2 : ((row.length : Int) != q.1) = !t2 := by rw [← ht2]; by_cases q9 : (row.length : Int) = q.1 <;> simp [q9]
  have HT1 := Lib.hid ht1
  have HE := Lib.hid (show isbB d q row = (t1 && t2 && q.2.1.all (holdB d row)) by unfold isbB; rw [ht1, ht2])
  have HQ := Lib.hid (fun (h : t1 = true) => qok (show iqfB d q = true by rw [ht1, h]))
  have HL := Lib.hid (fun (h : t2 = true) => show (row.length : Int) = q.1 from of_decide_eq_true (by rw [ht2, h]))
  have HLB : Hid (∀ x : At, x ∈ q.2.1 → x.2.length ≤ 1000000000) := Lib.hid (fun x hx => by have := (hb.2.1.each x hx).2; omega)
  clear hd hb h2 ht1 ht2
  go_enter Try.func77, Try.ntmps77
  go_upto_region 1 with fail
  refine wp_name ?_
  intro W hW
  have xW : ∃ y, W = ext w y := by rw [hW.out]; exact (by refine x'z ?_; repeat (with_reducible (first | apply x'a | apply x'b | exact x'c (by assumption) | refine x'd ?_ (by assumption) | apply x'e | apply x'f | apply x'g | apply x'h | apply x'i | apply x'j | apply x'k | apply x'l | apply x'm | assumption | (refine x'n ?_; omega) | omega)))
  have PW : BoxAt W w.heap.size #[.slice A d.length c] := by rw [hW.out]; exact (by repeat (with_reducible (first | assumption | exact BoxAt.new _ _ _ | apply BoxAt.set10 | apply BoxAt.set2 | refine BoxAt.set2' ?_ (by omega) | apply BoxAt.setP0 | apply BoxAt.setP1 | refine BoxAt.setO ?_ (by omega) | refine BoxAt.alloc ?_ _ | refine BoxAt.drew ?_ | refine BoxAt.toExt ?_ (by assumption))))
  have QW : BoxAt W (w.heap.size + 1) #[.int .i64 q.1, .slice B q.2.1.length e, .slice C q.2.2.length g] := by
    rw [hW.out]
    simpa using BoxAt.new (w.alloc (.cells #[.slice A d.length c] 29)) #[.int .i64 q.1, .slice B q.2.1.length e, .slice C q.2.2.length g] 55
  obtain ⟨lp, p0, fp⟩ := bx1 PW
  obtain ⟨lq, q0, q1, q2, fq⟩ := box3 QW
  clear hW
  cases t1 with
  | false =>
    go_wp2_with (go_at_call 75; refine (specIsQueryFor_any HD.out (h1.toExt xW) HB.out (VD.toExt HV.out xW)).mono ?_; rintro e w1 ⟨rfl, hx1⟩; rw [HT1.out]; obtain ⟨lq1, q10, q11, q12, fq1⟩ := box3 (QW.toExt hx1))
    go_ret
    exact ⟨by rw [HE.out]; rfl, trans_ext xW hx1⟩
  | true =>
    cases t2 with
    | false =>
      go_wp2_with (go_at_call 75; refine (specIsQueryFor_any HD.out (h1.toExt xW) HB.out (VD.toExt HV.out xW)).mono ?_; rintro e w1 ⟨rfl, hx1⟩; rw [HT1.out]; obtain ⟨lq1, q10, q11, q12, fq1⟩ := box3 (QW.toExt hx1))
      go_ret
      exact ⟨by rw [HE.out]; rfl, trans_ext xW hx1⟩
    | true =>
      have HE2 := Lib.hid (show isbB d q row = q.2.1.all (holdB d row) by rw [HE.out]; rfl)
      have HQK := Lib.hid (HQ.out (by trivial))
      have HLK := Lib.hid (HL.out (by trivial))
      go_wp2_with (go_at_call 75; refine (specIsQueryFor_any HD.out (h1.toExt xW) HB.out (VD.toExt HV.out xW)).mono ?_; rintro e w1 ⟨rfl, hx1⟩; rw [HT1.out]; obtain ⟨lq1, q10, q11, q12, fq1⟩ := box3 (QW.toExt hx1))
      have P1 := PW.toExt hx1
      have Q1 := QW.toExt hx1
      have xw1 := trans_ext xW hx1
      clear lp p0 fp lq q0 q1 q2 fq lq1 q10 q11 q12 fq1 PW QW
      go_loopw [7] (fun i wr => ∃ k : Nat, i = .int .i64 k ∧ k ≤ q.2.1.length ∧ (∃ y, wr = ext w1 y) ∧ Hid ((q.2.1.drop k).all (holdB d row) = q.2.1.all (holdB d row))) (fun i _ => q.2.1.length - (intOf i).toNat)
      case atStart => exact ⟨0, rfl, by omega, refl_ext w1, Lib.hid (by simp)⟩
      case round =>
        obtain ⟨k, rfl, hk, hy, Hj⟩ := hrel
        have hyw := trans_ext xw1 hy
        have P3 := P1.toExt hy
        have Q3 := Q1.toExt hy
        obtain ⟨lp3, p30, fp3⟩ := bx1 P3
        obtain ⟨lq3, q30, q31, q32, fq3⟩ := box3 Q3
        by_cases hlt : k < q.2.1.length
        · obtain ⟨b, o, A1, c1, rfl, hbb, hc, hc1, hv⟩ := (h3.toExt hyw).atA hlt
          have e := Hj.out
          rw [holdL_step hlt] at e
          have hfit := HQK.out.fit _ (List.getElem_mem hlt)
          have hvars := HQK.out.vars _ (List.getElem_mem hlt)
          have hxl := HLB.out _ (List.getElem_mem hlt)
          obtain ⟨x, hx⟩ : ∃ x, q.2.1[k] = x := ⟨_, rfl⟩
          rw [hx] at e hc hc1 hv hfit hvars hxl
          have hoo := atFit_get hfit
          have HPI := Lib.hid (show ∀ v ∈ x.2, 0 ≤ v ∧ v < (row.length : Int) by rw [HLK.out]; exact hvars)
          have hw9 := look_w HD.out (atFit_get hfit)
          obtain ⟨r, hr9⟩ : ∃ r, relOf d x = r := ⟨_, rfl⟩
          rw [holdB_eq hr9] at e
          rw [hr9] at hoo hw9
          obtain ⟨hw9a, hw9b⟩ := hw9
          have HW9 := Lib.hid hw9b
          obtain ⟨px, hpx⟩ : ∃ p, pickL row x.2 = p := ⟨_, rfl⟩
          have hpl : px.length ≤ 1000000000 := by rw [← hpx, pickL_length]; exact hxl
          rw [hpx] at e
          have HPX := Lib.hid hpx
          have HV1 := Lib.hid hv
          obtain ⟨t, ht⟩ : ∃ t, (rowsB r.1 r.2 && decide (px ∈ r.2)) = t := ⟨_, rfl⟩
          rw [ht] at e
          have HTT := Lib.hid ht
          have He := Lib.hid e
          obtain ⟨o, ho⟩ : ∃ o, o = some r := ⟨_, rfl⟩
          rw [← ho] at hoo
          have HO := Lib.hid hoo
          have HOR := Lib.hid ho
          clear ho
          clear hx hv hfit hvars hr9 hw9b hpx ht e hoo
          go_upto_region 6 with fail
          go_cut [8, 9] (CutR o wr)
          case first =>
            go_region_held3 (fun w' => (∀ a : Addr, a.block < wr.heap.size → w'.cell? a = wr.cell? a) ∧ ∃ y, w' = ext wr y) (first | exact heldE (by refine x'z ?_; repeat (with_reducible (first | apply x'a | apply x'b | exact x'c (by assumption) | refine x'd ?_ (by assumption) | apply x'e | apply x'f | apply x'g | apply x'h | apply x'i | apply x'j | apply x'k | apply x'l | apply x'm | assumption | (refine x'n ?_; omega) | omega)))) ((go_at_call 71; refine (specLookupRelation_any HD.out (h1.toExt (trans_ext hyw (by refine x'z ?_; repeat (with_reducible (first | apply x'a | apply x'b | exact x'c (by assumption) | refine x'd ?_ (by assumption) | apply x'e | apply x'f | apply x'g | apply x'h | apply x'i | apply x'j | apply x'k | apply x'l | apply x'm | assumption | (refine x'n ?_; omega) | omega)))))).mono ?_; rw [HO.out]; rintro e w3 ⟨u0, u1, F3, rfl, hx3, hS3, hN3, hF3⟩; obtain ⟨A3, c3, rfl, rfl, hI3⟩ := sRel_form hS3; (first | (have L3 : BoxAt w3 wr.heap.size #[.int .i64 0, .slice none 0 0] := BoxAt.toExt (BoxAt.new wr _ _) hx3; obtain ⟨z1, z2, z3, z4⟩ := bx2 L3) | (have L3 : BoxAt w3 wr.heap.size #[.int .i64 0, .slice none 0 0] := BoxAt.toExt (BoxAt.new wr.drew _ _) hx3; obtain ⟨z1, z2, z3, z4⟩ := bx2 L3) | (have L3 : BoxAt w3 wr.heap.size #[.int .i64 0, .slice none 0 0] := BoxAt.toExt (BoxAt.new wr _ _).drew hx3; obtain ⟨z1, z2, z3, z4⟩ := bx2 L3) | skip)))
            all_goals
              go_wp2_with fail
              go_meet
              have hz3 := size_of_ext hx3
              (first | simp only [World.size_alloc, World.drew] at hz3 hF3 | simp only [World.drew] at hz3 hF3)
              first
                | exact ⟨w3.heap.size, A3, c3, rfl, rfl, BoxAt.new _ _ _, (vII_get (sII_v _ _ _ (OD.toExt hI3 (alloc_ext _ _)))).2, by omega, (by refine x'z ?_; repeat (with_reducible (first | apply x'a | apply x'b | exact x'c (by assumption) | refine x'd ?_ (by assumption) | apply x'e | apply x'f | apply x'g | apply x'h | apply x'i | apply x'j | apply x'k | apply x'l | apply x'm | assumption | (refine x'n ?_; omega) | omega)))⟩
                | exact ⟨wr.heap.size, A3, c3, rfl, rfl, (by repeat (with_reducible (first | assumption | exact BoxAt.new _ _ _ | apply BoxAt.set2 | refine BoxAt.set2' ?_ (by omega) | apply BoxAt.setP0 | apply BoxAt.setP1 | refine BoxAt.setO ?_ (by omega) | refine BoxAt.alloc ?_ _ | refine BoxAt.drew ?_ | refine BoxAt.toExt ?_ (by assumption)))), (vII_get (sII_v _ _ _ (OD.chg (G := [wr.heap.size]) hI3 (by repeat (with_reducible (first | exact Chg.refl _ _ | refine Chg.trans0 ?_ (by assumption) | refine Chg.extS ?_ _ | refine Chg.alloc ?_ _ | refine Chg.drew ?_ | refine Chg.setCell ?_ (.inl (by simp)) _))) (fun x hx hm => by have := hF3 x hx; rw [List.mem_singleton.1 hm] at this; omega)))).2, by omega, (by refine x'z ?_; repeat (with_reducible (first | apply x'a | apply x'b | exact x'c (by assumption) | refine x'd ?_ (by assumption) | apply x'e | apply x'f | apply x'g | apply x'h | apply x'i | apply x'j | apply x'k | apply x'l | apply x'm | assumption | (refine x'n ?_; omega) | omega)))⟩
          obtain ⟨bX, A3, c3, rfl, rfl, BX, hvX, hbX, hxX⟩ := hcut
          obtain ⟨w4, rfl⟩ : ∃ W, W = wc := ⟨_, rfl⟩
          obtain rfl := HOR.out
          simp only [Option.getD_some] at BX hvX
          have hyw4 := trans_ext hyw hxX
          have hc14 := cellW hxX hbb hc1
          have hb4 := ltW hxX hbb
          obtain ⟨lq4, q40, q41, q42, fq4⟩ := box3 (Q3.toExt hxX)
          obtain ⟨lx4, x40, x41, fx4⟩ := bx2 BX
          have rr4 := h4.toExt hyw4
          have rv4 := HV1.out.toExt hxX
          clear lq3 q30 q31 q32 fq3 lp3 p30 fp3 hc hc1 hbb BX
          cases t with
          | false =>
            have HF2 := Lib.hid (show q.2.1.all (holdB d row) = false by rw [← He.out]; rfl)
            go_wp2_with fail
            go_region_held3 (fun w' => (∀ a : Addr, a.block < w4.heap.size → w'.cell? a = w4.cell? a) ∧ ∃ y, w' = ext w4 y) (first | exact heldE (by refine x'z ?_; repeat (with_reducible (first | apply x'a | apply x'b | exact x'c (by assumption) | refine x'd ?_ (by assumption) | apply x'e | apply x'f | apply x'g | apply x'h | apply x'i | apply x'j | apply x'k | apply x'l | apply x'm | assumption | (refine x'n ?_; omega) | omega)))) (first
              | (go_at_call 119; refine (l5Cols_any (rr4.toExt (by refine x'z ?_; repeat (with_reducible (first | apply x'a | apply x'b | exact x'c (by assumption) | refine x'd ?_ (by assumption) | apply x'e | apply x'f | apply x'g | apply x'h | apply x'i | apply x'j | apply x'k | apply x'l | apply x'm | assumption | (refine x'n ?_; omega) | omega)))) hxl (rv4.toExt (by refine x'z ?_; repeat (with_reducible (first | apply x'a | apply x'b | exact x'c (by assumption) | refine x'd ?_ (by assumption) | apply x'e | apply x'f | apply x'g | apply x'h | apply x'i | apply x'j | apply x'k | apply x'l | apply x'm | assumption | (refine x'n ?_; omega) | omega)))) HPI.out).mono ?_; rw [HPX.out]; rintro e w5 ⟨v5, F5, rfl, hx5, hS5, hF5⟩; obtain ⟨A5, c5, rfl, _, _, rv5⟩ := hS5.view sI_v)
              | (go_at_call 158; refine (specContainsRow_any hw9a HW9.out (hvX.toExt (by refine x'z ?_; repeat (with_reducible (first | apply x'a | apply x'b | exact x'c (by assumption) | refine x'd ?_ (by assumption) | apply x'e | apply x'f | apply x'g | apply x'h | apply x'i | apply x'j | apply x'k | apply x'l | apply x'm | assumption | (refine x'n ?_; omega) | omega)))) hpl rv5).mono ?_; rintro e w6 ⟨rfl, hx6⟩; rw [HTT.out]))
            go_wp2
            go_ret
            exact ⟨by rw [HE2.out, HF2.out]; rfl, trans_ext hyw4 (by refine x'z ?_; repeat (with_reducible (first | apply x'a | apply x'b | exact x'c (by assumption) | refine x'd ?_ (by assumption) | apply x'e | apply x'f | apply x'g | apply x'h | apply x'i | apply x'j | apply x'k | apply x'l | apply x'm | assumption | (refine x'n ?_; omega) | omega)))⟩
          | true =>
            have HK := Lib.hid (show (q.2.1.drop (k + 1)).all (holdB d row) = q.2.1.all (holdB d row) by rw [← He.out]; rfl)
            go_wp2_with fail
            go_region_held3 (fun w' => (∀ a : Addr, a.block < w4.heap.size → w'.cell? a = w4.cell? a) ∧ ∃ y, w' = ext w4 y) (first | exact heldE (by refine x'z ?_; repeat (with_reducible (first | apply x'a | apply x'b | exact x'c (by assumption) | refine x'd ?_ (by assumption) | apply x'e | apply x'f | apply x'g | apply x'h | apply x'i | apply x'j | apply x'k | apply x'l | apply x'm | assumption | (refine x'n ?_; omega) | omega)))) (first
              | (go_at_call 119; refine (l5Cols_any (rr4.toExt (by refine x'z ?_; repeat (with_reducible (first | apply x'a | apply x'b | exact x'c (by assumption) | refine x'd ?_ (by assumption) | apply x'e | apply x'f | apply x'g | apply x'h | apply x'i | apply x'j | apply x'k | apply x'l | apply x'm | assumption | (refine x'n ?_; omega) | omega)))) hxl (rv4.toExt (by refine x'z ?_; repeat (with_reducible (first | apply x'a | apply x'b | exact x'c (by assumption) | refine x'd ?_ (by assumption) | apply x'e | apply x'f | apply x'g | apply x'h | apply x'i | apply x'j | apply x'k | apply x'l | apply x'm | assumption | (refine x'n ?_; omega) | omega)))) HPI.out).mono ?_; rw [HPX.out]; rintro e w5 ⟨v5, F5, rfl, hx5, hS5, hF5⟩; obtain ⟨A5, c5, rfl, _, _, rv5⟩ := hS5.view sI_v)
              | (go_at_call 158; refine (specContainsRow_any hw9a HW9.out (hvX.toExt (by refine x'z ?_; repeat (with_reducible (first | apply x'a | apply x'b | exact x'c (by assumption) | refine x'd ?_ (by assumption) | apply x'e | apply x'f | apply x'g | apply x'h | apply x'i | apply x'j | apply x'k | apply x'l | apply x'm | assumption | (refine x'n ?_; omega) | omega)))) hpl rv5).mono ?_; rintro e w6 ⟨rfl, hx6⟩; rw [HTT.out]))
            go_wp2
            exact ⟨⟨k + 1, by go_num, by omega, trans_ext (trans_ext hy hxX) (by refine x'z ?_; repeat (with_reducible (first | apply x'a | apply x'b | exact x'c (by assumption) | refine x'd ?_ (by assumption) | apply x'e | apply x'f | apply x'g | apply x'h | apply x'i | apply x'j | apply x'k | apply x'l | apply x'm | assumption | (refine x'n ?_; omega) | omega))), HK⟩, by simp [intOf]; omega⟩
        · have e := Hj.out
          rw [holdL_end hlt] at e
          have HK := Lib.hid (show isbB d q row = true by rw [HE2.out, ← e])
          clear e Hj
          go_wp2
          go_ret
          exact ⟨by rw [HK.out]; rfl, hyw⟩
end Go.Proofs.Ytfigcfajkilhiaa
