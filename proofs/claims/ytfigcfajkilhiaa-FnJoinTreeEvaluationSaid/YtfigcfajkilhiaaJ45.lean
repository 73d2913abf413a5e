/- Contracts of functions that the statement reaches. -/
import Derived.Test.YtfigcfajkilhiaaJ44
import Derived.Test.YtfigcfajkilhiaaJ43
import Derived.Test.YtfigcfajkilhiaaJ31
import Derived.Test.YtfigcfajkilhiaaJ41
namespace Go.Proofs.Ytfigcfajkilhiaa
open Go.RowKit
theorem evT_yes {d : Dbd} {q : Qd} {ps : List Int} (h : iqfB d q = true) (hv : ivjB q ps = true) : evT d q ps = evalR d q := by unfold evT; rw [if_pos ⟨h, hv⟩]
theorem evT_no {d : Dbd} {q : Qd} {ps : List Int} (h : (iqfB d q && ivjB q ps) = false) : evT d q ps = none := by
  unfold evT
  rw [if_neg]
  rw [← Bool.and_eq_true, h]
  simp
theorem fullR_no {d : Dbd} {q : Qd} {ps : List Int} (h : (iqfB d q && ivjB q ps) = false) : fullR d q ps = none := by
  unfold fullR
  rw [if_neg]
  rw [← Bool.and_eq_true, h]
  simp
theorem full_proj {d : Dbd} {q : Qd} {ps : List Int} {r : Nat} (hY : Yan d q ps r) (hq : iqfB d q = true) (hn : (allB d q).length ≤ 4000) {j : Nat} (hj : j < q.2.1.length) :
    projR (q.1, allB d q) (vrsA q.2.1 j) = some ((fullD d q (prs ps (upL ps))).getD j zV).2 := by
  obtain ⟨S, h1, h2, h3⟩ := hY.full hY.ord.up
  have hr : rowsB q.1 (allB d q) = true := by rw [allB_rowsB (qok hq)]; exact decide_eq_true hn
  have hin : ∀ v ∈ vrsA q.2.1 j, 0 ≤ v ∧ v < q.1 := fun v hv => hY.inv.at j v ((mem_vrsA hY.inv).1 hv)
  have h5 : (vrsA q.2.1 j).length ≤ 5 := avars_length 5 0 _
  rw [projR_ok (d := (q.1, allB d q)) hr (fitsC_iff.2 ⟨h5, hin⟩), h1, mkD_get hj]
  have e : sortR ((allB d q).map fun x => pickL x (vrsA q.2.1 j)) = S j := ascR_ext (asc_sortR _) (h2 j hj).ra fun t => by
    rw [mem_sortR, h3 j hj, List.mem_map]
    constructor
    · rintro ⟨z, hz, rfl⟩
      have hl := ((mem_allB hY.ok).1 hz).1
      refine ⟨fun v => z.getD v.toNat 0, rfl, ?_⟩
      rw [row_map hl]
      exact hz
    · rintro ⟨g, rfl, hg⟩
      exact ⟨_, hg, pick_idV hin⟩
  show some (((vrsA q.2.1 j).length : Int), sortR ((allB d q).map fun x => pickL x (vrsA q.2.1 j))) = _
  rw [e]
end Go.Proofs.Ytfigcfajkilhiaa
namespace Go.Proofs.Ytfigcfajkilhiaa
open Go.RowKit
set_option maxRecDepth 100000 in
set_option maxHeartbeats 8000000 in
theorem specEvaluateQuery_any {A B C : Option Addr} {c e g : Nat} {d : Dbd} {q : Qd} {w : World} (hd : WDb d) (h1 : RV 3 vTb w A d) (hb : BQ q) (h2 : vQ w [.int .i64 q.1, .slice B q.2.1.length e, .slice C q.2.2.length g] q) :
    Calls Try.prog 37 #[.agg #[.slice A d.length c], .agg #[.int .i64 q.1, .slice B q.2.1.length e, .slice C q.2.2.length g]] w (RelOut (evalR d q) w) := by
  have HD := Lib.hid hd
  have HB := Lib.hid hb
  have HV := Lib.hid h2
  have hgo := (vQ_get h2).2.1
  have hgl : q.2.2.length ≤ 1000000000 := by have := hb.2.2; omega
  obtain ⟨o, ho⟩ : ∃ o, bindR d q = o := ⟨_, rfl⟩
  have HO := Lib.hid ho
  have hbl := fun r h => bind_ok (d := d) (q := q) (r := r) h
  have hba := fun r h => bind_ar (d := d) (q := q) (r := r) h
  rw [ho] at hbl hba
  have HBL := Lib.hid hbl
  have HBA := Lib.hid hba
  obtain ⟨t1, ht1⟩ : ∃ t, iqfB d q = t := ⟨_, rfl⟩
  have HT1 := Lib.hid ht1
  have HQ := Lib.hid (fun (h : t1 = true) => qok (show iqfB d q = true by rw [ht1, h]))
  clear hd hb h2 ho hbl hba ht1
  go_enter Try.func37, Try.ntmps37
  go_upto_region 1 with fail
  refine wp_name ?_
  intro W hW
  have xW : ∃ y, W = ext w y := by rw [hW.out]; exact (by refine x'z ?_; repeat (with_reducible (first | exact x'a _ _ | exact x'b _ | exact x'c (by assumption) | refine x'd ?_ (by assumption) | refine x'e ?_ _ | refine x'f ?_ _ | refine x'g ?_ | refine x'h ?_ ?_ _ | refine x'i ?_ _ | refine x'j ?_ | refine x'k ?_ _ | refine x'l ?_ _ _ | refine x'm ?_ | assumption | (refine x'n ?_; omega) | omega)))
  have PW : BoxAt W w.heap.size #[.slice A d.length c] := by rw [hW.out]; exact (by repeat (with_reducible (first | assumption | exact BoxAt.new _ _ _ | apply BoxAt.set10 | apply BoxAt.set2 | refine BoxAt.set2' ?_ (by omega) | apply BoxAt.setP0 | apply BoxAt.setP1 | refine BoxAt.setO ?_ (by omega) | refine BoxAt.alloc ?_ _ | refine BoxAt.drew ?_ | refine BoxAt.toExt ?_ (by assumption))))
  have QW : BoxAt W (w.heap.size + 1) #[.int .i64 q.1, .slice B q.2.1.length e, .slice C q.2.2.length g] := by
    rw [hW.out]
    refine ⟨?_, fun j => ?_, fun j => ?_⟩ <;> go_simp
  have RW : BoxAt W (w.heap.size + 1 + 1) #[.int .i64 0, .slice none 0 0] := by rw [hW.out]; refine ⟨?_, fun j => ?_, fun j => ?_⟩ <;> go_simp
  obtain ⟨lp, p0, fp⟩ := bx1 PW
  obtain ⟨lq, q0, q1, q2, fq⟩ := box3 QW
  have hRW := RW.1
  have hz0 := size_of_ext xW
  clear hW
  go_upto_region 2 with (go_at_call 31; refine (specAllBindings_any HD.out (h1.toExt xW) HB.out (VD.toExt HV.out xW)).mono ?_; rw [HO.out]; rintro e w1 ⟨u0, u1, F1, rfl, hx1, hS1, hN1, hF1⟩; obtain ⟨A1, c1, rfl, rfl, hI1⟩ := sRel_form hS1)
  refine wp_name ?_
  intro w2 hw2
  have x12 : ∃ y, w2 = ext w1 y := by rw [hw2.out]; exact (by refine x'z ?_; repeat (with_reducible (first | exact x'a _ _ | exact x'b _ | exact x'c (by assumption) | refine x'd ?_ (by assumption) | refine x'e ?_ _ | refine x'f ?_ _ | refine x'g ?_ | refine x'h ?_ ?_ _ | refine x'i ?_ _ | refine x'j ?_ | refine x'k ?_ _ | refine x'l ?_ _ _ | refine x'm ?_ | assumption | (refine x'n ?_; omega) | omega)))
  have X2 : BoxAt w2 w1.heap.size #[.int .i64 (o.getD (0, [])).1, .slice A1 (o.getD (0, [])).2.length c1] := by rw [hw2.out]; exact (by repeat (with_reducible (first | assumption | exact BoxAt.new _ _ _ | apply BoxAt.set2 | refine BoxAt.set2' ?_ (by omega) | apply BoxAt.setP0 | apply BoxAt.setP1 | refine BoxAt.setO ?_ (by omega) | refine BoxAt.alloc ?_ _ | refine BoxAt.drew ?_ | refine BoxAt.toExt ?_ (by assumption))))
  obtain ⟨bX, qX⟩ : ∃ b, w1.heap.size = b := ⟨_, rfl⟩
  have hzX := size_of_ext hx1
  have hz12 := size_of_ext x12
  rw [qX] at X2 hzX hz12 ⊢
  have xW2 := trans_ext hx1 x12
  have xw2 := trans_ext xW xW2
  have P2 := PW.toExt xW2
  have Q2 := QW.toExt xW2
  have R2 := RW.toExt xW2
  obtain ⟨lx2, x20, x21, fx2⟩ := bx2 X2
  obtain ⟨lp2, p20, fp2⟩ := bx1 P2
  obtain ⟨lr2, r20, r21, fr2⟩ := bx2 R2
  obtain ⟨lq2, q20, q21, q22, fq2⟩ := box3 Q2
  have hrv := ((vII_get (sII_v _ _ _ hI1)).2).toExt x12
  have hgo2 := hgo.toExt xw2
  clear hw2 qX lp p0 fp lq q0 q1 q2 fq
  cases t1 with
  | false =>
    have HZ := Lib.hid (evalR_no (d := d) (q := q) (bind_no HT1.out))
    go_wp2_with (go_at_call 75; refine (specIsQueryFor_any HD.out (h1.toExt xw2) HB.out (VD.toExt HV.out xw2)).mono ?_; rintro e w3 ⟨rfl, hx3⟩; rw [HT1.out]; obtain ⟨lr3, r30, r31, fr3⟩ := bx2 (R2.toExt hx3))
    refine bodyPost_ret (v := .tuple #[.agg #[.int .i64 0, .slice none 0 0], .bool false]) (by simp [results, Try.results37, go_sem, *]) rfl (relOut_none HZ.out rfl (by refine x'z ?_; repeat (with_reducible (first | exact x'a _ _ | exact x'b _ | exact x'c (by assumption) | refine x'd ?_ (by assumption) | refine x'e ?_ _ | refine x'f ?_ _ | refine x'g ?_ | refine x'h ?_ ?_ _ | refine x'i ?_ _ | refine x'j ?_ | refine x'k ?_ _ | refine x'l ?_ _ _ | refine x'm ?_ | assumption | (refine x'n ?_; omega) | omega))))
  | true =>
    have hn1 := (HQ.out rfl).n1
    cases o with
    | none =>
      have HZ := Lib.hid (evalR_no HO.out)
      simp only [Option.getD_none] at X2 x20 x21 ⊢
      have hne : ((0 : Int) != q.1) = true := by simp; omega
      go_wp2_with (go_at_call 75; refine (specIsQueryFor_any HD.out (h1.toExt xw2) HB.out (VD.toExt HV.out xw2)).mono ?_; rintro e w3 ⟨rfl, hx3⟩; rw [HT1.out]; obtain ⟨lr3, r30, r31, fr3⟩ := bx2 (R2.toExt hx3); obtain ⟨lx3, x30, x31, fx3⟩ := bx2 (X2.toExt hx3); obtain ⟨lq3, q30, q31, q32, fq3⟩ := box3 (Q2.toExt hx3))
      refine bodyPost_ret (v := .tuple #[.agg #[.int .i64 0, .slice none 0 0], .bool false]) (by simp [results, Try.results37, go_sem, *]) rfl (relOut_none HZ.out rfl (by refine x'z ?_; repeat (with_reducible (first | exact x'a _ _ | exact x'b _ | exact x'c (by assumption) | refine x'd ?_ (by assumption) | refine x'e ?_ _ | refine x'f ?_ _ | refine x'g ?_ | refine x'h ?_ ?_ _ | refine x'i ?_ _ | refine x'j ?_ | refine x'k ?_ _ | refine x'l ?_ _ _ | refine x'm ?_ | assumption | (refine x'n ?_; omega) | omega))))
    | some r =>
      simp only [Option.getD_some] at X2 x20 x21 hrv hI1 ⊢
      obtain ⟨b1, b2⟩ := HBL.out r rfl
      have hra := HBA.out r rfl
      have hn5 := (HQ.out rfl).n5
      have HZ := Lib.hid (evalR_some HO.out)
      obtain ⟨p, hp⟩ : ∃ p, projR r q.2.2 = p := ⟨_, rfl⟩
      rw [hp] at HZ
      have HP := Lib.hid (show projR (r.1, r.2) q.2.2 = p from hp)
      have hrl : r.2.length ≤ 1000000000 := by omega
      have HRE := Lib.hid (fun x (hx : x ∈ r.2) => show x.length ≤ 1000000000 by have := b2 x hx; omega)
      have hrb : -1000000000 ≤ r.1 ∧ r.1 ≤ 1000000000 := by omega
      have hne : (r.1 != q.1) = false := by simp [hra]
      clear hp b1 b2 hra
      go_upto_region 4 with (go_at_call 75; refine (specIsQueryFor_any HD.out (h1.toExt xw2) HB.out (VD.toExt HV.out xw2)).mono ?_; rintro e w3 ⟨rfl, hx3⟩; rw [HT1.out]; obtain ⟨lx3, x30, x31, fx3⟩ := bx2 (X2.toExt hx3); obtain ⟨lq3, q30, q31, q32, fq3⟩ := box3 (Q2.toExt hx3))
      have R3 := R2.toExt hx3
      have hrv3 := hrv.toExt hx3
      have hgo3 := hgo2.toExt hx3
      have xw3 := trans_ext xW2 hx3
      have hz3 := size_of_ext xw3
      clear lx2 x20 x21 fx2 lp2 p20 fp2 lr2 r20 r21 fr2 lq2 q20 q21 q22 fq2
      go_upto_region 5 with (go_at_call 47; refine (specProject_any hrb hrl HRE.out (hrv3.toExt (by refine x'z ?_; repeat (with_reducible (first | exact x'a _ _ | exact x'b _ | exact x'c (by assumption) | refine x'd ?_ (by assumption) | refine x'e ?_ _ | refine x'f ?_ _ | refine x'g ?_ | refine x'h ?_ ?_ _ | refine x'i ?_ _ | refine x'j ?_ | refine x'k ?_ _ | refine x'l ?_ _ _ | refine x'm ?_ | assumption | (refine x'n ?_; omega) | omega)))) hgl (hgo3.toExt (by refine x'z ?_; repeat (with_reducible (first | exact x'a _ _ | exact x'b _ | exact x'c (by assumption) | refine x'd ?_ (by assumption) | refine x'e ?_ _ | refine x'f ?_ _ | refine x'g ?_ | refine x'h ?_ ?_ _ | refine x'i ?_ _ | refine x'j ?_ | refine x'k ?_ _ | refine x'l ?_ _ _ | refine x'm ?_ | assumption | (refine x'n ?_; omega) | omega))))).mono ?_; rw [HP.out]; rintro e w8 ⟨u0, u1, F8, rfl, hx8, hS8, hN8, hF8⟩; obtain ⟨A8, c8, rfl, rfl, hI8⟩ := sRel_form hS8)
      refine wp_name ?_
      intro w4 hw4
      have x84 : ∃ y, w4 = ext w8 y := by rw [hw4.out]; exact (by refine x'z ?_; repeat (with_reducible (first | exact x'a _ _ | exact x'b _ | exact x'c (by assumption) | refine x'd ?_ (by assumption) | refine x'e ?_ _ | refine x'f ?_ _ | refine x'g ?_ | refine x'h ?_ ?_ _ | refine x'i ?_ _ | refine x'j ?_ | refine x'k ?_ _ | refine x'l ?_ _ _ | refine x'm ?_ | assumption | (refine x'n ?_; omega) | omega)))
      have BY : BoxAt w4 w8.heap.size #[.int .i64 (p.getD (0, [])).1, .slice A8 (p.getD (0, [])).2.length c8] := by rw [hw4.out]; exact (by repeat (with_reducible (first | assumption | exact BoxAt.new _ _ _ | apply BoxAt.set2 | refine BoxAt.set2' ?_ (by omega) | apply BoxAt.setP0 | apply BoxAt.setP1 | refine BoxAt.setO ?_ (by omega) | refine BoxAt.alloc ?_ _ | refine BoxAt.drew ?_ | refine BoxAt.toExt ?_ (by assumption))))
      obtain ⟨bY, qY⟩ : ∃ b, w8.heap.size = b := ⟨_, rfl⟩
      rw [qY] at BY ⊢
      have hz8 := size_of_ext hx8
      have hI8 : sII w4 _ _ _ := OD.toExt hI8 x84
      obtain ⟨lr4, r40, r41, fr4⟩ := bx2 (R3.toExt (trans_ext hx8 x84))
      obtain ⟨ly4, y40, y41, fy4⟩ := bx2 BY
      clear lx3 x30 x31 fx3 lq3 q30 q31 q32 fq3 hw4 qY
      go_wp2_with fail
      refine bodyPost_ret (v := .tuple #[.agg #[.int .i64 (p.getD (0, [])).1, .slice A8 (p.getD (0, [])).2.length c8], .bool p.isSome]) (by simp [results, Try.results37, go_sem, *]) rfl ⟨_, _, F8, by rw [HZ.out], (by refine x'z ?_; repeat (with_reducible (first | exact x'a _ _ | exact x'b _ | exact x'c (by assumption) | refine x'd ?_ (by assumption) | refine x'e ?_ _ | refine x'f ?_ _ | refine x'g ?_ | refine x'h ?_ ?_ _ | refine x'i ?_ _ | refine x'j ?_ | refine x'k ?_ _ | refine x'l ?_ _ _ | refine x'm ?_ | assumption | (refine x'n ?_; omega) | omega))), ?_, hN8, fun b hb => ?_⟩
      · rw [HZ.out]
        refine sRel_mk (z := (p.getD (0, [])).1) (rows := (p.getD (0, [])).2) ?_
        refine OD.chg (E := sII) (G := [w.heap.size + 1 + 1]) hI8 (by repeat (with_reducible (first | exact Chg.refl _ _ | refine Chg.trans0 ?_ (by assumption) | refine Chg.extS ?_ _ | refine Chg.alloc ?_ _ | refine Chg.drew ?_ | refine Chg.setCell ?_ (.inl (by simp)) _))) ?_
        intro b hb h
        have := hF8 b hb
        rw [List.mem_singleton.1 h] at this
        omega
      · have := hF8 b hb
        omega
end Go.Proofs.Ytfigcfajkilhiaa
