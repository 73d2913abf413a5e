/- Contracts of functions that the statements reach, joined from several texts: DbOk, RowsT, AppL, AppV, Common, Asc, JoinPl, Row1, Row2, Unite. -/
import Derived.Test.YtfigcfajkilhiaaM02
import Derived.Test.YtfigcfajkilhiaaRows
import Derived.Test.YtfigcfajkilhiaaM01
/- When a database is valid: the program's way and the reference's. -/
namespace Go.Proofs.Ytfigcfajkilhiaa
open Go.RowKit

/-- bounds as what only reads asks for them -/
structure WDb (d : Dbd) : Prop where
  n : d.length ≤ 1000000000
  nm : ∀ x ∈ d, x.1.size ≤ 1000000000
  rn : ∀ x ∈ d, x.2.2.length ≤ 1000000000
  rl : ∀ x ∈ d, ∀ r ∈ x.2.2, r.length ≤ 1000000000
theorem BDb.w {d : Dbd} (h : BDb d) : WDb d :=
  ⟨Nat.le_trans h.1.1 (by omega), fun x hx => Nat.le_trans (h.each x hx).1 (by omega), fun x hx => Nat.le_trans (h.each x hx).2.2.1 (by omega), fun x hx => (h.each x hx).2.2.big⟩
theorem db_f {d : Dbd} (h : allN (tOk d) d.length 0 = false) : dbB d = false := by unfold dbB; rw [h, Bool.and_false]
theorem tOk_eq {d : Dbd} {k : Nat} (h : k < d.length) : tOk d k = (nameB d[k].1 && (decide (k = 0) || sLt (d.getD (k - 1) zT).1 d[k].1) && rowsB d[k].2.1 d[k].2.2 && decide (1 ≤ d[k].2.1) && decide (d[k].2.2.length ≤ 16)) := by
  unfold tOk
  rw [getDl _ _ h]
set_option maxRecDepth 100000 in
set_option maxHeartbeats 16000000 in
theorem IsValidDatabase_w {A : Option Addr} {c : Nat} {d : Dbd} {w : World} (hd : WDb d) (h1 : RV 3 vTb w A d) :
    Calls Try.prog 63 #[.agg #[.slice A d.length c]] w fun e w' => e = .returned (.bool (dbB d)) ∧ ∃ y, w' = ext w y := by
  have HD := Lib.hid hd
  have hn := hd.n
  clear hd
  go_enter Try.func63, Try.ntmps63
  go_upto_region 1 with fail
  refine wp_name ?_
  intro W hW
  have xW : ∃ y, W = ext w y := by rw [hW.out]; exact (by refine Chg.isExt (F := []) ?_ (refl_ext _) (by simp); repeat (with_reducible (first | exact Chg.refl _ _ | exact Nat.le_refl _ | exact Chg.ofExt (by assumption) | refine Chg.trans0 ?_ (by assumption) | refine Chg.extS ?_ _ | refine Chg.alloc ?_ _ | refine Chg.drew ?_ | refine Chg.setCellE ?_ ?_ _ | refine le_addk ?_ _ | refine le_ext ?_ | refine le_alloc ?_ _ | refine le_setC ?_ _ _ | refine le_drew ?_ | assumption | (refine Nat.le_of_lt ?_; omega) | omega)))
  have PW : BoxAt W w.heap.size #[.slice A d.length c] := by rw [hW.out]; exact (by repeat (with_reducible (first | assumption | exact BoxAt.new _ _ _ | apply BoxAt.set10 | apply BoxAt.set2 | refine BoxAt.set2' ?_ (by omega) | apply BoxAt.setP0 | apply BoxAt.setP1 | refine BoxAt.setO ?_ (by omega) | refine BoxAt.alloc ?_ _ | refine BoxAt.drew ?_ | refine BoxAt.toExt ?_ (by assumption))))
  obtain ⟨lp, p0, fp⟩ := bx1 PW
  clear hW
  by_cases h6 : d.length ≤ 6
  · have HE2 := Lib.hid (show dbB d = allN (tOk d) d.length 0 by unfold dbB; rw [decide_eq_true h6, Bool.true_and])
    have h7 : ¬ 6 < d.length := by omega
    go_wp2_with fail
    clear lp p0 fp
    go_loopw [12] (fun i wr => ∃ k : Nat, i = .int .i64 k ∧ k ≤ d.length ∧ (∃ y, wr = ext W y) ∧ Hid (allN (tOk d) (d.length - k) k = allN (tOk d) d.length 0)) (fun i _ => d.length - (intOf i).toNat)
    case atStart => exact ⟨0, rfl, by omega, refl_ext W, Lib.hid rfl⟩
    case round =>
      obtain ⟨k, rfl, hk, hy, Hj⟩ := hrel
      have hyw := trans_ext xW hy
      obtain ⟨l1, a1, f1⟩ := bx1 (PW.toExt hy)
      by_cases hlt : k < d.length
      · obtain ⟨b, o, A1, c1, rfl, hb, hc, hc1, hc2, hvx⟩ := (h1.toExt hyw).atT hlt
        have lx1 := HD.out.nm _ (List.getElem_mem hlt)
        have lx2 := HD.out.rn _ (List.getElem_mem hlt)
        have HXL := Lib.hid (HD.out.rl _ (List.getElem_mem hlt))
        have e := Hj.out
        rw [allN_step hlt, tOk_eq hlt] at e
        have hvr0 := (vII_get (vRel_get hvx).2).2
        obtain ⟨x, hx⟩ : ∃ x, d[k] = x := ⟨_, rfl⟩
        rw [hx] at e hc hc1 hc2 lx1 lx2 HXL hvr0
        obtain ⟨t3, ht3⟩ : ∃ t, nameB x.1 = t := ⟨_, rfl⟩
        obtain ⟨t4, ht4⟩ : ∃ t, rowsB x.2.1 x.2.2 = t := ⟨_, rfl⟩
        rw [ht3, ht4] at e
        have N3 := Lib.hid ht3
        have N4 := Lib.hid ht4
        have HPV : Hid (∀ _ : 0 < k, ∃ pn, (d.getD (k - 1) zT).1 = pn ∧ wr.cell? ⟨b, o + (k - 1) * 3, none⟩ = some (.string pn)) := Lib.hid (fun h0 => by
          obtain ⟨b', o', _, _, e1, _, h2, _⟩ := (h1.toExt hyw).atT (k := k - 1) (by omega)
          injection e1 with e1
          injection e1 with e1 e2 _
          subst e1 e2
          exact ⟨_, by rw [getDl _ _ (show k - 1 < d.length by omega)], h2⟩)
        clear hx hvx ht3 ht4
        go_upto_region 6 with fail
        refine wp_name ?_
        intro W2 hW2
        have xW2 : ∃ y, W2 = ext wr y := by rw [hW2.out]; exact (by refine Chg.isExt (F := []) ?_ (refl_ext _) (by simp); repeat (with_reducible (first | exact Chg.refl _ _ | exact Nat.le_refl _ | exact Chg.ofExt (by assumption) | refine Chg.trans0 ?_ (by assumption) | refine Chg.extS ?_ _ | refine Chg.alloc ?_ _ | refine Chg.drew ?_ | refine Chg.setCellE ?_ ?_ _ | refine le_addk ?_ _ | refine le_ext ?_ | refine le_alloc ?_ _ | refine le_setC ?_ _ _ | refine le_drew ?_ | assumption | (refine Nat.le_of_lt ?_; omega) | omega)))
        have T2 : BoxAt W2 wr.heap.size #[.string x.1, .int .i64 x.2.1, .slice A1 x.2.2.length c1] := by rw [hW2.out]; exact (by repeat (with_reducible (first | assumption | exact BoxAt.new _ _ _ | apply BoxAt.set3 | refine BoxAt.set3' ?_ (by omega) | apply BoxAt.set30 | apply BoxAt.set31 | apply BoxAt.set32 | apply BoxAt.set2 | refine BoxAt.set2' ?_ (by omega) | apply BoxAt.setP0 | apply BoxAt.setP1 | refine BoxAt.setO ?_ (by omega) | refine BoxAt.alloc ?_ _ | refine BoxAt.drew ?_ | refine BoxAt.toExt ?_ (by assumption))))
        have hy2 := trans_ext hy xW2
        have hw2 := trans_ext hyw xW2
        have hvr := hvr0.toExt xW2
        obtain ⟨l2, a2, a3, a4, f2⟩ := box3 T2
        obtain ⟨lp2, p2, fp2⟩ := bx1 (PW.toExt hy2)
        have hb2 := ltW xW2 hb
        clear hW2 hc hc1 hc2 l1 a1 f1
        cases t3 with
        | false =>
          have HF := Lib.hid (db_f (d := d) (by rw [← e]; simp))
          clear e
          refine wp_region_ext (by kernel_rfl) (by kernel_rfl) ?_
          repeat (go_big_quiet_step (first
            | (go_at_call 144; exact quietSb (IsValidName_any lx1) N3.out)
            | (go_at_call 122; exact quietEb (IsValidRelation_w lx2 HXL.out hvr.ext) N4.out)))
          refine wpQuiet_nil ?_
          rintro _ ⟨zz, rfl⟩
          go_wp2
          go_ret
          exact ⟨by rw [HF.out]; rfl, trans_ext hw2 ⟨_, rfl⟩⟩
        | true =>
          by_cases hk0 : 0 < k
          · obtain ⟨pn, hpn, hcp⟩ := HPV.out hk0
            have hcp2 := cellW xW2 hb hcp
            rw [hpn, decide_eq_false (show ¬ k = 0 by omega)] at e
            unfold sLt at e
            have k1 : (0 : Int) < (k : Int) := by omega
            have s0 : (0 : Int) ≤ (k : Int) - 1 := by omega
            have s1 : IntKind.i64.wrap ((k : Int) - 1) = (k : Int) - 1 := IntWalk.i64_in _ (by omega)
            have s2 : ((k : Int) - 1).toNat = k - 1 := by omega
            have s3 : (k : Int) - 1 < (d.length : Int) := by omega
            obtain ⟨t5, ht5⟩ : ∃ t, Op.bytesLess pn.toList x.1.toList = t := ⟨_, rfl⟩
            rw [ht5] at e
            clear hpn hcp
            cases t5 with
            | false =>
              have HF := Lib.hid (db_f (d := d) (by rw [← e]; simp))
              clear e
              refine wp_region_ext (by kernel_rfl) (by kernel_rfl) ?_
              repeat (go_big_quiet_step (first
                | (go_at_call 144; exact quietSb (IsValidName_any lx1) N3.out)
                | (go_at_call 122; exact quietEb (IsValidRelation_w lx2 HXL.out hvr.ext) N4.out)))
              refine wpQuiet_nil ?_
              rintro _ ⟨zz, rfl⟩
              go_wp2
              go_ret
              exact ⟨by rw [HF.out]; rfl, trans_ext hw2 ⟨_, rfl⟩⟩
            | true =>
              cases t4 with
              | false =>
                have HF := Lib.hid (db_f (d := d) (by rw [← e]; simp))
                clear e
                refine wp_region_ext (by kernel_rfl) (by kernel_rfl) ?_
                repeat (go_big_quiet_step (first
                  | (go_at_call 144; exact quietSb (IsValidName_any lx1) N3.out)
                  | (go_at_call 122; exact quietEb (IsValidRelation_w lx2 HXL.out hvr.ext) N4.out)))
                refine wpQuiet_nil ?_
                rintro _ ⟨zz, rfl⟩
                go_wp2
                go_ret
                exact ⟨by rw [HF.out]; rfl, trans_ext hw2 ⟨_, rfl⟩⟩
              | true =>
                by_cases ha : 1 ≤ x.2.1
                · rw [decide_eq_true ha] at e
                  have ha2 : ¬ x.2.1 < 1 := by omega
                  by_cases h16 : x.2.2.length ≤ 16
                  · rw [decide_eq_true h16] at e
                    have h17 : ¬ (16 : Int) < (x.2.2.length : Int) := by omega
                    have HK := Lib.hid (show allN (tOk d) (d.length - (k + 1)) (k + 1) = allN (tOk d) d.length 0 by rw [← e]; simp)
                    clear e
                    refine wp_region_ext (by kernel_rfl) (by kernel_rfl) ?_
                    repeat (go_big_quiet_step (first
                      | (go_at_call 144; exact quietSb (IsValidName_any lx1) N3.out)
                      | (go_at_call 122; exact quietEb (IsValidRelation_w lx2 HXL.out hvr.ext) N4.out)))
                    refine wpQuiet_nil ?_
                    rintro _ ⟨zz, rfl⟩
                    go_wp2
                    exact ⟨⟨k + 1, by go_num, by omega, trans_ext hy2 ⟨_, rfl⟩, HK⟩, by simp [intOf]; omega⟩
                  · rw [decide_eq_false h16] at e
                    have h17 : (16 : Int) < (x.2.2.length : Int) := by omega
                    have HF := Lib.hid (db_f (d := d) (by rw [← e]; simp))
                    clear e
                    refine wp_region_ext (by kernel_rfl) (by kernel_rfl) ?_
                    repeat (go_big_quiet_step (first
                      | (go_at_call 144; exact quietSb (IsValidName_any lx1) N3.out)
                      | (go_at_call 122; exact quietEb (IsValidRelation_w lx2 HXL.out hvr.ext) N4.out)))
                    refine wpQuiet_nil ?_
                    rintro _ ⟨zz, rfl⟩
                    go_wp2
                    go_ret
                    exact ⟨by rw [HF.out]; rfl, trans_ext hw2 ⟨_, rfl⟩⟩
                · rw [decide_eq_false ha] at e
                  have ha2 : x.2.1 < 1 := by omega
                  by_cases h16 : x.2.2.length ≤ 16
                  · have h17 : ¬ (16 : Int) < (x.2.2.length : Int) := by omega
                    have HF := Lib.hid (db_f (d := d) (by rw [← e]; simp))
                    clear e
                    refine wp_region_ext (by kernel_rfl) (by kernel_rfl) ?_
                    repeat (go_big_quiet_step (first
                      | (go_at_call 144; exact quietSb (IsValidName_any lx1) N3.out)
                      | (go_at_call 122; exact quietEb (IsValidRelation_w lx2 HXL.out hvr.ext) N4.out)))
                    refine wpQuiet_nil ?_
                    rintro _ ⟨zz, rfl⟩
                    go_wp2
                    go_ret
                    exact ⟨by rw [HF.out]; rfl, trans_ext hw2 ⟨_, rfl⟩⟩
                  · have h17 : (16 : Int) < (x.2.2.length : Int) := by omega
                    have HF := Lib.hid (db_f (d := d) (by rw [← e]; simp))
                    clear e
                    refine wp_region_ext (by kernel_rfl) (by kernel_rfl) ?_
                    repeat (go_big_quiet_step (first
                      | (go_at_call 144; exact quietSb (IsValidName_any lx1) N3.out)
                      | (go_at_call 122; exact quietEb (IsValidRelation_w lx2 HXL.out hvr.ext) N4.out)))
                    refine wpQuiet_nil ?_
                    rintro _ ⟨zz, rfl⟩
                    go_wp2
                    go_ret
                    exact ⟨by rw [HF.out]; rfl, trans_ext hw2 ⟨_, rfl⟩⟩
          · have k1 : ¬ (0 : Int) < (k : Int) := by omega
            rw [decide_eq_true (show k = 0 by omega)] at e
            cases t4 with
            | false =>
              have HF := Lib.hid (db_f (d := d) (by rw [← e]; simp))
              clear e
              refine wp_region_ext (by kernel_rfl) (by kernel_rfl) ?_
              repeat (go_big_quiet_step (first
                | (go_at_call 144; exact quietSb (IsValidName_any lx1) N3.out)
                | (go_at_call 122; exact quietEb (IsValidRelation_w lx2 HXL.out hvr.ext) N4.out)))
              refine wpQuiet_nil ?_
              rintro _ ⟨zz, rfl⟩
              go_wp2
              go_ret
              exact ⟨by rw [HF.out]; rfl, trans_ext hw2 ⟨_, rfl⟩⟩
            | true =>
              by_cases ha : 1 ≤ x.2.1
              · rw [decide_eq_true ha] at e
                have ha2 : ¬ x.2.1 < 1 := by omega
                by_cases h16 : x.2.2.length ≤ 16
                · rw [decide_eq_true h16] at e
                  have h17 : ¬ (16 : Int) < (x.2.2.length : Int) := by omega
                  have HK := Lib.hid (show allN (tOk d) (d.length - (k + 1)) (k + 1) = allN (tOk d) d.length 0 by rw [← e]; simp)
                  clear e
                  refine wp_region_ext (by kernel_rfl) (by kernel_rfl) ?_
                  repeat (go_big_quiet_step (first
                    | (go_at_call 144; exact quietSb (IsValidName_any lx1) N3.out)
                    | (go_at_call 122; exact quietEb (IsValidRelation_w lx2 HXL.out hvr.ext) N4.out)))
                  refine wpQuiet_nil ?_
                  rintro _ ⟨zz, rfl⟩
                  go_wp2
                  exact ⟨⟨k + 1, by go_num, by omega, trans_ext hy2 ⟨_, rfl⟩, HK⟩, by simp [intOf]; omega⟩
                · rw [decide_eq_false h16] at e
                  have h17 : (16 : Int) < (x.2.2.length : Int) := by omega
                  have HF := Lib.hid (db_f (d := d) (by rw [← e]; simp))
                  clear e
                  refine wp_region_ext (by kernel_rfl) (by kernel_rfl) ?_
                  repeat (go_big_quiet_step (first
                    | (go_at_call 144; exact quietSb (IsValidName_any lx1) N3.out)
                    | (go_at_call 122; exact quietEb (IsValidRelation_w lx2 HXL.out hvr.ext) N4.out)))
                  refine wpQuiet_nil ?_
                  rintro _ ⟨zz, rfl⟩
                  go_wp2
                  go_ret
                  exact ⟨by rw [HF.out]; rfl, trans_ext hw2 ⟨_, rfl⟩⟩
              · rw [decide_eq_false ha] at e
                have ha2 : x.2.1 < 1 := by omega
                by_cases h16 : x.2.2.length ≤ 16
                · have h17 : ¬ (16 : Int) < (x.2.2.length : Int) := by omega
                  have HF := Lib.hid (db_f (d := d) (by rw [← e]; simp))
                  clear e
                  refine wp_region_ext (by kernel_rfl) (by kernel_rfl) ?_
                  repeat (go_big_quiet_step (first
                    | (go_at_call 144; exact quietSb (IsValidName_any lx1) N3.out)
                    | (go_at_call 122; exact quietEb (IsValidRelation_w lx2 HXL.out hvr.ext) N4.out)))
                  refine wpQuiet_nil ?_
                  rintro _ ⟨zz, rfl⟩
                  go_wp2
                  go_ret
                  exact ⟨by rw [HF.out]; rfl, trans_ext hw2 ⟨_, rfl⟩⟩
                · have h17 : (16 : Int) < (x.2.2.length : Int) := by omega
                  have HF := Lib.hid (db_f (d := d) (by rw [← e]; simp))
                  clear e
                  refine wp_region_ext (by kernel_rfl) (by kernel_rfl) ?_
                  repeat (go_big_quiet_step (first
                    | (go_at_call 144; exact quietSb (IsValidName_any lx1) N3.out)
                    | (go_at_call 122; exact quietEb (IsValidRelation_w lx2 HXL.out hvr.ext) N4.out)))
                  refine wpQuiet_nil ?_
                  rintro _ ⟨zz, rfl⟩
                  go_wp2
                  go_ret
                  exact ⟨by rw [HF.out]; rfl, trans_ext hw2 ⟨_, rfl⟩⟩
      · have e := Hj.out
        rw [allN_end hlt] at e
        have HK := Lib.hid (show dbB d = true by rw [HE2.out, ← e])
        clear e Hj
        go_wp2
        go_ret
        exact ⟨by rw [HK.out]; rfl, hyw⟩
  · have HE2 := Lib.hid (show dbB d = false by unfold dbB; rw [decide_eq_false h6, Bool.false_and])
    have h7 : 6 < d.length := by omega
    go_wp2_with fail
    go_ret
    exact ⟨by rw [HE2.out]; rfl, xW⟩
set_option maxRecDepth 100000 in
set_option maxHeartbeats 16000000 in
theorem specIsValidDatabase_w {A : Option Addr} {c : Nat} {d : Dbd} {w : World} (hd : WDb d) (h1 : RV 3 vTb w A d) :
    Calls Try.prog 60 #[.agg #[.slice A d.length c]] w fun e w' => e = .returned (.bool (dbB d)) ∧ ∃ y, w' = ext w y := by
  have HD := Lib.hid hd
  have hn := hd.n
  clear hd
  go_enter Try.func60, Try.ntmps60
  go_upto_region 1 with fail
  refine wp_name ?_
  intro W hW
  have xW : ∃ y, W = ext w y := by rw [hW.out]; exact (by refine Chg.isExt (F := []) ?_ (refl_ext _) (by simp); repeat (with_reducible (first | exact Chg.refl _ _ | exact Nat.le_refl _ | exact Chg.ofExt (by assumption) | refine Chg.trans0 ?_ (by assumption) | refine Chg.extS ?_ _ | refine Chg.alloc ?_ _ | refine Chg.drew ?_ | refine Chg.setCellE ?_ ?_ _ | refine le_addk ?_ _ | refine le_ext ?_ | refine le_alloc ?_ _ | refine le_setC ?_ _ _ | refine le_drew ?_ | assumption | (refine Nat.le_of_lt ?_; omega) | omega)))
  have PW : BoxAt W w.heap.size #[.slice A d.length c] := by rw [hW.out]; exact (by repeat (with_reducible (first | assumption | exact BoxAt.new _ _ _ | apply BoxAt.set10 | apply BoxAt.set2 | refine BoxAt.set2' ?_ (by omega) | apply BoxAt.setP0 | apply BoxAt.setP1 | refine BoxAt.setO ?_ (by omega) | refine BoxAt.alloc ?_ _ | refine BoxAt.drew ?_ | refine BoxAt.toExt ?_ (by assumption))))
  clear hW
  go_wp2_with fail
  go_loopw [3] (fun i wr => ∃ k : Nat, i = .int .i64 k ∧ k ≤ d.length ∧ (∃ y, wr = ext W y) ∧ Hid (allN (tOk d) (d.length - k) k = allN (tOk d) d.length 0)) (fun i _ => d.length - (intOf i).toNat)
  case atStart => exact ⟨0, rfl, by omega, refl_ext W, Lib.hid rfl⟩
  case round =>
    obtain ⟨k, rfl, hk, hy, Hj⟩ := hrel
    have hyw := trans_ext xW hy
    obtain ⟨l1, a1, f1⟩ := bx1 (PW.toExt hy)
    by_cases hlt : k < d.length
    · obtain ⟨b, o, A1, c1, rfl, hb, hc, hc1, hc2, hvx⟩ := (h1.toExt hyw).atT hlt
      have lx1 := HD.out.nm _ (List.getElem_mem hlt)
      have lx2 := HD.out.rn _ (List.getElem_mem hlt)
      have HXL := Lib.hid (HD.out.rl _ (List.getElem_mem hlt))
      have e := Hj.out
      rw [allN_step hlt, tOk_eq hlt] at e
      have hvr0 := (vII_get (vRel_get hvx).2).2
      obtain ⟨x, hx⟩ : ∃ x, d[k] = x := ⟨_, rfl⟩
      rw [hx] at e hc hc1 hc2 lx1 lx2 HXL hvr0
      obtain ⟨t3, ht3⟩ : ∃ t, nameB x.1 = t := ⟨_, rfl⟩
      obtain ⟨t4, ht4⟩ : ∃ t, rowsB x.2.1 x.2.2 = t := ⟨_, rfl⟩
      rw [ht3, ht4] at e
      have N3 := Lib.hid ht3
      have N4 := Lib.hid ht4
      have HPV : Hid (∀ _ : 0 < k, ∃ pn, (d.getD (k - 1) zT).1 = pn ∧ wr.cell? ⟨b, o + (k - 1) * 3, none⟩ = some (.string pn)) := Lib.hid (fun h0 => by
        obtain ⟨b', o', _, _, e1, _, h2, _⟩ := (h1.toExt hyw).atT (k := k - 1) (by omega)
        injection e1 with e1
        injection e1 with e1 e2 _
        subst e1 e2
        exact ⟨_, by rw [getDl _ _ (show k - 1 < d.length by omega)], h2⟩)
      clear hx hvx ht3 ht4
      go_upto_region 5 with fail
      refine wp_name ?_
      intro W2 hW2
      have xW2 : ∃ y, W2 = ext wr y := by rw [hW2.out]; exact (by refine Chg.isExt (F := []) ?_ (refl_ext _) (by simp); repeat (with_reducible (first | exact Chg.refl _ _ | exact Nat.le_refl _ | exact Chg.ofExt (by assumption) | refine Chg.trans0 ?_ (by assumption) | refine Chg.extS ?_ _ | refine Chg.alloc ?_ _ | refine Chg.drew ?_ | refine Chg.setCellE ?_ ?_ _ | refine le_addk ?_ _ | refine le_ext ?_ | refine le_alloc ?_ _ | refine le_setC ?_ _ _ | refine le_drew ?_ | assumption | (refine Nat.le_of_lt ?_; omega) | omega)))
      have T2 : BoxAt W2 wr.heap.size #[.string x.1, .int .i64 x.2.1, .slice A1 x.2.2.length c1] := by rw [hW2.out]; exact (by repeat (with_reducible (first | assumption | exact BoxAt.new _ _ _ | apply BoxAt.set3 | refine BoxAt.set3' ?_ (by omega) | apply BoxAt.set30 | apply BoxAt.set31 | apply BoxAt.set32 | apply BoxAt.set2 | refine BoxAt.set2' ?_ (by omega) | apply BoxAt.setP0 | apply BoxAt.setP1 | refine BoxAt.setO ?_ (by omega) | refine BoxAt.alloc ?_ _ | refine BoxAt.drew ?_ | refine BoxAt.toExt ?_ (by assumption))))
      have hy2 := trans_ext hy xW2
      have hw2 := trans_ext hyw xW2
      have hvr := hvr0.toExt xW2
      obtain ⟨l2, a2, a3, a4, f2⟩ := box3 T2
      obtain ⟨lp2, p2, fp2⟩ := bx1 (PW.toExt hy2)
      have hb2 := ltW xW2 hb
      clear hW2 hc hc1 hc2 l1 a1 f1
      cases t3 with
      | false =>
        have HF := Lib.hid (db_f (d := d) (by rw [← e]; simp))
        clear e
        refine wp_region_ext (by kernel_rfl) (by kernel_rfl) ?_
        repeat (go_big_quiet_step (first
          | (go_at_call 143; exact quietSb (specIsValidName_any lx1) N3.out)
          | (go_at_call 57; exact quietEb (specIsValidRelation_w lx2 HXL.out hvr.ext) N4.out)))
        refine wpQuiet_nil ?_
        rintro _ ⟨zz, rfl⟩
        go_wp2
        go_ret
        exact ⟨by rw [HF.out]; rfl, trans_ext hw2 ⟨_, rfl⟩⟩
      | true =>
        by_cases hk0 : 0 < k
        · obtain ⟨pn, hpn, hcp⟩ := HPV.out hk0
          have hcp2 := cellW xW2 hb hcp
          rw [hpn, decide_eq_false (show ¬ k = 0 by omega)] at e
          unfold sLt at e
          have k1 : (0 : Int) < (k : Int) := by omega
          have s0 : (0 : Int) ≤ (k : Int) - 1 := by omega
          have s1 : IntKind.i64.wrap ((k : Int) - 1) = (k : Int) - 1 := IntWalk.i64_in _ (by omega)
          have s2 : ((k : Int) - 1).toNat = k - 1 := by omega
          have s3 : (k : Int) - 1 < (d.length : Int) := by omega
          obtain ⟨t5, ht5⟩ : ∃ t, Op.bytesLess pn.toList x.1.toList = t := ⟨_, rfl⟩
          rw [ht5] at e
          clear hpn hcp
          cases t5 with
          | false =>
            have HF := Lib.hid (db_f (d := d) (by rw [← e]; simp))
            clear e
            refine wp_region_ext (by kernel_rfl) (by kernel_rfl) ?_
            repeat (go_big_quiet_step (first
              | (go_at_call 143; exact quietSb (specIsValidName_any lx1) N3.out)
              | (go_at_call 57; exact quietEb (specIsValidRelation_w lx2 HXL.out hvr.ext) N4.out)))
            refine wpQuiet_nil ?_
            rintro _ ⟨zz, rfl⟩
            go_wp2
            go_ret
            exact ⟨by rw [HF.out]; rfl, trans_ext hw2 ⟨_, rfl⟩⟩
          | true =>
            cases t4 with
            | false =>
              have HF := Lib.hid (db_f (d := d) (by rw [← e]; simp))
              clear e
              refine wp_region_ext (by kernel_rfl) (by kernel_rfl) ?_
              repeat (go_big_quiet_step (first
                | (go_at_call 143; exact quietSb (specIsValidName_any lx1) N3.out)
                | (go_at_call 57; exact quietEb (specIsValidRelation_w lx2 HXL.out hvr.ext) N4.out)))
              refine wpQuiet_nil ?_
              rintro _ ⟨zz, rfl⟩
              go_wp2
              go_ret
              exact ⟨by rw [HF.out]; rfl, trans_ext hw2 ⟨_, rfl⟩⟩
            | true =>
              by_cases ha : 1 ≤ x.2.1
              · rw [decide_eq_true ha] at e
                have ha2 : ¬ x.2.1 < 1 := by omega
                by_cases h16 : x.2.2.length ≤ 16
                · rw [decide_eq_true h16] at e
                  have h17 : ¬ (16 : Int) < (x.2.2.length : Int) := by omega
                  have HK := Lib.hid (show allN (tOk d) (d.length - (k + 1)) (k + 1) = allN (tOk d) d.length 0 by rw [← e]; simp)
                  clear e
                  refine wp_region_ext (by kernel_rfl) (by kernel_rfl) ?_
                  repeat (go_big_quiet_step (first
                    | (go_at_call 143; exact quietSb (specIsValidName_any lx1) N3.out)
                    | (go_at_call 57; exact quietEb (specIsValidRelation_w lx2 HXL.out hvr.ext) N4.out)))
                  refine wpQuiet_nil ?_
                  rintro _ ⟨zz, rfl⟩
                  go_wp2
                  exact ⟨⟨k + 1, by go_num, by omega, trans_ext hy2 ⟨_, rfl⟩, HK⟩, by simp [intOf]; omega⟩
                · rw [decide_eq_false h16] at e
                  have h17 : (16 : Int) < (x.2.2.length : Int) := by omega
                  have HF := Lib.hid (db_f (d := d) (by rw [← e]; simp))
                  clear e
                  refine wp_region_ext (by kernel_rfl) (by kernel_rfl) ?_
                  repeat (go_big_quiet_step (first
                    | (go_at_call 143; exact quietSb (specIsValidName_any lx1) N3.out)
                    | (go_at_call 57; exact quietEb (specIsValidRelation_w lx2 HXL.out hvr.ext) N4.out)))
                  refine wpQuiet_nil ?_
                  rintro _ ⟨zz, rfl⟩
                  go_wp2
                  go_ret
                  exact ⟨by rw [HF.out]; rfl, trans_ext hw2 ⟨_, rfl⟩⟩
              · rw [decide_eq_false ha] at e
                have ha2 : x.2.1 < 1 := by omega
                by_cases h16 : x.2.2.length ≤ 16
                · have h17 : ¬ (16 : Int) < (x.2.2.length : Int) := by omega
                  have HF := Lib.hid (db_f (d := d) (by rw [← e]; simp))
                  clear e
                  refine wp_region_ext (by kernel_rfl) (by kernel_rfl) ?_
                  repeat (go_big_quiet_step (first
                    | (go_at_call 143; exact quietSb (specIsValidName_any lx1) N3.out)
                    | (go_at_call 57; exact quietEb (specIsValidRelation_w lx2 HXL.out hvr.ext) N4.out)))
                  refine wpQuiet_nil ?_
                  rintro _ ⟨zz, rfl⟩
                  go_wp2
                  go_ret
                  exact ⟨by rw [HF.out]; rfl, trans_ext hw2 ⟨_, rfl⟩⟩
                · have h17 : (16 : Int) < (x.2.2.length : Int) := by omega
                  have HF := Lib.hid (db_f (d := d) (by rw [← e]; simp))
                  clear e
                  refine wp_region_ext (by kernel_rfl) (by kernel_rfl) ?_
                  repeat (go_big_quiet_step (first
                    | (go_at_call 143; exact quietSb (specIsValidName_any lx1) N3.out)
                    | (go_at_call 57; exact quietEb (specIsValidRelation_w lx2 HXL.out hvr.ext) N4.out)))
                  refine wpQuiet_nil ?_
                  rintro _ ⟨zz, rfl⟩
                  go_wp2
                  go_ret
                  exact ⟨by rw [HF.out]; rfl, trans_ext hw2 ⟨_, rfl⟩⟩
        · have k1 : ¬ (0 : Int) < (k : Int) := by omega
          rw [decide_eq_true (show k = 0 by omega)] at e
          cases t4 with
          | false =>
            have HF := Lib.hid (db_f (d := d) (by rw [← e]; simp))
            clear e
            refine wp_region_ext (by kernel_rfl) (by kernel_rfl) ?_
            repeat (go_big_quiet_step (first
              | (go_at_call 143; exact quietSb (specIsValidName_any lx1) N3.out)
              | (go_at_call 57; exact quietEb (specIsValidRelation_w lx2 HXL.out hvr.ext) N4.out)))
            refine wpQuiet_nil ?_
            rintro _ ⟨zz, rfl⟩
            go_wp2
            go_ret
            exact ⟨by rw [HF.out]; rfl, trans_ext hw2 ⟨_, rfl⟩⟩
          | true =>
            by_cases ha : 1 ≤ x.2.1
            · rw [decide_eq_true ha] at e
              have ha2 : ¬ x.2.1 < 1 := by omega
              by_cases h16 : x.2.2.length ≤ 16
              · rw [decide_eq_true h16] at e
                have h17 : ¬ (16 : Int) < (x.2.2.length : Int) := by omega
                have HK := Lib.hid (show allN (tOk d) (d.length - (k + 1)) (k + 1) = allN (tOk d) d.length 0 by rw [← e]; simp)
                clear e
                refine wp_region_ext (by kernel_rfl) (by kernel_rfl) ?_
                repeat (go_big_quiet_step (first
                  | (go_at_call 143; exact quietSb (specIsValidName_any lx1) N3.out)
                  | (go_at_call 57; exact quietEb (specIsValidRelation_w lx2 HXL.out hvr.ext) N4.out)))
                refine wpQuiet_nil ?_
                rintro _ ⟨zz, rfl⟩
                go_wp2
                exact ⟨⟨k + 1, by go_num, by omega, trans_ext hy2 ⟨_, rfl⟩, HK⟩, by simp [intOf]; omega⟩
              · rw [decide_eq_false h16] at e
                have h17 : (16 : Int) < (x.2.2.length : Int) := by omega
                have HF := Lib.hid (db_f (d := d) (by rw [← e]; simp))
                clear e
                refine wp_region_ext (by kernel_rfl) (by kernel_rfl) ?_
                repeat (go_big_quiet_step (first
                  | (go_at_call 143; exact quietSb (specIsValidName_any lx1) N3.out)
                  | (go_at_call 57; exact quietEb (specIsValidRelation_w lx2 HXL.out hvr.ext) N4.out)))
                refine wpQuiet_nil ?_
                rintro _ ⟨zz, rfl⟩
                go_wp2
                go_ret
                exact ⟨by rw [HF.out]; rfl, trans_ext hw2 ⟨_, rfl⟩⟩
            · rw [decide_eq_false ha] at e
              have ha2 : x.2.1 < 1 := by omega
              by_cases h16 : x.2.2.length ≤ 16
              · have h17 : ¬ (16 : Int) < (x.2.2.length : Int) := by omega
                have HF := Lib.hid (db_f (d := d) (by rw [← e]; simp))
                clear e
                refine wp_region_ext (by kernel_rfl) (by kernel_rfl) ?_
                repeat (go_big_quiet_step (first
                  | (go_at_call 143; exact quietSb (specIsValidName_any lx1) N3.out)
                  | (go_at_call 57; exact quietEb (specIsValidRelation_w lx2 HXL.out hvr.ext) N4.out)))
                refine wpQuiet_nil ?_
                rintro _ ⟨zz, rfl⟩
                go_wp2
                go_ret
                exact ⟨by rw [HF.out]; rfl, trans_ext hw2 ⟨_, rfl⟩⟩
              · have h17 : (16 : Int) < (x.2.2.length : Int) := by omega
                have HF := Lib.hid (db_f (d := d) (by rw [← e]; simp))
                clear e
                refine wp_region_ext (by kernel_rfl) (by kernel_rfl) ?_
                repeat (go_big_quiet_step (first
                  | (go_at_call 143; exact quietSb (specIsValidName_any lx1) N3.out)
                  | (go_at_call 57; exact quietEb (specIsValidRelation_w lx2 HXL.out hvr.ext) N4.out)))
                refine wpQuiet_nil ?_
                rintro _ ⟨zz, rfl⟩
                go_wp2
                go_ret
                exact ⟨by rw [HF.out]; rfl, trans_ext hw2 ⟨_, rfl⟩⟩
    · have e := Hj.out
      rw [allN_end hlt] at e
      by_cases h6 : d.length ≤ 6
      · have HK := Lib.hid (show dbB d = true by unfold dbB; rw [decide_eq_true h6, ← e]; rfl)
        clear e Hj
        go_wp2
        go_ret
        exact ⟨by rw [HK.out]; show Ending.returned (.bool (decide ((d.length : Int) ≤ 6))) = _; rw [decide_eq_true (by omega)], hyw⟩
      · have HK := Lib.hid (show dbB d = false by unfold dbB; rw [decide_eq_false h6, Bool.false_and])
        clear e Hj
        go_wp2
        go_ret
        exact ⟨by rw [HK.out]; show Ending.returned (.bool (decide ((d.length : Int) ≤ 6))) = _; rw [decide_eq_false (by omega)], hyw⟩
end Go.Proofs.Ytfigcfajkilhiaa

/- The type of lists of lists of numbers, as the model holds it. -/
namespace Go.Proofs.Ytfigcfajkilhiaa
theorem tIIr : SlT Try.prog 33 48 1 24 (.slice none 0 0) := ⟨Try.underlying33, by kernel_rfl, rfl, by omega⟩
end Go.Proofs.Ytfigcfajkilhiaa

/- Appending any slice that is only read onto a row that is owned, at a step of a region that draws its order. No program in it. -/
namespace Go.Proofs.Ytfigcfajkilhiaa
open Go.RowKit
section
variable {P : Program} {w : World}
theorem wp_appL {o : Oper} {a : Act} {K : Act → World → Prop} {Q : Exit → Act → World → Prop} (s x : Operand) (t : TypeId)
    (ho : o.op = .call { callee := .builtin .append, args := #[s, x], argTypes := #[t, t] })
    {α : Type} {E : SE α} [SMono E] [SPlain E] {V : VE α} {te size bytes : Nat} {z : Value} (hT : SlT P t te size bytes z) {v : Value} {ds es : List α} {F : List Nat} (hs : a.eval s = v) (hS : SV te size E w v ds F)
    {A : Option Addr} {c m : Nat} (hx : a.eval x = .slice A m c) (hm : m = es.length) (hc : A = none → c = 0) (hV : RV size V w A es) (hVE : ∀ c d, V w c d → E w c d []) (h1 : ∀ c d, V w c d → ∀ u ∈ c, u.oneCell' = true)
    (hlen : ds.length + m ≤ 2000000000) (hby : bytes ≤ 60000)
    (h : ∀ v' w' F', SV te size E w' v' (ds ++ es) F' → Chg F w w' → (∀ b ∈ F', b ∈ F ∨ w.heap.size ≤ b) → K (a.put o.dst v') w') : o.wp P a w K Q := by
  subst hm
  cases A with
  | none =>
    have e0 : es = [] := Classical.byContradiction fun hn => by
      obtain ⟨b, o, h, _⟩ := hV hn
      cases h
    subst e0
    obtain ⟨ht, hi, _, _⟩ := hT
    obtain ⟨i, hi, _, _, _⟩ := info_parts hi
    rw [hc rfl] at hx
    have hS' := hS
    obtain ⟨vs, F2, ho', _, _⟩ := hS'
    have hrun := run_append_owned_none (P := P) (w := w) 0 t o.type te i size ht hi v ds.length vs ho'
    unfold Oper.wp execOp
    simp only [ho, resolve, invoke, builtin, Sem.run_bind, Sem.run_pure, Result.andThen_ok, List.map_toArray, List.map_cons, List.map_nil, hs, hx, List.length_nil, hrun]
    exact h v w F (by simpa using hS) (Chg.refl F w) fun b hb => .inl hb
  | some ad =>
    have hN := hS.nodup
    have key : ∃ cs : List Value, (∀ j u, cs[j]? = some u → w.cell? (ad.add j) = some u) ∧ elems size E w cs es [] ∧ ∀ u ∈ cs, u.oneCell' = true := by
      by_cases hn : es = []
      · subst hn
        exact ⟨[], by simp, ⟨rfl, rfl⟩, by simp⟩
      · obtain ⟨b, o, e, _, h3⟩ := hV hn
        injection e with e
        subst e
        exact RV.cells hVE h1 es o h3
    obtain ⟨cs, k1, k2, k3⟩ := key
    refine wp_appS _ s x t ho hT hs hS hN hx k1 k3 rfl k2 (by simpa using hN) hlen hby ?_
    intro v' w' F' h2 h3 _ h5
    exact h v' w' F' h2 h3 fun b hb => by
      rcases h5 b hb with h | h | h
      · exact .inl h
      · simp at h
      · exact .inr h
theorem step_appL {ops : Array Oper} {o : Oper} {a : Act} {K : Act → World → Prop} {Q : Exit → Act → World → Prop} {X : Prop} (hgd : o.guard = none) (s x : Operand) (t : TypeId)
    (ho : o.op = .call { callee := .builtin .append, args := #[s, x], argTypes := #[t, t] })
    {α : Type} {E : SE α} [SMono E] [SPlain E] {V : VE α} {te size bytes : Nat} {z : Value} (hT : SlT P t te size bytes z) {v : Value} {ds es : List α} {F : List Nat} (hs : a.eval s = v) (hS : SV te size E w v ds F)
    {A : Option Addr} {c m : Nat} (hx : a.eval x = .slice A m c) (hm : m = es.length) (hc : A = none → c = 0) (hV : RV size V w A es) (hVE : ∀ c d, V w c d → E w c d []) (h1 : ∀ c d, V w c d → ∀ u ∈ c, u.oneCell' = true)
    (hlen : ds.length + m ≤ 2000000000) (hby : bytes ≤ 60000)
    (h : ∀ v' w' F', SV te size E w' v' (ds ++ es) F' → Chg F w w' → (∀ b ∈ F', b ∈ F ∨ w.heap.size ≤ b) → K (a.put o.dst v') w') :
    if Region.wanted o (yielded ops a.tmps) = true then Oper.wp P o a w K Q else X := by
  have hwt : Region.wanted o (yielded ops a.tmps) = true := by simp [Region.wanted, hgd]
  rw [if_pos hwt]
  exact wp_appL s x t ho hT hs hS hx hm hc hV hVE h1 hlen hby h
theorem vI_s {w : World} (c : List Value) (d : Int) (h : vI w c d) : sI w c d [] := ⟨h, rfl⟩
theorem vI_1 {w : World} (c : List Value) (d : Int) (h : vI w c d) : ∀ u ∈ c, u.oneCell' = true := by
  simp only [vI] at h
  subst h
  simp [Value.oneCell']
/-- the slice of one number just made reads so -/
theorem RI.one {w : World} {B : Nat} {n : Int} (h : BoxAt w B #[.int .i64 n]) : RI w (some ⟨B, 0, none⟩) [n] := fun _ => ⟨B, 0, rfl, h.1, fun j hj => by
  have : j = 0 := by simpa using hj
  subst this
  refine ⟨[.int .i64 n], rfl, fun i hi => ?_, rfl⟩
  have : i = 0 := by simpa using hi
  subst this
  have := h.2.1 0
  simpa using this⟩
end
end Go.Proofs.Ytfigcfajkilhiaa

/- Appending any slice that is only read, nil or not, whatever its capacity says. No program in it. -/
namespace Go.Proofs.Ytfigcfajkilhiaa
open Go.RowKit
section
variable {P : Program} {w : World}
theorem run_append_none_c (base : Nat) (t ty e : TypeId) (i : TypeInfo) (size c : Nat) (ht : P.underlying t = some (.slice e)) (hi : P.info? e = some i)
    (v : Value) (n : Nat) (xs : List Value) (hown : w.ownsRow base e size v n xs) : (Builtin.append_ #[t, t] ty #[v, .slice none 0 c]).run P w = .ok v w := by
  rcases hown.2 with ⟨rfl, rfl⟩ | ⟨g, cap, cur, rfl, _, _, hnc, _⟩
  · simp [Builtin.append_, run_underlying ht, sizeOf, typeInfo, hi, Builtin.lenOf, Builtin.firstCells]
  · simp [Builtin.append_, run_underlying ht, sizeOf, typeInfo, hi, Builtin.lenOf, Builtin.firstCells, hnc, storeCells]
theorem wp_appV {o : Oper} {a : Act} {K : Act → World → Prop} {Q : Exit → Act → World → Prop} (s x : Operand) (t : TypeId)
    (ho : o.op = .call { callee := .builtin .append, args := #[s, x], argTypes := #[t, t] })
    {α : Type} {E : SE α} [SMono E] [SPlain E] {V : VE α} {te size bytes : Nat} {z : Value} (hT : SlT P t te size bytes z) {v : Value} {ds es : List α} {F : List Nat} (hs : a.eval s = v) (hS : SV te size E w v ds F)
    {A : Option Addr} {c m : Nat} (hx : a.eval x = .slice A m c) (hm : m = es.length) (hV : RV size V w A es) (hVE : ∀ c d, V w c d → E w c d []) (h1 : ∀ c d, V w c d → ∀ u ∈ c, u.oneCell' = true)
    (hlen : ds.length + m ≤ 2000000000) (hby : bytes ≤ 60000)
    (h : ∀ v' w' F', SV te size E w' v' (ds ++ es) F' → Chg F w w' → (∀ b ∈ F', b ∈ F ∨ w.heap.size ≤ b) → K (a.put o.dst v') w') : o.wp P a w K Q := by
  cases A with
  | some ad => exact wp_appL s x t ho hT hs hS hx hm (fun h => by cases h) hV hVE h1 hlen hby h
  | none =>
    have e0 : es = [] := Classical.byContradiction fun hn => by
      obtain ⟨b, o, h, _⟩ := hV hn
      cases h
    subst e0
    subst hm
    obtain ⟨ht, hi, _, _⟩ := hT
    obtain ⟨i, hi, _, _, _⟩ := info_parts hi
    have hS' := hS
    obtain ⟨vs, F2, ho', _, _⟩ := hS'
    have hrun := run_append_none_c (P := P) (w := w) 0 t o.type te i size c ht hi v ds.length vs ho'
    unfold Oper.wp execOp
    simp only [ho, resolve, invoke, builtin, Sem.run_bind, Sem.run_pure, Result.andThen_ok, List.map_toArray, List.map_cons, List.map_nil, hs, hx, List.length_nil, hrun]
    exact h v w F (by simpa using hS) (Chg.refl F w) fun b hb => .inl hb
theorem step_appV {ops : Array Oper} {o : Oper} {a : Act} {K : Act → World → Prop} {Q : Exit → Act → World → Prop} {X : Prop} (hgd : o.guard = none) (s x : Operand) (t : TypeId)
    (ho : o.op = .call { callee := .builtin .append, args := #[s, x], argTypes := #[t, t] })
    {α : Type} {E : SE α} [SMono E] [SPlain E] {V : VE α} {te size bytes : Nat} {z : Value} (hT : SlT P t te size bytes z) {v : Value} {ds es : List α} {F : List Nat} (hs : a.eval s = v) (hS : SV te size E w v ds F)
    {A : Option Addr} {c m : Nat} (hx : a.eval x = .slice A m c) (hm : m = es.length) (hV : RV size V w A es) (hVE : ∀ c d, V w c d → E w c d []) (h1 : ∀ c d, V w c d → ∀ u ∈ c, u.oneCell' = true)
    (hlen : ds.length + m ≤ 2000000000) (hby : bytes ≤ 60000)
    (h : ∀ v' w' F', SV te size E w' v' (ds ++ es) F' → Chg F w w' → (∀ b ∈ F', b ∈ F ∨ w.heap.size ≤ b) → K (a.put o.dst v') w') :
    if Region.wanted o (yielded ops a.tmps) = true then Oper.wp P o a w K Q else X := by
  have hwt : Region.wanted o (yielded ops a.tmps) = true := by simp [Region.wanted, hgd]
  rw [if_pos hwt]
  exact wp_appV s x t ho hT hs hS hx hm hV hVE h1 hlen hby h
theorem wpList_appV {ops : Array Oper} {rest : List Oper} {o : Oper} {a : Act} {Q : Exit → Act → World → Prop} (hgd : o.guard = none) (s x : Operand) (t : TypeId)
    (ho : o.op = .call { callee := .builtin .append, args := #[s, x], argTypes := #[t, t] })
    {α : Type} {E : SE α} [SMono E] [SPlain E] {V : VE α} {te size bytes : Nat} {z : Value} (hT : SlT P t te size bytes z) {v : Value} {ds es : List α} {F : List Nat} (hs : a.eval s = v) (hS : SV te size E w v ds F)
    {A : Option Addr} {c m : Nat} (hx : a.eval x = .slice A m c) (hm : m = es.length) (hV : RV size V w A es) (hVE : ∀ c d, V w c d → E w c d []) (h1 : ∀ c d, V w c d → ∀ u ∈ c, u.oneCell' = true)
    (hlen : ds.length + m ≤ 2000000000) (hby : bytes ≤ 60000)
    (h : ∀ v' w' F', SV te size E w' v' (ds ++ es) F' → Chg F w w' → (∀ b ∈ F', b ∈ F ∨ w.heap.size ≤ b) → wpList P ops Q rest (a.put o.dst v') w') : wpList P ops Q (o :: rest) a w :=
  wpList_plain hgd fun _ hK => wp_appV s x t ho hT hs hS hx hm hV hVE h1 hlen hby fun v' w' F' h2 h3 h5 => hK _ _ (h v' w' F' h2 h3 h5)
end
/-- an element that is only seen in a world of old: it owns nothing -/
def sOld {α : Type} (V : VE α) (W : World) : SE α := fun _ c d F => V W c d ∧ F = []
instance {α : Type} (V : VE α) (W : World) : SMono (sOld V W) := ⟨fun h b hb => by rw [h.2] at hb; simp at hb, fun h _ => h⟩
instance {α : Type} (V : VE α) (W : World) : SPlain (sOld V W) := ⟨fun h => h.2⟩
theorem sOld_v {α : Type} {V : VE α} [VMono V] {W w : World} (hx : ∃ y, w = ext W y) (c : List Value) (d : α) (F : List Nat) (h : sOld V W w c d F) : V w c d := by
  obtain ⟨y, rfl⟩ := hx
  exact VMono.ext h.1
theorem copyInts_v {A : Option Addr} {c : Nat} {xs : List Int} {w : World} (hx : xs.length ≤ 1000000000) (h1 : RI w A xs) :
    Calls Try.prog 114 #[.slice A xs.length c] w fun e w' => ∃ v F, e = .returned v ∧ (∃ y, w' = ext w y) ∧ SV 3 1 sI w' v xs F ∧ ∀ b ∈ F, w.heap.size ≤ b := by
  have hS0 := SV.empty (α := Int) (te := 3) (size := 1) (E := sI) w
  go_enter Try.func114, Try.ntmps114
  go_wp2_with (at_builtin; refine wpList_appV (E := sI) (V := vI) (es := xs) rfl _ _ _ rfl tI rfl hS0 rfl rfl (h1.toExt (by refine Chg.isExt (F := []) ?_ (refl_ext _) (by simp); repeat (with_reducible (first | exact Chg.refl _ _ | exact Nat.le_refl _ | exact Chg.ofExt (by assumption) | refine Chg.trans0 ?_ (by assumption) | refine Chg.extS ?_ _ | refine Chg.alloc ?_ _ | refine Chg.drew ?_ | refine Chg.setCellE ?_ ?_ _ | refine le_addk ?_ _ | refine le_ext ?_ | refine le_alloc ?_ _ | refine le_setC ?_ _ _ | refine le_drew ?_ | assumption | (refine Nat.le_of_lt ?_; omega) | omega)))) vI_s vI_1 (by simp; omega) (by omega) ?_; intro v' w' F' hS hC hF)
  go_ret
  exact ⟨_, F', rfl, hC.isExt (by refine Chg.isExt (F := []) ?_ (refl_ext _) (by simp); repeat (with_reducible (first | exact Chg.refl _ _ | exact Nat.le_refl _ | exact Chg.ofExt (by assumption) | refine Chg.trans0 ?_ (by assumption) | refine Chg.extS ?_ _ | refine Chg.alloc ?_ _ | refine Chg.drew ?_ | refine Chg.setCellE ?_ ?_ _ | refine le_addk ?_ _ | refine le_ext ?_ | refine le_alloc ?_ _ | refine le_setC ?_ _ _ | refine le_drew ?_ | assumption | (refine Nat.le_of_lt ?_; omega) | omega))) (by simp), by simpa using hS, fun b hb => by
    rcases hF b hb with h | h
    · simp at h; omega
    · simp at h; omega⟩
end Go.Proofs.Ytfigcfajkilhiaa

/- The variables of two atoms; the program's way and the reference's. -/
namespace Go.Proofs.Ytfigcfajkilhiaa
open Go.RowKit

def comL (xs ys : List Int) : List Int := xs.filter fun x => decide (x ∈ ys)
theorem comL_take {xs ys : List Int} {k : Nat} (h : k < xs.length) : comL (xs.take (k + 1)) ys = comL (xs.take k) ys ++ (if decide (xs[k] ∈ ys) = true then [xs[k]] else []) := by
  unfold comL
  rw [List.take_succ_eq_append_getElem h, List.filter_append, List.filter_cons, List.filter_nil]
def cvars : Nat → Nat → List Int → List Int → List Int
  | 0, _, _, _ => []
  | f + 1, k, xs, ys => if decide ((k : Int) ∈ xs) = true ∧ decide ((k : Int) ∈ ys) = true then (k : Int) :: cvars f (k + 1) xs ys else cvars f (k + 1) xs ys
theorem mem_avars : ∀ (f k : Nat) (xs : List Int) (n : Int), n ∈ avars f k xs ↔ (k : Int) ≤ n ∧ n < k + f ∧ n ∈ xs
  | 0, k, xs, n => by simp [avars]; omega
  | f + 1, k, xs, n => by
    have ih := mem_avars f (k + 1) xs n
    unfold avars
    split
    · rename_i h
      rw [List.mem_cons, ih]
      constructor
      · rintro (rfl | ⟨h1, h2, h3⟩)
        · exact ⟨by omega, by omega, h⟩
        · exact ⟨by omega, by omega, h3⟩
      · rintro ⟨h1, h2, h3⟩
        by_cases e : n = k
        · exact .inl e
        · exact .inr ⟨by omega, by omega, h3⟩
    · rename_i h
      rw [ih]
      constructor
      · rintro ⟨h1, h2, h3⟩
        exact ⟨by omega, by omega, h3⟩
      · rintro ⟨h1, h2, h3⟩
        refine ⟨?_, by omega, h3⟩
        have : n ≠ k := by rintro rfl; exact h h3
        omega
theorem com_avars : ∀ (f k : Nat) (xs ys zs : List Int), (∀ n : Int, (k : Int) ≤ n → n < k + f → (n ∈ zs ↔ n ∈ ys)) → comL (avars f k xs) zs = cvars f k xs ys
  | 0, _, _, _, _, _ => rfl
  | f + 1, k, xs, ys, zs, h => by
    have ih := com_avars f (k + 1) xs ys zs fun n h1 h2 => h n (by omega) (by omega)
    have hk := h k (by omega) (by omega)
    unfold avars cvars
    by_cases h1 : (k : Int) ∈ xs
    · rw [if_pos h1]
      by_cases h2 : (k : Int) ∈ ys
      · rw [if_pos ⟨by simpa using h1, by simpa using h2⟩, ← ih]
        unfold comL
        rw [List.filter_cons, if_pos (by simpa using hk.2 h2)]
      · rw [if_neg (by simp [h2]), ← ih]
        unfold comL
        rw [List.filter_cons, if_neg (by simpa using fun h => h2 (hk.1 h))]
    · rw [if_neg h1, if_neg (by simp [h1]), ih]
theorem comV_eq (xs ys : List Int) : comL (avars 5 0 xs) (avars 5 0 ys) = cvars 5 0 xs ys := com_avars 5 0 xs ys _ fun n h1 h2 => by
  rw [mem_avars]
  constructor
  · exact fun h => h.2.2
  · exact fun h => ⟨h1, h2, h⟩
theorem cvars_length (xs ys : List Int) : (cvars 5 0 xs ys).length ≤ 5 := by
  rw [← comV_eq]
  exact Nat.le_trans (List.length_filter_le _ _) (avars_length 5 0 xs)
theorem cvars_step {k : Nat} {xs ys : List Int} (h : k < 5) : cvars (5 - k) k xs ys = if decide ((k : Int) ∈ xs) = true ∧ decide ((k : Int) ∈ ys) = true then (k : Int) :: cvars (5 - (k + 1)) (k + 1) xs ys else cvars (5 - (k + 1)) (k + 1) xs ys := by
  rw [show 5 - k = (5 - (k + 1)) + 1 by omega, cvars]
end Go.Proofs.Ytfigcfajkilhiaa

/- Ascending lists: one number put in, two united, numbers struck; the lists are told by their members. No program in it. -/
namespace Go.Proofs.Ytfigcfajkilhiaa
open Go.RowKit

/-- the place of n in an ascending list: the first that is not less -/
def insK (n : Int) : List Int → Nat
  | [] => 0
  | x :: xs => if x < n then insK n xs + 1 else 0
def insS (n : Int) (l : List Int) : List Int := if (l.drop (insK n l)).head? = some n then l else l.take (insK n l) ++ [n] ++ l.drop (insK n l)
def uniL (a b : List Int) : List Int := b.foldl (fun acc n => insS n acc) a
def strike (n : Int) (l : List Int) : List Int := l.filter fun x => decide (x ≠ n)
theorem insK_step {n : Int} {l : List Int} {k : Nat} (h : k < l.length) (hx : l[k] < n) : k + insK n (l.drop k) = k + 1 + insK n (l.drop (k + 1)) := by
  rw [List.drop_eq_getElem_cons h, insK, if_pos hx]
  omega
theorem insK_hit {n : Int} {l : List Int} {k : Nat} (h : k < l.length) (hx : ¬ l[k] < n) : k + insK n (l.drop k) = k := by
  rw [List.drop_eq_getElem_cons h, insK, if_neg hx]
  omega
theorem insK_end {n : Int} {l : List Int} {k : Nat} (h : ¬ k < l.length) : k + insK n (l.drop k) = k := by
  rw [List.drop_eq_nil_of_le (by omega), insK]
  omega
theorem uniL_step {a b : List Int} {k : Nat} (h : k < b.length) : uniL a (b.take (k + 1)) = insS b[k] (uniL a (b.take k)) := by
  unfold uniL
  rw [List.take_succ_eq_append_getElem h, List.foldl_append]
  rfl
def insR (n : Int) : List Int → List Int
  | [] => [n]
  | x :: xs => if x < n then x :: insR n xs else if x = n then x :: xs else n :: x :: xs
theorem insS_eq (n : Int) : ∀ l, insS n l = insR n l
  | [] => rfl
  | x :: xs => by
    have ih := insS_eq n xs
    unfold insS at ih
    unfold insS insK insR
    by_cases h : x < n
    · rw [if_pos h, if_pos h, List.drop_succ_cons, List.take_succ_cons, ← ih]
      split <;> simp
    · rw [if_neg h, if_neg h]
      by_cases h2 : x = n
      · simp [h2]
      · simp [h2]
theorem insS_length (n : Int) (l : List Int) : (insS n l).length ≤ l.length + 1 := by
  unfold insS
  split
  · omega
  · simp only [List.length_append, List.length_take, List.length_drop, List.length_cons, List.length_nil]; omega
theorem uniL_length : ∀ (b a : List Int), (uniL a b).length ≤ a.length + b.length
  | [], a => by simp [uniL]
  | x :: b, a => by
    have h1 := uniL_length b (insS x a)
    have h2 := insS_length x a
    have e : uniL a (x :: b) = uniL (insS x a) b := rfl
    rw [e, List.length_cons]
    omega
def Asc (l : List Int) : Prop := l.Pairwise (· < ·)
theorem mem_insR {n x : Int} : ∀ {l : List Int}, x ∈ insR n l ↔ x = n ∨ x ∈ l
  | [] => by simp [insR]
  | y :: ys => by
    unfold insR
    split
    · rw [List.mem_cons, mem_insR (l := ys), List.mem_cons]
      constructor
      · rintro (h | h | h)
        · exact .inr (.inl h)
        · exact .inl h
        · exact .inr (.inr h)
      · rintro (h | h | h)
        · exact .inr (.inl h)
        · exact .inl h
        · exact .inr (.inr h)
    · split
      · rename_i h; subst h
        simp
      · simp
theorem asc_insR {n : Int} : ∀ {l : List Int}, Asc l → Asc (insR n l)
  | [], _ => by simp [insR, Asc]
  | y :: ys, h => by
    have h' := List.pairwise_cons.1 h
    unfold insR
    split
    · rename_i hy
      refine List.pairwise_cons.2 ⟨fun z hz => ?_, asc_insR h'.2⟩
      rcases mem_insR.1 hz with e | e
      · omega
      · exact h'.1 z e
    · split
      · exact h
      · refine List.pairwise_cons.2 ⟨fun z hz => ?_, h⟩
        rcases List.mem_cons.1 hz with e | e
        · omega
        · have := h'.1 z e
          omega
theorem mem_insS {n x : Int} {l : List Int} : x ∈ insS n l ↔ x = n ∨ x ∈ l := by rw [insS_eq]; exact mem_insR
theorem asc_insS {n : Int} {l : List Int} (h : Asc l) : Asc (insS n l) := by rw [insS_eq]; exact asc_insR h
theorem mem_uniL {x : Int} : ∀ {b a : List Int}, x ∈ uniL a b ↔ x ∈ a ∨ x ∈ b
  | [], a => by simp [uniL]
  | y :: b, a => by
    have e : uniL a (y :: b) = uniL (insS y a) b := rfl
    rw [e, mem_uniL, mem_insS, List.mem_cons]
    constructor
    · rintro ((h | h) | h)
      · exact .inr (.inl h)
      · exact .inl h
      · exact .inr (.inr h)
    · rintro (h | h | h)
      · exact .inl (.inr h)
      · exact .inl (.inl h)
      · exact .inr h
theorem asc_uniL : ∀ {b a : List Int}, Asc a → Asc (uniL a b)
  | [], _, h => h
  | y :: b, a, h => by
    have e : uniL a (y :: b) = uniL (insS y a) b := rfl
    rw [e]
    exact asc_uniL (asc_insS h)
theorem asc_nil : Asc [] := List.Pairwise.nil
theorem asc_filter {l : List Int} (p : Int → Bool) (h : Asc l) : Asc (l.filter p) := List.Pairwise.filter p h
theorem asc_strike {n : Int} {l : List Int} (h : Asc l) : Asc (strike n l) := asc_filter _ h
theorem mem_strike {n x : Int} {l : List Int} : x ∈ strike n l ↔ x ∈ l ∧ x ≠ n := by unfold strike; simp
/-- two ascending lists with the same members are the same -/
theorem asc_ext : ∀ {a b : List Int}, Asc a → Asc b → (∀ x, x ∈ a ↔ x ∈ b) → a = b
  | [], [], _, _, _ => rfl
  | [], y :: b, _, _, h => by have := (h y).2 (by simp); simp at this
  | x :: a, [], _, _, h => by have := (h x).1 (by simp); simp at this
  | x :: a, y :: b, ha, hb, h => by
    have ha' := List.pairwise_cons.1 ha
    have hb' := List.pairwise_cons.1 hb
    have hxy : x = y := by
      have h1 := (h x).1 (by simp)
      have h2 := (h y).2 (by simp)
      rcases List.mem_cons.1 h1 with e | e
      · exact e
      · rcases List.mem_cons.1 h2 with e2 | e2
        · exact e2.symm
        · have := hb'.1 x e
          have := ha'.1 y e2
          omega
    subst hxy
    congr 1
    refine asc_ext ha'.2 hb'.2 fun z => ?_
    have hz := h z
    rw [List.mem_cons, List.mem_cons] at hz
    constructor
    · intro hm
      rcases hz.1 (.inr hm) with e | e
      · have := ha'.1 z hm; omega
      · exact e
    · intro hm
      rcases hz.2 (.inr hm) with e | e
      · have := hb'.1 z hm; omega
      · exact e
theorem asc_avars : ∀ (f k : Nat) (xs : List Int), Asc (avars f k xs)
  | 0, _, _ => asc_nil
  | f + 1, k, xs => by
    have ih := asc_avars f (k + 1) xs
    unfold avars
    split
    · refine List.pairwise_cons.2 ⟨fun z hz => ?_, ih⟩
      have := (mem_avars f (k + 1) xs z).1 hz
      omega
    · exact ih
/-- the numbers from k on, f of them, of which p holds -/
def selF (p : Int → Bool) : Nat → Nat → List Int
  | 0, _ => []
  | f + 1, k => if p k = true then (k : Int) :: selF p f (k + 1) else selF p f (k + 1)
theorem selF_step {p : Int → Bool} {n k : Nat} (h : k < n) : selF p (n - k) k = if p k = true then (k : Int) :: selF p (n - (k + 1)) (k + 1) else selF p (n - (k + 1)) (k + 1) := by
  rw [show n - k = (n - (k + 1)) + 1 by omega, selF]
theorem mem_selF {p : Int → Bool} {x : Int} : ∀ (f k : Nat), x ∈ selF p f k ↔ (k : Int) ≤ x ∧ x < k + f ∧ p x = true
  | 0, k => by simp [selF]; omega
  | f + 1, k => by
    have ih := mem_selF (p := p) (x := x) f (k + 1)
    unfold selF
    split
    · rename_i h
      rw [List.mem_cons, ih]
      constructor
      · rintro (rfl | ⟨h1, h2, h3⟩)
        · exact ⟨by omega, by omega, h⟩
        · exact ⟨by omega, by omega, h3⟩
      · rintro ⟨h1, h2, h3⟩
        by_cases e : x = k
        · exact .inl e
        · exact .inr ⟨by omega, by omega, h3⟩
    · rename_i h
      rw [ih]
      constructor
      · rintro ⟨h1, h2, h3⟩
        exact ⟨by omega, by omega, h3⟩
      · rintro ⟨h1, h2, h3⟩
        refine ⟨?_, by omega, h3⟩
        have : x ≠ k := by rintro rfl; exact h h3
        omega
theorem asc_selF {p : Int → Bool} : ∀ (f k : Nat), Asc (selF p f k)
  | 0, _ => asc_nil
  | f + 1, k => by
    have ih := asc_selF (p := p) f (k + 1)
    unfold selF
    split
    · refine List.pairwise_cons.2 ⟨fun z hz => ?_, ih⟩
      have := (mem_selF f (k + 1)).1 hz
      omega
    · exact ih
theorem selF_length {p : Int → Bool} : ∀ (f k : Nat), (selF p f k).length ≤ f
  | 0, _ => by simp [selF]
  | f + 1, k => by
    have := selF_length (p := p) f (k + 1)
    unfold selF
    split <;> simp <;> omega
end Go.Proofs.Ytfigcfajkilhiaa

/- Rows as assignments to variables: what a semijoin and a natural join of rows come to. No program in it. -/
namespace Go.Proofs.Ytfigcfajkilhiaa
open Go.RowKit

theorem iof_get {v : Int} : ∀ {k : Nat} {va : List Int}, v ∈ va → ∃ i : Nat, iof k v va = ((k + i : Nat) : Int) ∧ va[i]? = some v
  | _, [], h => by simp at h
  | k, x :: va, h => by
    rw [iof]
    split
    · rename_i e
      subst e
      exact ⟨0, by simp, by simp⟩
    · rename_i e
      rcases List.mem_cons.1 h with h | h
      · exact absurd h.symm e
      · obtain ⟨i, h1, h2⟩ := iof_get (k := k + 1) h
        exact ⟨i + 1, by rw [h1]; congr 1; omega, by simpa using h2⟩
theorem iof_nodup : ∀ {k : Nat} {va : List Int} {i : Nat} (_ : va.Nodup) (h : i < va.length), iof k va[i] va = ((k + i : Nat) : Int)
  | k, x :: va, 0, _, _ => by rw [iof]; simp
  | k, x :: va, i + 1, hn, h => by
    rw [List.nodup_cons] at hn
    rw [iof, if_neg, List.getElem_cons_succ, iof_nodup hn.2]
    · congr 1; omega
    · rintro e
      rw [List.getElem_cons_succ] at e
      exact hn.1 (e ▸ List.getElem_mem _)
theorem iof_neg {k : Nat} {v : Int} {va : List Int} : iof k v va < 0 ↔ v ∉ va := by
  have := iof_nonneg (n := v) k va
  constructor
  · intro h hm; have := this.2 hm; omega
  · intro h; by_cases h2 : 0 ≤ iof k v va
    · exact absurd (this.1 h2) h
    · omega

/-- a row's value at a variable -/
def valAt (va r : List Int) (v : Int) : Int := r.getD (iof 0 v va).toNat 0
theorem valAt_map {va : List Int} {g : Int → Int} {v : Int} (h : v ∈ va) : valAt va (va.map g) v = g v := by
  obtain ⟨i, h1, h2⟩ := iof_get (k := 0) h
  unfold valAt
  rw [h1, Int.toNat_natCast, Nat.zero_add, List.getD_eq_getElem?_getD, List.getElem?_map, h2]
  rfl
theorem map_valAt {va r : List Int} (hn : va.Nodup) (hl : r.length = va.length) : va.map (valAt va r) = r := by
  apply List.ext_getElem
  · simp [hl]
  · intro i h1 h2
    rw [List.getElem_map]
    unfold valAt
    rw [iof_nodup hn (by simpa using h1), Int.toNat_natCast, Nat.zero_add, getDl _ _ h2]
def agreeB (va r vb s : List Int) : Bool := va.all fun v => !decide (v ∈ vb) || decide (valAt va r v = valAt vb s v)
theorem agreeB_iff {va r vb s : List Int} : agreeB va r vb s = true ↔ ∀ v ∈ va, v ∈ vb → valAt va r v = valAt vb s v := by
  unfold agreeB
  simp only [List.all_eq_true, Bool.or_eq_true, Bool.not_eq_true', decide_eq_false_iff_not, decide_eq_true_eq]
  constructor
  · intro h v h1 h2
    rcases h v h1 with h | h
    · exact absurd h2 h
    · exact h
  · intro h v h1
    by_cases h2 : v ∈ vb
    · exact .inr (h v h1 h2)
    · exact .inl h2
def glueR (un va r vb s : List Int) : List Int := un.map fun v => if v ∈ va then valAt va r v else valAt vb s v
def joinL (un va : List Int) (ra : List (List Int)) (vb : List Int) (rb : List (List Int)) : List (List Int) :=
  ra.flatMap fun r => (rb.filter fun s => agreeB va r vb s).map fun s => glueR un va r vb s
def semiL (va : List Int) (ra : List (List Int)) (vb : List Int) (rb : List (List Int)) : List (List Int) := ra.filter fun r => rb.any fun s => agreeB va r vb s

theorem mem_semiL {va vb r : List Int} {ra rb : List (List Int)} (ha : va.Nodup) (hb : vb.Nodup) (hra : ∀ r ∈ ra, r.length = va.length) (hrb : ∀ s ∈ rb, s.length = vb.length) :
    r ∈ semiL va ra vb rb ↔ r ∈ ra ∧ ∃ g : Int → Int, va.map g = r ∧ vb.map g ∈ rb := by
  unfold semiL
  rw [List.mem_filter, List.any_eq_true]
  refine and_congr_right fun hr => ?_
  constructor
  · rintro ⟨s, hs, hag⟩
    rw [agreeB_iff] at hag
    refine ⟨fun v => if v ∈ va then valAt va r v else valAt vb s v, ?_, ?_⟩
    · rw [List.map_congr_left (g := valAt va r) (fun v hv => by rw [if_pos hv]), map_valAt ha (hra r hr)]
    · rw [List.map_congr_left (g := valAt vb s) (fun v hv => ?_), map_valAt hb (hrb s hs)]
      · exact hs
      · split
        · rename_i h; exact hag v h hv
        · rfl
  · rintro ⟨g, rfl, h2⟩
    refine ⟨_, h2, agreeB_iff.2 fun v h3 h4 => ?_⟩
    rw [valAt_map h3, valAt_map h4]
theorem mem_joinL {un va vb t : List Int} {ra rb : List (List Int)} (ha : va.Nodup) (hb : vb.Nodup) (hra : ∀ r ∈ ra, r.length = va.length) (hrb : ∀ s ∈ rb, s.length = vb.length) (hu : ∀ v ∈ un, v ∈ va ∨ v ∈ vb) :
    t ∈ joinL un va ra vb rb ↔ ∃ g : Int → Int, un.map g = t ∧ va.map g ∈ ra ∧ vb.map g ∈ rb := by
  unfold joinL
  simp only [List.mem_flatMap, List.mem_map, List.mem_filter]
  constructor
  · rintro ⟨r, hr, s, ⟨hs, hag⟩, rfl⟩
    rw [agreeB_iff] at hag
    refine ⟨fun v => if v ∈ va then valAt va r v else valAt vb s v, rfl, ?_, ?_⟩
    · rw [List.map_congr_left (g := valAt va r) (fun v hv => by rw [if_pos hv]), map_valAt ha (hra r hr)]
      exact hr
    · rw [List.map_congr_left (g := valAt vb s) (fun v hv => ?_), map_valAt hb (hrb s hs)]
      · exact hs
      · split
        · rename_i h; exact hag v h hv
        · rfl
  · rintro ⟨g, rfl, h1, h2⟩
    refine ⟨_, h1, _, ⟨h2, agreeB_iff.2 fun v h3 h4 => by rw [valAt_map h3, valAt_map h4]⟩, ?_⟩
    unfold glueR
    refine List.map_congr_left fun v hv => ?_
    split
    · rename_i h; exact valAt_map h
    · rename_i h
      rcases hu v hv with k | k
      · exact absurd k h
      · exact valAt_map k
theorem glue_left {un va r vb s : List Int} (ha : va.Nodup) (hr : r.length = va.length) (hu : ∀ v ∈ va, v ∈ un) : va.map (valAt un (glueR un va r vb s)) = r := by
  unfold glueR
  rw [List.map_congr_left (g := valAt va r) (fun v hv => by rw [valAt_map (hu v hv), if_pos hv]), map_valAt ha hr]
theorem glue_right {un va r vb s : List Int} (hb : vb.Nodup) (hs : s.length = vb.length) (hu : ∀ v ∈ vb, v ∈ un) (hag : agreeB va r vb s = true) : vb.map (valAt un (glueR un va r vb s)) = s := by
  unfold glueR
  rw [List.map_congr_left (g := valAt vb s) (fun v hv => ?_), map_valAt hb hs]
  rw [valAt_map (hu v hv)]
  split
  · rename_i h; exact agreeB_iff.1 hag v h hv
  · rfl
theorem joinL_nodup {un va vb : List Int} {ra rb : List (List Int)} (ha : va.Nodup) (hb : vb.Nodup) (hra : ∀ r ∈ ra, r.length = va.length) (hrb : ∀ s ∈ rb, s.length = vb.length) (hua : ∀ v ∈ va, v ∈ un) (hub : ∀ v ∈ vb, v ∈ un)
    (na : ra.Nodup) (nb : rb.Nodup) : (joinL un va ra vb rb).Nodup := by
  unfold joinL
  refine List.pairwise_flatMap.2 ⟨fun r hr => ?_, ?_⟩
  · refine List.pairwise_map.2 ?_
    refine List.Pairwise.imp_of_mem (R := (· ≠ ·)) (fun {s s'} hs hs' hne e => ?_) (List.Pairwise.filter _ nb)
    rw [List.mem_filter] at hs hs'
    apply hne
    rw [← glue_right (un := un) (va := va) (r := r) hb (hrb s hs.1) hub hs.2, e, glue_right hb (hrb s' hs'.1) hub hs'.2]
  · refine List.Pairwise.imp_of_mem (R := (· ≠ ·)) (fun {r r'} hr hr' hne _ hx y hy e => ?_) na
    rw [List.mem_map] at hx hy
    obtain ⟨s, _, rfl⟩ := hx
    obtain ⟨s', _, rfl⟩ := hy
    apply hne
    rw [← glue_left (un := un) (vb := vb) (s := s) ha (hra r hr) hua, e, glue_left ha (hra r' hr') hua]
theorem nodup_sortR {l : List (List Int)} (h : l.Nodup) : (sortR l).length = l.length :=
  List.Perm.length_eq ((List.perm_ext_iff_of_nodup (ascR_nodup (asc_sortR l)) h).2 fun _ => mem_sortR)
theorem asc_nodup {l : List Int} (h : Asc l) : l.Nodup := List.Pairwise.imp (fun {_ _} h => by omega) h

/-! ### a labeled relation that is valid -/
structure VrOk (d : VRd) : Prop where
  asc : Asc d.1
  lo : ∀ v ∈ d.1, 0 ≤ v ∧ v ≤ 4
  len : d.1.length ≤ 5
  ar : d.2.1 = (d.1.length : Int)
  cnt : d.2.2.length ≤ 4000
  rl : ∀ r ∈ d.2.2, r.length = d.1.length
  rv : ∀ r ∈ d.2.2, rowV r = true
  ra : AscR d.2.2
theorem vars1_iff {xs : List Int} : varsB xs = true ↔ Asc xs ∧ ∀ v ∈ xs, 0 ≤ v ∧ v ≤ 4 := by
  unfold varsB
  rw [allN_true]
  constructor
  · intro h
    have hv : ∀ i (hi : i < xs.length), 0 ≤ xs[i] ∧ xs[i] ≤ 4 := fun i hi => by
      have := h i (by omega) (by omega)
      unfold vars1 at this
      rw [getDl _ _ hi, Bool.and_eq_true] at this
      exact inB_t this.1
    refine ⟨?_, fun v hv2 => by obtain ⟨i, hi, rfl⟩ := List.getElem_of_mem hv2; exact hv i hi⟩
    have hn : ∀ i (hi : i + 1 < xs.length), xs[i] < xs[i + 1] := fun i hi => by
      have := h (i + 1) (by omega) (by omega)
      unfold vars1 at this
      rw [getDl _ _ hi, show i + 1 - 1 = i by omega, getDl _ _ (show i < xs.length by omega), Bool.and_eq_true] at this
      simpa using this.2
    unfold Asc
    rw [List.pairwise_iff_getElem]
    intro i j hi hj hij
    obtain ⟨d, rfl⟩ : ∃ d, j = i + 1 + d := ⟨j - i - 1, by omega⟩
    induction d with
    | zero => exact hn i hj
    | succ d ih =>
      have h1 := ih (by omega) (by omega)
      have h2 := hn (i + 1 + d) hj
      exact Int.lt_trans h1 h2
  · rintro ⟨h1, h2⟩ i _ hi
    rw [Nat.zero_add] at hi
    unfold vars1
    have h3 := h2 _ (List.getElem_mem hi)
    rw [getDl _ _ hi, Bool.and_eq_true]
    refine ⟨by simp [inB, h3], ?_⟩
    rcases Nat.eq_zero_or_pos i with h4 | h4
    · simp [h4]
    · rw [getDl _ _ (show i - 1 < xs.length by omega)]
      have := List.pairwise_iff_getElem.1 h1 (i - 1) i (by omega) hi (by omega)
      simp [this]
theorem asc_bd : ∀ {xs : List Int} {lo hi : Int}, Asc xs → (∀ v ∈ xs, lo ≤ v ∧ v ≤ hi) → lo ≤ hi + 1 → (xs.length : Int) ≤ hi + 1 - lo
  | [], lo, hi, _, _, h => by simp; omega
  | x :: xs, lo, hi, h, hb, _ => by
    unfold Asc at h
    rw [List.pairwise_cons] at h
    have hx := hb x (by simp)
    have := asc_bd (xs := xs) (lo := x + 1) (hi := hi) h.2 (fun v hv => ⟨by have := h.1 v hv; omega, (hb v (by simp [hv])).2⟩) (by omega)
    simp only [List.length_cons]
    omega
theorem asc_len5 {xs : List Int} (h : Asc xs) (hb : ∀ v ∈ xs, 0 ≤ v ∧ v ≤ 4) : xs.length ≤ 5 := by
  have := asc_bd h hb (by omega)
  omega
theorem vrB_iff {d : VRd} : vrB d = true ↔ VrOk d := by
  unfold vrB
  rw [Bool.and_eq_true, Bool.and_eq_true, vars1_iff, rowsB_iff, decide_eq_true_eq]
  constructor
  · rintro ⟨⟨⟨h1, h2⟩, h3, h4, h5, h6, h7⟩, h8⟩
    exact ⟨h1, h2, by omega, h8, h5, fun r hr => by have := (h6 r hr).1; omega, fun r hr => (h6 r hr).2, h7⟩
  · intro h
    have := h.len
    exact ⟨⟨⟨h.asc, h.lo⟩, by rw [h.ar]; omega, by rw [h.ar]; omega, h.cnt, fun r hr => ⟨by rw [h.ar, h.rl r hr], h.rv r hr⟩, h.ra⟩, h.ar⟩

/-! ### the semijoin and the natural join of valid ones -/
def semiR (a b : VRd) : Option VRd := if vrB a = true ∧ vrB b = true then some (a.1, a.2.1, semiL a.1 a.2.2 b.1 b.2.2) else none
def joinVR (a b : VRd) : VRd := (uniL a.1 b.1, ((uniL a.1 b.1).length : Int), sortR (joinL (uniL a.1 b.1) a.1 a.2.2 b.1 b.2.2))
def joinR (a b : VRd) : Option VRd := if (vrB a = true ∧ vrB b = true) ∧ (joinL (uniL a.1 b.1) a.1 a.2.2 b.1 b.2.2).length ≤ 4000 then some (joinVR a b) else none
theorem semi_ok {a b d : VRd} (h : semiR a b = some d) : VrOk d := by
  unfold semiR at h
  split at h
  · rename_i hh
    injection h with h
    subst h
    have ha := vrB_iff.1 hh.1
    have hs : ∀ r ∈ semiL a.1 a.2.2 b.1 b.2.2, r ∈ a.2.2 := fun r hr => (List.mem_filter.1 hr).1
    exact ⟨ha.asc, ha.lo, ha.len, ha.ar, Nat.le_trans (List.length_filter_le _ _) ha.cnt, fun r hr => ha.rl r (hs r hr), fun r hr => ha.rv r (hs r hr), ascR_filter _ ha.ra⟩
  · cases h
theorem rowV_iff {r : List Int} : rowV r = true ↔ ∀ x ∈ r, 0 ≤ x ∧ x ≤ 99 := by
  unfold rowV
  rw [List.all_eq_true]
  constructor
  · exact fun h x hx => inB_t (h x hx)
  · exact fun h x hx => by simp [inB, h x hx]
theorem valAt_mem {va r : List Int} {v : Int} (h : v ∈ va) (hl : r.length = va.length) : valAt va r v ∈ r := by
  obtain ⟨i, h1, h2⟩ := iof_get (k := 0) h
  unfold valAt
  have hi : i < va.length := (List.getElem?_eq_some_iff.1 h2).1
  rw [h1, Int.toNat_natCast, Nat.zero_add, getDl _ _ (by omega)]
  exact List.getElem_mem _
theorem glue_valid {un va r vb s : List Int} (hu : ∀ v ∈ un, v ∈ va ∨ v ∈ vb) (hr : r.length = va.length) (hs : s.length = vb.length) (vr : rowV r = true) (vs : rowV s = true) : rowV (glueR un va r vb s) = true := by
  rw [rowV_iff] at vr vs ⊢
  intro x hx
  unfold glueR at hx
  obtain ⟨v, hv, rfl⟩ := List.mem_map.1 hx
  split
  · rename_i h; exact vr _ (valAt_mem h hr)
  · rename_i h
    rcases hu v hv with k | k
    · exact absurd k h
    · exact vs _ (valAt_mem k hs)
theorem join_mem {a b : VRd} (ha : VrOk a) (hb : VrOk b) {t : List Int} : t ∈ joinL (uniL a.1 b.1) a.1 a.2.2 b.1 b.2.2 ↔ ∃ g : Int → Int, (uniL a.1 b.1).map g = t ∧ a.1.map g ∈ a.2.2 ∧ b.1.map g ∈ b.2.2 :=
  mem_joinL (asc_nodup ha.asc) (asc_nodup hb.asc) ha.rl hb.rl fun _ h => mem_uniL.1 h
theorem join_rows {a b : VRd} (ha : VrOk a) (hb : VrOk b) : ∀ t ∈ joinL (uniL a.1 b.1) a.1 a.2.2 b.1 b.2.2, t.length = (uniL a.1 b.1).length ∧ rowV t = true := fun t ht => by
  unfold joinL at ht
  simp only [List.mem_flatMap, List.mem_map, List.mem_filter] at ht
  obtain ⟨r, hr, s, ⟨hs, _⟩, rfl⟩ := ht
  exact ⟨by simp [glueR], glue_valid (fun _ h => mem_uniL.1 h) (ha.rl r hr) (hb.rl s hs) (ha.rv r hr) (hb.rv s hs)⟩
theorem uni_bd {a b : VRd} (ha : VrOk a) (hb : VrOk b) : ∀ v ∈ uniL a.1 b.1, 0 ≤ v ∧ v ≤ 4 := fun v hv => by
  rcases mem_uniL.1 hv with h | h
  · exact ha.lo v h
  · exact hb.lo v h
theorem join_nodup {a b : VRd} (ha : VrOk a) (hb : VrOk b) : (joinL (uniL a.1 b.1) a.1 a.2.2 b.1 b.2.2).Nodup :=
  joinL_nodup (asc_nodup ha.asc) (asc_nodup hb.asc) ha.rl hb.rl (fun _ h => mem_uniL.2 (.inl h)) (fun _ h => mem_uniL.2 (.inr h)) (ascR_nodup ha.ra) (ascR_nodup hb.ra)
theorem join_ok {a b d : VRd} (h : joinR a b = some d) : VrOk d := by
  unfold joinR at h
  split at h
  · rename_i hh
    obtain ⟨⟨h1, h2⟩, h3⟩ := hh
    injection h with h
    subst h
    have ha := vrB_iff.1 h1
    have hb := vrB_iff.1 h2
    have hA := asc_uniL (b := b.1) ha.asc
    exact ⟨hA, uni_bd ha hb, asc_len5 hA (uni_bd ha hb), rfl, Nat.le_trans (sortR_length _) h3, fun r hr => (join_rows ha hb r (mem_sortR.1 hr)).1, fun r hr => (join_rows ha hb r (mem_sortR.1 hr)).2, asc_sortR _⟩
  · cases h
/-- the reference's way: rows in any order, made a relation -/
theorem join_new {a b : VRd} (h : vrB a = true ∧ vrB b = true) : newR ((uniL a.1 b.1).length : Int) (joinL (uniL a.1 b.1) a.1 a.2.2 b.1 b.2.2) = (joinR a b).map (·.2) := by
  have ha := vrB_iff.1 h.1
  have hb := vrB_iff.1 h.2
  have hl := nodup_sortR (join_nodup ha hb)
  have h5 := asc_len5 (asc_uniL (b := b.1) ha.asc) (uni_bd ha hb)
  by_cases hc : (joinL (uniL a.1 b.1) a.1 a.2.2 b.1 b.2.2).length ≤ 4000
  · unfold joinR
    rw [if_pos ⟨h, hc⟩, newR_some (rowsIn_iff.2 fun r hr => by have := join_rows ha hb r hr; exact ⟨by rw [this.1], this.2⟩) (by omega) (by omega) (by omega)]
    rfl
  · unfold joinR
    rw [if_neg (fun h => hc h.2), Option.map_none, newR_none]
    rintro ⟨_, h2⟩
    have := (rowsB_iff.1 h2).2.2.1
    omega
end Go.Proofs.Ytfigcfajkilhiaa

/- Rows picked, placed, copied: the program's way and the reference's. -/
namespace Go.Proofs.Ytfigcfajkilhiaa
open Go.RowKit

/-- the values of a row at some columns -/
def pickL (row cols : List Int) : List Int := cols.map fun c => row.getD c.toNat 0
theorem pickL_step {row cols : List Int} {k : Nat} (h : k < cols.length) : pickL row (cols.take (k + 1)) = pickL row (cols.take k) ++ [row.getD cols[k].toNat 0] := by
  unfold pickL
  rw [List.take_succ_eq_append_getElem h, List.map_append]
  rfl
theorem pickL_length (row cols : List Int) : (pickL row cols).length = cols.length := by simp [pickL]
theorem RV.atI' {w : World} {A : Option Addr} {xs : List Int} {n : Nat} (h : RI w A xs) (hk : n < xs.length) : ∃ b o, A = some ⟨b, o, none⟩ ∧ b < w.heap.size ∧ w.cell? ⟨b, o + n, none⟩ = some (.int .i64 (xs.getD n 0)) := by
  rw [getDl _ _ hk]
  exact h.atI hk
set_option maxHeartbeats 1000000 in
theorem pick_any {A A' : Option Addr} {c c' : Nat} {row cols : List Int} {w : World} (h1 : RI w A row) (hc : cols.length ≤ 1000000000) (h2 : RI w A' cols) (hb : ∀ v ∈ cols, 0 ≤ v ∧ v < row.length) :
    Calls Try.prog 150 #[.slice A row.length c, .slice A' cols.length c'] w fun e w' => ∃ v F, e = .returned v ∧ (∃ y, w' = ext w y) ∧ SV 3 1 sI w' v (pickL row cols) F ∧ ∀ b ∈ F, w.heap.size ≤ b := by
  have hS0 := SV.empty (α := Int) (te := 3) (size := 1) (E := sI) w
  have Hb := Lib.hid hb
  clear hb
  go_enter Try.func150, Try.ntmps150
  go_wp2
  go_loopw [5, 11] (fun v i wr => ∃ (k : Nat) (F : List Nat), i = .int .i64 k ∧ k ≤ cols.length ∧ SV 3 1 sI wr v (pickL row (cols.take k)) F ∧ (∀ b ∈ F, w.heap.size ≤ b) ∧ (∃ y, wr = ext w y)) (fun _ i _ => cols.length - (intOf i).toNat)
  case atStart => exact ⟨0, _, rfl, by omega, by simpa [pickL] using hS0, by simp, alloc_ext _ _⟩
  case round =>
    obtain ⟨k, F, rfl, hk, hS, hF, hw⟩ := hrel
    have HF := Lib.hid hF
    clear hF
    by_cases hlt : k < cols.length
    · obtain ⟨b, o, rfl, hb', hc'⟩ := (h2.toExt hw).atI hlt
      obtain ⟨n0, n1⟩ := Hb.out _ (List.getElem_mem hlt)
      have Hst := Lib.hid (pickL_step (row := row) hlt)
      have hlk : (pickL row (cols.take k)).length + 1 ≤ 2000000000 := by rw [pickL_length]; simp; omega
      obtain ⟨n, hn⟩ : ∃ n, cols[k] = n := ⟨_, rfl⟩
      rw [hn] at n0 n1 hc' Hst
      clear hn
      obtain ⟨m, rfl⟩ := Int.eq_ofNat_of_zero_le n0
      rw [Int.toNat_natCast] at Hst
      obtain ⟨b1, o1, rfl, hb1, hc1⟩ := (h1.toExt hw).atI' (n := m) (by omega)
      obtain ⟨x, hx⟩ : ∃ x, row.getD m 0 = x := ⟨_, rfl⟩
      rw [hx] at hc1 Hst
      clear hx
      have n2 : (m : Int) < row.length := n1
      go_wp2_with (at_builtin; refine wpList_app1 (E := sI) (d := x) rfl _ _ _ rfl tI rfl rfl rfl (by simp) (fun _ => ⟨rfl, rfl⟩) rfl (by simp [Value.oneCell']) hS hlk (by omega) ?_; intro v' w' F' hS' hC' hF')
      exact ⟨⟨k + 1, F', by go_num, by omega, by rw [Hst.out]; exact hS', newer HF.out (size_of_ext hw) hF', hC'.isExt hw HF.out⟩, by simp [intOf]; omega⟩
    · rw [List.take_of_length_le (by omega)] at hS
      go_wp2
      go_ret
      exact ⟨_, F, rfl, hw, hS, HF.out⟩
set_option maxHeartbeats 1000000 in
theorem l5Cols_any {A A' : Option Addr} {c c' : Nat} {row cols : List Int} {w : World} (h1 : RI w A row) (hc : cols.length ≤ 1000000000) (h2 : RI w A' cols) (hb : ∀ v ∈ cols, 0 ≤ v ∧ v < row.length) :
    Calls Try.prog 119 #[.slice A row.length c, .slice A' cols.length c'] w fun e w' => ∃ v F, e = .returned v ∧ (∃ y, w' = ext w y) ∧ SV 3 1 sI w' v (pickL row cols) F ∧ ∀ b ∈ F, w.heap.size ≤ b := by
  have hS0 := SV.empty (α := Int) (te := 3) (size := 1) (E := sI) w
  have Hb := Lib.hid hb
  clear hb
  go_enter Try.func119, Try.ntmps119
  go_wp2
  go_loopw [5, 6] (fun v i wr => ∃ (k : Nat) (F : List Nat), i = .int .i64 k ∧ k ≤ cols.length ∧ SV 3 1 sI wr v (pickL row (cols.take k)) F ∧ (∀ b ∈ F, w.heap.size ≤ b) ∧ (∃ y, wr = ext w y)) (fun _ i _ => cols.length - (intOf i).toNat)
  case atStart => exact ⟨0, _, rfl, by omega, by simpa [pickL] using hS0, by simp, alloc_ext _ _⟩
  case round =>
    obtain ⟨k, F, rfl, hk, hS, hF, hw⟩ := hrel
    have HF := Lib.hid hF
    clear hF
    by_cases hlt : k < cols.length
    · obtain ⟨b, o, rfl, hb', hc'⟩ := (h2.toExt hw).atI hlt
      obtain ⟨n0, n1⟩ := Hb.out _ (List.getElem_mem hlt)
      have Hst := Lib.hid (pickL_step (row := row) hlt)
      have hlk : (pickL row (cols.take k)).length + 1 ≤ 2000000000 := by rw [pickL_length]; simp; omega
      obtain ⟨n, hn⟩ : ∃ n, cols[k] = n := ⟨_, rfl⟩
      rw [hn] at n0 n1 hc' Hst
      clear hn
      obtain ⟨m, rfl⟩ := Int.eq_ofNat_of_zero_le n0
      rw [Int.toNat_natCast] at Hst
      obtain ⟨b1, o1, rfl, hb1, hc1⟩ := (h1.toExt hw).atI' (n := m) (by omega)
      obtain ⟨x, hx⟩ : ∃ x, row.getD m 0 = x := ⟨_, rfl⟩
      rw [hx] at hc1 Hst
      clear hx
      have n2 : (m : Int) < row.length := n1
      go_wp2_with (at_builtin; refine wpList_app1 (E := sI) (d := x) rfl _ _ _ rfl tI rfl rfl rfl (by simp) (fun _ => ⟨rfl, rfl⟩) rfl (by simp [Value.oneCell']) hS hlk (by omega) ?_; intro v' w' F' hS' hC' hF')
      exact ⟨⟨k + 1, F', by go_num, by omega, by rw [Hst.out]; exact hS', newer HF.out (size_of_ext hw) hF', hC'.isExt hw HF.out⟩, by simp [intOf]; omega⟩
    · rw [List.take_of_length_le (by omega)] at hS
      go_wp2
      go_ret
      exact ⟨_, F, rfl, hw, hS, HF.out⟩
def fitsC (a : Int) (cols : List Int) : Bool := decide (cols.length ≤ 5) && cols.all fun c => inB c 0 (a - 1)
theorem fitsC_iff {a : Int} {cols : List Int} : fitsC a cols = true ↔ cols.length ≤ 5 ∧ ∀ v ∈ cols, 0 ≤ v ∧ v < a := by
  unfold fitsC
  rw [Bool.and_eq_true, decide_eq_true_eq, List.all_eq_true]
  refine and_congr_right fun _ => ?_
  constructor
  · intro h v hv; have := inB_t (h v hv); omega
  · intro h v hv; have := h v hv; simp [inB]; omega
set_option maxHeartbeats 400000 in
theorem columnsFit_any {A : Option Addr} {c : Nat} {a : Int} {cols : List Int} {w : World} (ha0 : -1000000000 ≤ a) (ha1 : a ≤ 1000000000) (hx : cols.length ≤ 1000000000) (h1 : RI w A cols) :
    Calls Try.prog 148 #[.int .i64 a, .slice A cols.length c] w fun e w' => e = .returned (.bool (fitsC a cols)) ∧ w = w' := by
  by_cases h5 : cols.length ≤ 5
  · have HE := Lib.hid (show fitsC a cols = cols.all fun c => inB c 0 (a - 1) by unfold fitsC; rw [decide_eq_true h5, Bool.true_and])
    go_enter Try.func148, Try.ntmps148
    go_wp2
    go_loop [12] (fun i => ∃ k : Nat, i = .int .i64 k ∧ k ≤ cols.length ∧ ((cols.drop k).all fun c => inB c 0 (a - 1)) = cols.all fun c => inB c 0 (a - 1)) (fun i => cols.length - (intOf i).toNat)
    case atStart => exact ⟨0, rfl, by omega, by simp⟩
    case round =>
      obtain ⟨k, rfl, hk, hj⟩ := hrel
      have Hj := Lib.hid hj
      clear hj
      by_cases hlt : k < cols.length
      · obtain ⟨b, o, rfl, hb, hc⟩ := h1.atI hlt
        have e := Hj.out
        rw [allR_step hlt] at e
        obtain ⟨t, ht⟩ : ∃ t, inB cols[k] 0 (a - 1) = t := ⟨_, rfl⟩
        rw [ht] at e
        have HT := Lib.hid ht
        have He := Lib.hid e
        clear e ht
        cases t
        · go_wp2_with (go_at_call 121; refine (within_any _ _ _ _).mono ?_; rintro e w' ⟨rfl, rfl⟩; rw [HT.out])
          go_ret
          exact ⟨by rw [HE.out, ← He.out]; rfl, rfl⟩
        · go_wp2_with (go_at_call 121; refine (within_any _ _ _ _).mono ?_; rintro e w' ⟨rfl, rfl⟩; rw [HT.out])
          exact ⟨⟨k + 1, by go_num, by omega, by simpa using He.out⟩, by simp [intOf]; omega⟩
      · have e := Hj.out
        rw [allR_end hlt] at e
        have He := Lib.hid e
        clear e
        go_wp2
        go_ret
        exact ⟨by rw [HE.out, ← He.out]; rfl, rfl⟩
  · have HE := Lib.hid (show fitsC a cols = false by unfold fitsC; rw [decide_eq_false h5, Bool.false_and])
    go_enter Try.func148, Try.ntmps148
    go_wp2
    go_ret
    exact ⟨by rw [HE.out]; rfl, rfl⟩
/-- where a search by halves stands -/
def PlI (rows : List (List Int)) (row : List Int) (lo hi : Nat) : Prop := AscR rows → (∀ i (_ : i < rows.length), i < lo → cmpL rows[i] row < 0) ∧ ∀ i (_ : i < rows.length), hi ≤ i → ¬ cmpL rows[i] row < 0
theorem PlI.up {rows : List (List Int)} {row : List Int} {lo hi m : Nat} (h : PlI rows row lo hi) (hm : m < rows.length) (hc : cmpL rows[m] row < 0) : PlI rows row (m + 1) hi := fun ha => by
  refine ⟨fun i hi hlt => ?_, (h ha).2⟩
  rcases Nat.lt_or_eq_of_le (Nat.le_of_lt_succ hlt) with k | k
  · exact cmpL_trans (asc_get ha k hm) hc
  · subst k; exact hc
theorem PlI.down {rows : List (List Int)} {row : List Int} {lo hi m : Nat} (h : PlI rows row lo hi) (hm : m < rows.length) (hc : ¬ cmpL rows[m] row < 0) : PlI rows row lo m := fun ha => by
  refine ⟨(h ha).1, fun i hi hle => ?_⟩
  rcases Nat.lt_or_eq_of_le hle with k | k
  · exact fun hl => hc (cmpL_trans (asc_get ha k hi) hl)
  · subst k; exact hc
theorem PlI.start (rows : List (List Int)) (row : List Int) : PlI rows row 0 rows.length := fun _ => ⟨fun i _ h => by omega, fun i h k => by omega⟩
def PlP (rows : List (List Int)) (row : List Int) (w : World) (e : Ending) (w' : World) : Prop :=
  ∃ (k : Nat) (b : Bool), e = .returned (.tuple #[.int .i64 k, .bool b]) ∧ k ≤ rows.length ∧ (AscR rows → b = decide (row ∈ rows)) ∧ PlI rows row k k ∧ ∃ y, w' = ext w y
theorem plp_end {rows : List (List Int)} {row : List Int} {k : Nat} {b : Bool} (h : PlI rows row k k) (hb : b = (decide (k < rows.length) && decide (cmpL (rows.getD k []) row = 0))) : AscR rows → b = decide (row ∈ rows) := fun ha => by
  rw [hb]; exact place_mem ha (h ha).1 (h ha).2
set_option maxHeartbeats 2000000 in
theorem place_any {A A' : Option Addr} {c c' : Nat} {rows : List (List Int)} {row : List Int} {w : World} (hx : rows.length ≤ 1000000000) (hxl : ∀ x ∈ rows, x.length ≤ 1000000000) (h1 : RII w A rows) (hr : row.length ≤ 1000000000) (h2 : RI w A' row) :
    Calls Try.prog 159 #[.slice A rows.length c, .slice A' row.length c'] w (PlP rows row w) := by
  have Hxl := Lib.hid hxl
  clear hxl
  go_enter Try.func159, Try.ntmps159
  go_wp2
  go_loopw [6, 7] (fun l h wr => ∃ lo hi : Nat, l = .int .i64 lo ∧ h = .int .i64 hi ∧ lo ≤ hi ∧ hi ≤ rows.length ∧ Hid (PlI rows row lo hi) ∧ (∃ y, wr = ext w y)) (fun l h _ => (intOf h).toNat - (intOf l).toNat)
  case atStart => exact ⟨0, rows.length, rfl, rfl, by omega, by omega, Lib.hid (PlI.start _ _), refl_ext w⟩
  case round =>
    obtain ⟨lo, hi, rfl, rfl, hlh, hhl, HP, hw⟩ := hrel
    by_cases hlt : lo < hi
    · have hm1 : lo ≤ (lo + hi) / 2 := by omega
      have hm2 : (lo + hi) / 2 < hi := by omega
      have HM := Lib.hid (show ((lo : Int) + (hi : Int)) / 2 = (((lo + hi) / 2 : Nat) : Int) by omega)
      obtain ⟨m, hm⟩ : ∃ m, (lo + hi) / 2 = m := ⟨_, rfl⟩
      rw [hm] at hm1 hm2 HM
      clear hm
      have hml : m < rows.length := by omega
      obtain ⟨b, o, A1, c1, rfl, hb, hc, hv⟩ := (h1.toExt hw).atV hml
      have lx := Hxl.out rows[m] (List.getElem_mem hml)
      have HU := Lib.hid (HP.out.up hml)
      have HD := Lib.hid (HP.out.down hml)
      obtain ⟨x, hx1⟩ : ∃ x, rows[m] = x := ⟨_, rfl⟩
      rw [hx1] at hc hv lx HU HD
      obtain ⟨C, hC⟩ : ∃ C, cmpL x row = C := ⟨_, rfl⟩
      rw [hC] at HU HD
      have HC := Lib.hid hC
      clear hx1 hC
      go_upto_region 4 with fail
      rw [HM.out]
      by_cases h0 : C < 0
      · have HU2 := Lib.hid (HU.out h0)
        go_wp2_with (go_at_call 181; refine (CompareRows_any lx hv hr (h2.toExt hw)).mono ?_; rintro e w1 ⟨rfl, hx1⟩; rw [HC.out])
        exact ⟨⟨m + 1, hi, by go_num, rfl, by omega, hhl, HU2, trans_ext hw hx1⟩, by simp [intOf]; omega⟩
      · have HD2 := Lib.hid (HD.out h0)
        go_wp2_with (go_at_call 181; refine (CompareRows_any lx hv hr (h2.toExt hw)).mono ?_; rintro e w1 ⟨rfl, hx1⟩; rw [HC.out])
        exact ⟨⟨lo, m, rfl, rfl, by omega, by omega, HD2, trans_ext hw hx1⟩, by simp [intOf]; omega⟩
    · obtain rfl : lo = hi := by omega
      by_cases hl : lo < rows.length
      · obtain ⟨b, o, A1, c1, rfl, hb, hc, hv⟩ := (h1.toExt hw).atV hl
        have lx := Hxl.out rows[lo] (List.getElem_mem hl)
        have HG := Lib.hid (getDl rows [] hl)
        obtain ⟨x, hx1⟩ : ∃ x, rows[lo] = x := ⟨_, rfl⟩
        rw [hx1] at hc hv lx HG
        obtain ⟨C, hC⟩ : ∃ C, cmpL x row = C := ⟨_, rfl⟩
        have HC := Lib.hid hC
        have HE := Lib.hid (plp_end (b := (C == 0)) HP.out (by rw [HG.out, hC, decide_eq_true hl, Bool.true_and]; rfl))
        clear hx1 hC
        go_wp2_with (go_at_call 181; refine (CompareRows_any lx hv hr (h2.toExt hw)).mono ?_; rintro e w1 ⟨rfl, hx1⟩; rw [HC.out])
        go_ret2
        exact ⟨lo, _, rfl, hhl, HE.out, HP.out, trans_ext hw hx1⟩
      · have HE := Lib.hid (plp_end (b := false) HP.out (by rw [decide_eq_false hl, Bool.false_and]))
        go_wp2
        go_ret2
        exact ⟨lo, _, rfl, hhl, HE.out, HP.out, hw⟩
end Go.Proofs.Ytfigcfajkilhiaa

/- Rows and relations copied; a row placed, by the reference. -/
namespace Go.Proofs.Ytfigcfajkilhiaa
open Go.RowKit

set_option maxHeartbeats 2000000 in
theorem l5Place_any {z : Int} {A A' : Option Addr} {c c' : Nat} {rows : List (List Int)} {row : List Int} {w : World} (hx : rows.length ≤ 1000000000) (hxl : ∀ x ∈ rows, x.length ≤ 1000000000) (h1 : RII w A rows) (hr : row.length ≤ 1000000000) (h2 : RI w A' row) :
    Calls Try.prog 118 #[.agg #[.int .i64 z, .slice A rows.length c], .slice A' row.length c'] w (PlP rows row w) := by
  have Hxl := Lib.hid hxl
  clear hxl
  go_enter Try.func118, Try.ntmps118
  go_upto_region 1 with fail
  refine wp_name ?_
  intro W hW
  have xW : ∃ y, W = ext w y := by rw [hW.out]; exact (by refine Chg.isExt (F := []) ?_ (refl_ext _) (by simp); repeat (with_reducible (first | exact Chg.refl _ _ | exact Nat.le_refl _ | exact Chg.ofExt (by assumption) | refine Chg.trans0 ?_ (by assumption) | refine Chg.extS ?_ _ | refine Chg.alloc ?_ _ | refine Chg.drew ?_ | refine Chg.setCellE ?_ ?_ _ | refine le_addk ?_ _ | refine le_ext ?_ | refine le_alloc ?_ _ | refine le_setC ?_ _ _ | refine le_drew ?_ | assumption | (refine Nat.le_of_lt ?_; omega) | omega)))
  have BW0 : BoxAt W (w.heap.size) #[.int .i64 z, .slice A rows.length c] := by rw [hW.out]; refine ⟨?_, fun j => ?_, fun j => ?_⟩ <;> go_simp
  obtain ⟨lW0, bW0, fW0⟩ := BW0
  have cW0_0 : W.cell? ⟨w.heap.size, 0, none⟩ = some (.int .i64 z) := bW0 0
  have cW0_1 : W.cell? ⟨w.heap.size, 1, none⟩ = some (.slice A rows.length c) := bW0 1
  clear hW
  have PW : BoxAt W w.heap.size #[.int .i64 z, .slice A rows.length c] := ⟨lW0, bW0, fW0⟩
  go_wp2
  clear lW0 bW0 fW0 cW0_0 cW0_1
  go_loopw [6, 7] (fun l h wr => ∃ lo hi : Nat, l = .int .i64 lo ∧ h = .int .i64 hi ∧ lo ≤ hi ∧ hi ≤ rows.length ∧ Hid (PlI rows row lo hi) ∧ (∃ y, wr = ext W y)) (fun l h _ => (intOf h).toNat - (intOf l).toNat)
  case atStart => exact ⟨0, rows.length, rfl, rfl, by omega, by omega, Lib.hid (PlI.start _ _), refl_ext W⟩
  case round =>
    obtain ⟨lo, hi, rfl, rfl, hlh, hhl, HP, hy⟩ := hrel
    obtain ⟨l1, a1, a1', f1⟩ := bx2 (PW.toExt hy)
    have hw := trans_ext xW hy
    by_cases hlt : lo < hi
    · have hm1 : lo ≤ (lo + hi) / 2 := by omega
      have hm2 : (lo + hi) / 2 < hi := by omega
      have HM := Lib.hid (show ((lo : Int) + (hi : Int)) / 2 = (((lo + hi) / 2 : Nat) : Int) by omega)
      obtain ⟨m, hm⟩ : ∃ m, (lo + hi) / 2 = m := ⟨_, rfl⟩
      rw [hm] at hm1 hm2 HM
      clear hm
      have hml : m < rows.length := by omega
      obtain ⟨b, o, A1, c1, rfl, hb, hc, hv⟩ := (h1.toExt hw).atV hml
      have lx := Hxl.out rows[m] (List.getElem_mem hml)
      have HU := Lib.hid (HP.out.up hml)
      have HD := Lib.hid (HP.out.down hml)
      obtain ⟨x, hx1⟩ : ∃ x, rows[m] = x := ⟨_, rfl⟩
      rw [hx1] at hc hv lx HU HD
      obtain ⟨C, hC⟩ : ∃ C, cmpL x row = C := ⟨_, rfl⟩
      rw [hC] at HU HD
      have HC := Lib.hid hC
      clear hx1 hC
      go_upto_region 5 with fail
      rw [HM.out]
      by_cases h0 : C < 0
      · have HU2 := Lib.hid (HU.out h0)
        go_wp2_with (go_at_call 120; refine (specCompareRows_any lx hv hr (h2.toExt hw)).mono ?_; rintro e w1 ⟨rfl, hx1⟩; rw [HC.out])
        exact ⟨⟨m + 1, hi, by go_num, rfl, by omega, hhl, HU2, trans_ext hy hx1⟩, by simp [intOf]; omega⟩
      · have HD2 := Lib.hid (HD.out h0)
        go_wp2_with (go_at_call 120; refine (specCompareRows_any lx hv hr (h2.toExt hw)).mono ?_; rintro e w1 ⟨rfl, hx1⟩; rw [HC.out])
        exact ⟨⟨lo, m, rfl, rfl, by omega, by omega, HD2, trans_ext hy hx1⟩, by simp [intOf]; omega⟩
    · obtain rfl : lo = hi := by omega
      by_cases hl : lo < rows.length
      · obtain ⟨b, o, A1, c1, rfl, hb, hc, hv⟩ := (h1.toExt hw).atV hl
        have lx := Hxl.out rows[lo] (List.getElem_mem hl)
        have HG := Lib.hid (getDl rows [] hl)
        obtain ⟨x, hx1⟩ : ∃ x, rows[lo] = x := ⟨_, rfl⟩
        rw [hx1] at hc hv lx HG
        obtain ⟨C, hC⟩ : ∃ C, cmpL x row = C := ⟨_, rfl⟩
        have HC := Lib.hid hC
        have HE := Lib.hid (plp_end (b := (C == 0)) HP.out (by rw [HG.out, hC, decide_eq_true hl, Bool.true_and]; rfl))
        clear hx1 hC
        go_wp2_with (go_at_call 120; refine (specCompareRows_any lx hv hr (h2.toExt hw)).mono ?_; rintro e w1 ⟨rfl, hx1⟩; rw [HC.out])
        go_ret2
        exact ⟨lo, _, rfl, hhl, HE.out, HP.out, trans_ext hw hx1⟩
      · have HE := Lib.hid (plp_end (b := false) HP.out (by rw [decide_eq_false hl, Bool.false_and]))
        go_wp2
        go_ret2
        exact ⟨lo, _, rfl, hhl, HE.out, HP.out, hw⟩
set_option maxHeartbeats 1000000 in
theorem copyRows_any {A : Option Addr} {c : Nat} {rows : List (List Int)} {w : World} (hx : rows.length ≤ 1000000000) (hxl : ∀ x ∈ rows, x.length ≤ 1000000000) (h1 : RII w A rows) :
    Calls Try.prog 173 #[.slice A rows.length c] w fun e w' => ∃ v F, e = .returned v ∧ (∃ y, w' = ext w y) ∧ SV 48 1 (sSl 3 1 sI) w' v rows F ∧ F.Nodup ∧ ∀ b ∈ F, w.heap.size ≤ b := by
  have Hxl := Lib.hid hxl
  clear hxl
  go_enter Try.func173, Try.ntmps173
  go_wp2
  go_loopw [3, 8] (fun v i wr => ∃ (k : Nat) (F : List Nat), i = .int .i64 k ∧ k ≤ rows.length ∧ SV 48 1 (sSl 3 1 sI) wr v (rows.take k) F ∧ Hid F.Nodup ∧ (∀ b ∈ F, w.heap.size ≤ b) ∧ (∃ y, wr = ext w y)) (fun _ i _ => rows.length - (intOf i).toNat)
  case atStart => exact ⟨0, [], rfl, by omega, SV.nil, Lib.hid (by simp), by simp, refl_ext w⟩
  case round =>
    obtain ⟨k, F, rfl, hk, hS, HN, hF, hw⟩ := hrel
    have HF := Lib.hid hF
    clear hF
    by_cases hlt : k < rows.length
    · obtain ⟨b, o, A1, c1, rfl, hb, hc, hv⟩ := (h1.toExt hw).atV hlt
      have lx := Hxl.out rows[k] (List.getElem_mem hlt)
      have Ht := Lib.hid (show rows.take (k + 1) = rows.take k ++ [rows[k]] from List.take_succ_eq_append_getElem hlt)
      have hlk : (rows.take k).length + 1 ≤ 2000000000 := by simp; omega
      have hSlt := Lib.hid hS.lt
      obtain ⟨x, hx1⟩ : ∃ x, rows[k] = x := ⟨_, rfl⟩
      rw [hx1] at hc hv lx Ht
      clear hx1
      go_wp2_with (first
        | (go_at_call 114; refine (copyInts_v lx hv).mono ?_; rintro e w1 ⟨v1, F1, rfl, hx1, hS1, hF1⟩; obtain ⟨A2, c2, rfl, _, _⟩ := hS1.form; have hN2 := nodup_more HN.out hS1.nodup hSlt.out hF1; have hz1 := size_of_ext hx1)
        | (at_builtin; refine wpList_appN (E := sSl 3 1 sI) (d := x) (G := F1) rfl _ _ _ rfl tIIr rfl rfl rfl (by simp) ⟨_, rfl, hS1⟩ rfl (by simp [Value.oneCell']) (hS.toExt hx1) hN2 hlk (by omega) ?_; intro v' w' F' hS' hC' hN' hF'))
      refine ⟨⟨k + 1, F', by go_num, by omega, by rw [Ht.out]; exact hS', Lib.hid hN', fun b hb => ?_, hC'.isExt (trans_ext hw hx1) HF.out⟩, by simp [intOf]; omega⟩
      have hzw := size_of_ext hw
      rcases hF' b hb with h | h | h
      · exact HF.out b h
      · have := hF1 b h; omega
      · omega
    · rw [List.take_of_length_le (by omega)] at hS
      go_wp2
      go_ret
      exact ⟨_, F, rfl, hw, hS, HN.out, HF.out⟩
set_option maxHeartbeats 1000000 in
theorem copyRelation_any {z : Int} {A : Option Addr} {c : Nat} {rows : List (List Int)} {w : World} (hx : rows.length ≤ 1000000000) (hxl : ∀ x ∈ rows, x.length ≤ 1000000000) (h1 : RII w A rows) :
    Calls Try.prog 93 #[.agg #[.int .i64 z, .slice A rows.length c]] w fun e w' => ∃ v0 v1 F, e = .returned (.agg #[v0, v1]) ∧ (∃ y, w' = ext w y) ∧ sRel w' [v0, v1] (z, rows) F ∧ F.Nodup ∧ ∀ b ∈ F, w.heap.size ≤ b := by
  have Hxl := Lib.hid hxl
  clear hxl
  go_enter Try.func93, Try.ntmps93
  go_upto_region 1 with fail
  refine wp_name ?_
  intro w0 hw0
  have hx0 : ∃ y, w0 = ext w y := by rw [hw0.out]; exact (by refine Chg.isExt (F := []) ?_ (refl_ext _) (by simp); repeat (with_reducible (first | exact Chg.refl _ _ | exact Nat.le_refl _ | exact Chg.ofExt (by assumption) | refine Chg.trans0 ?_ (by assumption) | refine Chg.extS ?_ _ | refine Chg.alloc ?_ _ | refine Chg.drew ?_ | refine Chg.setCellE ?_ ?_ _ | refine le_addk ?_ _ | refine le_ext ?_ | refine le_alloc ?_ _ | refine le_setC ?_ _ _ | refine le_drew ?_ | assumption | (refine Nat.le_of_lt ?_; omega) | omega)))
  have P0 : BoxAt w0 w.heap.size #[.int .i64 z, .slice A rows.length c] := by rw [hw0.out]; exact (by repeat (with_reducible (first | assumption | exact BoxAt.new _ _ _ | apply BoxAt.set2 | refine BoxAt.set2' ?_ (by omega) | apply BoxAt.setP0 | apply BoxAt.setP1 | refine BoxAt.setO ?_ (by omega) | refine BoxAt.alloc ?_ _ | refine BoxAt.drew ?_ | refine BoxAt.toExt ?_ (by assumption))))
  have R0 : BoxAt w0 (w.heap.size + 1) #[.int .i64 0, .slice none 0 0] := by
    rw [hw0.out]
    simpa using BoxAt.new (w.alloc (.cells #[.int .i64 z, .slice A rows.length c] 39)) #[.int .i64 0, .slice none 0 0] 39
  obtain ⟨l0, k0, k0', f0⟩ := bx2 P0
  obtain ⟨m0, n0, n0', g0⟩ := bx2 R0
  have hz0 := size_of_ext hx0
  clear hw0
  go_region_held3 (fun w' => w'.cell? ⟨w.heap.size, 0, none⟩ = some (.int .i64 z) ∧ w'.cell? ⟨w.heap.size, 1, none⟩ = some (.slice A rows.length c)) (first | go_keep | exact ⟨k1, k1'⟩) ((go_at_call 173; refine (copyRows_any hx Hxl.out (h1.toExt (by refine Chg.isExt (F := []) ?_ (refl_ext _) (by simp); repeat (with_reducible (first | exact Chg.refl _ _ | exact Nat.le_refl _ | exact Chg.ofExt (by assumption) | refine Chg.trans0 ?_ (by assumption) | refine Chg.extS ?_ _ | refine Chg.alloc ?_ _ | refine Chg.drew ?_ | refine Chg.setCellE ?_ ?_ _ | refine le_addk ?_ _ | refine le_ext ?_ | refine le_alloc ?_ _ | refine le_setC ?_ _ _ | refine le_drew ?_ | assumption | (refine Nat.le_of_lt ?_; omega) | omega))))).mono ?_; rintro e w1 ⟨v1, F1, rfl, hx1, hS1, hN1, hF1⟩; obtain ⟨A1, c1, rfl, _, _⟩ := hS1.form; obtain ⟨l1, k1, k1', f1⟩ := bx2 (P0.drew.toExt hx1); obtain ⟨m1, n1, n1', g1⟩ := bx2 (R0.drew.toExt hx1)))
  go_wp2_with fail
  have hz1 := size_of_ext hx1
  refine bodyPost_ret (v := .agg #[.int .i64 z, .slice A1 rows.length c1]) (by simp [results, Try.results93, go_sem, *]) rfl ⟨_, _, F1, rfl, (by refine Chg.isExt (F := []) ?_ (refl_ext _) (by simp); repeat (with_reducible (first | exact Chg.refl _ _ | exact Nat.le_refl _ | exact Chg.ofExt (by assumption) | refine Chg.trans0 ?_ (by assumption) | refine Chg.extS ?_ _ | refine Chg.alloc ?_ _ | refine Chg.drew ?_ | refine Chg.setCellE ?_ ?_ _ | refine le_addk ?_ _ | refine le_ext ?_ | refine le_alloc ?_ _ | refine le_setC ?_ _ _ | refine le_drew ?_ | assumption | (refine Nat.le_of_lt ?_; omega) | omega))), sRel_mk (OD.chg (E := sII) (G := [w.heap.size + 1]) ⟨_, rfl, hS1⟩ (by repeat (with_reducible (first | exact Chg.refl _ _ | refine Chg.trans0 ?_ (by assumption) | refine Chg.extS ?_ _ | refine Chg.alloc ?_ _ | refine Chg.drew ?_ | refine Chg.setCell ?_ (.inl (by simp)) _))) ?_), hN1, ?_⟩
  · intro b hb h
    have := hF1 b hb
    simp at h this
    omega
  · intro b hb
    have := hF1 b hb
    simp at this
    omega
end Go.Proofs.Ytfigcfajkilhiaa

/- Ascending lists united by the program; numbers struck from a list. -/
namespace Go.Proofs.Ytfigcfajkilhiaa
open Go.RowKit

theorem copyInts_n {A : Option Addr} {c m : Nat} {xs : List Int} {w : World} (hm : xs.length = m) (hx : m ≤ 1000000000) (hA : A = none → c = 0) (h1 : RI w A xs) :
    Calls Try.prog 114 #[.slice A m c] w fun e w' => ∃ v F, e = .returned v ∧ (∃ y, w' = ext w y) ∧ SV 3 1 sI w' v xs F ∧ ∀ b ∈ F, w.heap.size ≤ b := by
  subst hm
  have hS0 := SV.empty (α := Int) (te := 3) (size := 1) (E := sI) w
  have HA := Lib.hid hA
  clear hA
  go_enter Try.func114, Try.ntmps114
  go_wp2_with (at_builtin; refine wpList_appL (E := sI) (V := vI) (es := xs) rfl _ _ _ rfl tI rfl hS0 rfl HA.out (h1.toExt (by refine Chg.isExt (F := []) ?_ (refl_ext _) (by simp); repeat (with_reducible (first | exact Chg.refl _ _ | exact Nat.le_refl _ | exact Chg.ofExt (by assumption) | refine Chg.trans0 ?_ (by assumption) | refine Chg.extS ?_ _ | refine Chg.alloc ?_ _ | refine Chg.drew ?_ | refine Chg.setCellE ?_ ?_ _ | refine le_addk ?_ _ | refine le_ext ?_ | refine le_alloc ?_ _ | refine le_setC ?_ _ _ | refine le_drew ?_ | assumption | (refine Nat.le_of_lt ?_; omega) | omega)))) vI_s vI_1 (by simp; omega) (by omega) ?_; intro v' w' F' hS hC hF)
  go_ret
  exact ⟨_, F', rfl, hC.isExt (by refine Chg.isExt (F := []) ?_ (refl_ext _) (by simp); repeat (with_reducible (first | exact Chg.refl _ _ | exact Nat.le_refl _ | exact Chg.ofExt (by assumption) | refine Chg.trans0 ?_ (by assumption) | refine Chg.extS ?_ _ | refine Chg.alloc ?_ _ | refine Chg.drew ?_ | refine Chg.setCellE ?_ ?_ _ | refine le_addk ?_ _ | refine le_ext ?_ | refine le_alloc ?_ _ | refine le_setC ?_ _ _ | refine le_drew ?_ | assumption | (refine Nat.le_of_lt ?_; omega) | omega))) (by simp), by simpa using hS, fun b hb => by
    rcases hF b hb with h | h
    · simp at h; omega
    · simp at h; omega⟩
theorem RV.from {α : Type} {size : Nat} {E : VE α} {w : World} {A A' : Option Addr} {ds : List α} (h : RV size E w A ds) {q : Nat} (hA : ∀ b o, A = some ⟨b, o, none⟩ → q < ds.length → A' = some ⟨b, o + q * size, none⟩) : RV size E w A' (ds.drop q) := by
  by_cases hq : q ≤ ds.length
  · have := h.cut (lo := q) (hi := ds.length) hq (Nat.le_refl _) (A' := A') hA
    rwa [List.take_of_length_le (Nat.le_refl _)] at this
  · rw [List.drop_eq_nil_of_le (by omega)]
    exact RV.nil
theorem SV.place {α : Type} {te size : Nat} {E : SE α} {w : World} {A : Option Addr} {n c : Nat} {ds : List α} {F : List Nat} (h : SV te size E w (.slice A n c) ds F) : A = none ∧ c = 0 ∨ ∃ g, A = some ⟨g, 0, none⟩ := by
  obtain ⟨vs, F2, h1, _, _⟩ := h
  rcases h1.2 with ⟨h2, _⟩ | ⟨g, cap, cur, h2, _⟩
  · injection h2 with e1 e2 e3
    exact .inl ⟨e1, e3⟩
  · injection h2 with e1 e2 e3
    exact .inr ⟨g, e1⟩
theorem insS_put {n : Int} {l : List Int} {q : Nat} (hq : insK n l = q) (h : ∀ h : q < l.length, l[q] ≠ n) : insS n l = l.take q ++ [n] ++ l.drop q := by
  unfold insS
  rw [hq, if_neg]
  intro e
  by_cases hl : q < l.length
  · rw [List.drop_eq_getElem_cons hl, List.head?_cons] at e
    injection e with e
    exact h hl e
  · rw [List.drop_eq_nil_of_le (by omega)] at e
    simp at e
theorem insS_hit {n : Int} {l : List Int} {q : Nat} (hq : insK n l = q) (hl : q < l.length) (h : l[q] = n) : insS n l = l := by
  unfold insS
  rw [hq, if_pos]
  rw [List.drop_eq_getElem_cons hl, h]
  rfl
set_option maxRecDepth 100000 in
set_option maxHeartbeats 8000000 in
theorem unite_v {A A' : Option Addr} {c c' : Nat} {xs ys : List Int} {w : World} (hx : xs.length ≤ 100000000) (h1 : RI w A xs) (hy : ys.length ≤ 100000000) (h2 : RI w A' ys) :
    Calls Try.prog 115 #[.slice A xs.length c, .slice A' ys.length c'] w fun e w' => ∃ v F, e = .returned v ∧ (∃ y, w' = ext w y) ∧ SV 3 1 sI w' v (uniL xs ys) F ∧ ∀ b ∈ F, w.heap.size ≤ b := by
  go_enter Try.func115, Try.ntmps115
  go_wp2_with (go_at_call 114; refine (copyInts_v (by omega) h1).mono ?_; rintro e w1 ⟨v1, F1, rfl, hx1, hS1, hF1⟩)
  go_loopw [5, 13] (fun v i wr => ∃ (k : Nat) (F : List Nat), i = .int .i64 k ∧ k ≤ ys.length ∧ SV 3 1 sI wr v (uniL xs (ys.take k)) F ∧ (∀ b ∈ F, w.heap.size ≤ b) ∧ (∃ y, wr = ext w y)) (fun _ i _ => ys.length - (intOf i).toNat)
  case atStart => exact ⟨0, F1, rfl, by omega, by simpa [uniL] using hS1, hF1, hx1⟩
  case round =>
    obtain ⟨k, F, rfl, hk, hS, hF, hw⟩ := hrel
    have HF := Lib.hid hF
    have HF1 := Lib.hid hF1
    clear hF hF1 hS1
    by_cases hlt : k < ys.length
    · obtain ⟨b, o, rfl, hb, hc⟩ := (h2.toExt hw).atI hlt
      have hlen : (uniL xs (ys.take k)).length ≤ 200000000 := by
        have := uniL_length (ys.take k) xs
        simp at this
        omega
      have Hst := Lib.hid (uniL_step (a := xs) hlt)
      obtain ⟨ds, hds⟩ : ∃ ds, uniL xs (ys.take k) = ds := ⟨_, rfl⟩
      obtain ⟨n, hn⟩ : ∃ n, ys[k] = n := ⟨_, rfl⟩
      rw [hds] at hS hlen
      rw [hn] at hc
      have Hds : Hid (uniL xs (ys.take (k + 1)) = insS n ds) := Lib.hid (by rw [Hst.out, hds, hn])
      clear hds hn Hst
      obtain ⟨A1, c1, rfl, hc1, _, hV⟩ := hS.view sI_v
      have Hcap := Lib.hid (fun h : A1 = none => hS.cap0 h)
      have hSlt := Lib.hid hS.lt
      go_wp2
      go_loop [8] (fun j => ∃ q : Nat, j = .int .i64 q ∧ q ≤ ds.length ∧ q + insK n (ds.drop q) = insK n ds) (fun j => ds.length - (intOf j).toNat)
      case atStart => exact ⟨0, rfl, by omega, by simp⟩
      case round =>
        obtain ⟨q, rfl, hq, hj⟩ := hrel
        have Hj := Lib.hid hj
        clear hj
        have HQ := Lib.hid (show (ds.take q).length = q by simp; omega)
        have q0 : (0 : Int) ≤ (q : Int) := by omega
        have q1 : (q : Int) ≤ (ds.length : Int) := by omega
        have q2 : (q : Int) ≤ (c1 : Int) := by omega
        by_cases hql : q < ds.length
        · obtain ⟨b2, o2, rfl, hb2, hc2⟩ := hV.atI hql
          by_cases hlt2 : ds[q] < n
          · have e := Hj.out
            rw [insK_step hql hlt2] at e
            have He := Lib.hid e
            clear e
            go_wp2
            exact ⟨⟨q + 1, by go_num, by omega, He.out⟩, by simp [intOf]; omega⟩
          · have e := Hj.out
            rw [insK_hit hql hlt2] at e
            have He := Lib.hid e.symm
            clear e
            by_cases he : ds[q] = n
            · have hb3 : (ds[q] != n) = false := by simpa using he
              have HI := Lib.hid (insS_hit He.out hql he)
              clear he
              go_wp2
              exact ⟨⟨k + 1, F, by go_num, by omega, by rw [Hds.out, HI.out]; exact hS, HF.out, hw⟩, by simp [intOf]; omega⟩
            · have hb3 : (ds[q] != n) = true := by simpa using he
              have HI := Lib.hid (insS_put He.out fun _ => he)
              have hne : ¬ c1 = q := by omega
              have HD := Lib.hid (show ds.length - q = (ds.drop q).length by simp)
              clear he
              go_wp2
              go_region_held3 (fun _ => True) (trivial)
                (first
                  | (go_at_call 114; refine (copyInts_n HQ.out (by omega) Hcap.out ((hV.pre q).toExt (by refine Chg.isExt (F := []) ?_ (refl_ext _) (by simp); repeat (with_reducible (first | exact Chg.refl _ _ | exact Nat.le_refl _ | exact Chg.ofExt (by assumption) | refine Chg.trans0 ?_ (by assumption) | refine Chg.extS ?_ _ | refine Chg.alloc ?_ _ | refine Chg.drew ?_ | refine Chg.setCellE ?_ ?_ _ | refine le_addk ?_ _ | refine le_ext ?_ | refine le_alloc ?_ _ | refine le_setC ?_ _ _ | refine le_drew ?_ | assumption | (refine Nat.le_of_lt ?_; omega) | omega))))).mono ?_; rintro e w2 ⟨v2, F2, rfl, hx2, hS2, hF2⟩)
                  | (refine step_appL (E := sI) (V := vI) (es := [n]) (by rfl) _ _ _ (by rfl) tI (by rfl) (hS2.toExt (by refine Chg.isExt (F := []) ?_ (refl_ext _) (by simp); repeat (with_reducible (first | exact Chg.refl _ _ | exact Nat.le_refl _ | exact Chg.ofExt (by assumption) | refine Chg.trans0 ?_ (by assumption) | refine Chg.extS ?_ _ | refine Chg.alloc ?_ _ | refine Chg.drew ?_ | refine Chg.setCellE ?_ ?_ _ | refine le_addk ?_ _ | refine le_ext ?_ | refine le_alloc ?_ _ | refine le_setC ?_ _ _ | refine le_drew ?_ | assumption | (refine Nat.le_of_lt ?_; omega) | omega)))) (by rfl) (by rfl) (fun h => by cases h) (RI.one (by repeat (with_reducible (first | assumption | exact BoxAt.new _ _ _ | apply BoxAt.set2 | refine BoxAt.set2' ?_ (by omega) | apply BoxAt.setP0 | apply BoxAt.setP1 | refine BoxAt.setO ?_ (by omega) | refine BoxAt.alloc ?_ _ | refine BoxAt.drew ?_ | refine BoxAt.toExt ?_ (by assumption))))) vI_s vI_1 (by rw [HQ.out]; omega) (by omega) ?_; intro v3 w3 F3 hS3 hC3 hF3)
                  | (refine step_appL (E := sI) (V := vI) (es := ds.drop q) (by rfl) _ _ _ (by rfl) tI (by rfl) hS3 (by rfl) HD.out (fun h => by cases h) (SV.toView ((hS.toExt (by refine Chg.isExt (F := []) ?_ (refl_ext _) (by simp); repeat (with_reducible (first | exact Chg.refl _ _ | exact Nat.le_refl _ | exact Chg.ofExt (by assumption) | refine Chg.trans0 ?_ (by assumption) | refine Chg.extS ?_ _ | refine Chg.alloc ?_ _ | refine Chg.drew ?_ | refine Chg.setCellE ?_ ?_ _ | refine le_addk ?_ _ | refine le_ext ?_ | refine le_alloc ?_ _ | refine le_setC ?_ _ _ | refine le_drew ?_ | assumption | (refine Nat.le_of_lt ?_; omega) | omega)))).chg hC3 (fun b hb hb2 => by have l1 := hSlt.out b hb; have l2 := hF2 b hb2; have l3 := size_of_ext (w0 := wr) (w := wr) (refl_ext _); simp at l2; omega)) sI_v |>.from (fun b o e _ => by injection e with e; injection e with e1 e2; subst e1 e2; simp)) vI_s vI_1 (by simp; omega) (by omega) ?_; intro v4 w4 F4 hS4 hC4 hF4))
              all_goals
                go_wp2
                have n2 : ∀ b ∈ F2, wr.heap.size ≤ b := fun b hb => Nat.le_trans (size_of_ext (by refine Chg.isExt (F := []) ?_ (refl_ext _) (by simp); repeat (with_reducible (first | exact Chg.refl _ _ | exact Nat.le_refl _ | exact Chg.ofExt (by assumption) | refine Chg.trans0 ?_ (by assumption) | refine Chg.extS ?_ _ | refine Chg.alloc ?_ _ | refine Chg.drew ?_ | refine Chg.setCellE ?_ ?_ _ | refine le_addk ?_ _ | refine le_ext ?_ | refine le_alloc ?_ _ | refine le_setC ?_ _ _ | refine le_drew ?_ | assumption | (refine Nat.le_of_lt ?_; omega) | omega)))) (hF2 b hb)
                have n3 : ∀ b ∈ F3, wr.heap.size ≤ b := newer n2 (size_of_ext (by refine Chg.isExt (F := []) ?_ (refl_ext _) (by simp); repeat (with_reducible (first | exact Chg.refl _ _ | exact Nat.le_refl _ | exact Chg.ofExt (by assumption) | refine Chg.trans0 ?_ (by assumption) | refine Chg.extS ?_ _ | refine Chg.alloc ?_ _ | refine Chg.drew ?_ | refine Chg.setCellE ?_ ?_ _ | refine le_addk ?_ _ | refine le_ext ?_ | refine le_alloc ?_ _ | refine le_setC ?_ _ _ | refine le_drew ?_ | assumption | (refine Nat.le_of_lt ?_; omega) | omega)))) hF3
                have hx3 : ∃ y, w3 = ext wr y := hC3.isExt (by refine Chg.isExt (F := []) ?_ (refl_ext _) (by simp); repeat (with_reducible (first | exact Chg.refl _ _ | exact Nat.le_refl _ | exact Chg.ofExt (by assumption) | refine Chg.trans0 ?_ (by assumption) | refine Chg.extS ?_ _ | refine Chg.alloc ?_ _ | refine Chg.drew ?_ | refine Chg.setCellE ?_ ?_ _ | refine le_addk ?_ _ | refine le_ext ?_ | refine le_alloc ?_ _ | refine le_setC ?_ _ _ | refine le_drew ?_ | assumption | (refine Nat.le_of_lt ?_; omega) | omega))) n2
                have hx4 : ∃ y, w4 = ext wr y := hC4.isExt hx3 n3
                have n4 := newer n3 (size_of_ext hx3) hF4
                exact ⟨⟨k + 1, F4, by go_num, by omega, by rw [Hds.out, HI.out]; exact hS4, fun b hb => Nat.le_trans (size_of_ext hw) (n4 b hb), trans_ext hw hx4⟩, by simp [intOf]; omega⟩
        · obtain rfl : q = ds.length := by omega
          have e := Hj.out
          rw [insK_end hql] at e
          have He := Lib.hid e.symm
          have HI := Lib.hid (insS_put He.out fun h => absurd h hql)
          have HD := Lib.hid (show 0 = (ds.drop ds.length).length by simp)
          clear e
          by_cases hcq : c1 = ds.length
          · subst hcq
            go_wp2
            go_region_held3 (fun _ => True) (trivial)
              (first
                | (go_at_call 114; refine (copyInts_n HQ.out (by omega) Hcap.out ((hV.pre ds.length).toExt (by refine Chg.isExt (F := []) ?_ (refl_ext _) (by simp); repeat (with_reducible (first | exact Chg.refl _ _ | exact Nat.le_refl _ | exact Chg.ofExt (by assumption) | refine Chg.trans0 ?_ (by assumption) | refine Chg.extS ?_ _ | refine Chg.alloc ?_ _ | refine Chg.drew ?_ | refine Chg.setCellE ?_ ?_ _ | refine le_addk ?_ _ | refine le_ext ?_ | refine le_alloc ?_ _ | refine le_setC ?_ _ _ | refine le_drew ?_ | assumption | (refine Nat.le_of_lt ?_; omega) | omega))))).mono ?_; rintro e w2 ⟨v2, F2, rfl, hx2, hS2, hF2⟩)
                | (refine step_appL (E := sI) (V := vI) (es := [n]) (by rfl) _ _ _ (by rfl) tI (by rfl) (hS2.toExt (by refine Chg.isExt (F := []) ?_ (refl_ext _) (by simp); repeat (with_reducible (first | exact Chg.refl _ _ | exact Nat.le_refl _ | exact Chg.ofExt (by assumption) | refine Chg.trans0 ?_ (by assumption) | refine Chg.extS ?_ _ | refine Chg.alloc ?_ _ | refine Chg.drew ?_ | refine Chg.setCellE ?_ ?_ _ | refine le_addk ?_ _ | refine le_ext ?_ | refine le_alloc ?_ _ | refine le_setC ?_ _ _ | refine le_drew ?_ | assumption | (refine Nat.le_of_lt ?_; omega) | omega)))) (by rfl) (by rfl) (fun h => by cases h) (RI.one (by repeat (with_reducible (first | assumption | exact BoxAt.new _ _ _ | apply BoxAt.set2 | refine BoxAt.set2' ?_ (by omega) | apply BoxAt.setP0 | apply BoxAt.setP1 | refine BoxAt.setO ?_ (by omega) | refine BoxAt.alloc ?_ _ | refine BoxAt.drew ?_ | refine BoxAt.toExt ?_ (by assumption))))) vI_s vI_1 (by rw [HQ.out]; omega) (by omega) ?_; intro v3 w3 F3 hS3 hC3 hF3)
                | (refine step_appL (E := sI) (V := vI) (es := ds.drop ds.length) (by rfl) _ _ _ (by rfl) tI (by rfl) hS3 (by rfl) HD.out (fun h => by have := Hcap.out h; omega) (SV.toView ((hS.toExt (by refine Chg.isExt (F := []) ?_ (refl_ext _) (by simp); repeat (with_reducible (first | exact Chg.refl _ _ | exact Nat.le_refl _ | exact Chg.ofExt (by assumption) | refine Chg.trans0 ?_ (by assumption) | refine Chg.extS ?_ _ | refine Chg.alloc ?_ _ | refine Chg.drew ?_ | refine Chg.setCellE ?_ ?_ _ | refine le_addk ?_ _ | refine le_ext ?_ | refine le_alloc ?_ _ | refine le_setC ?_ _ _ | refine le_drew ?_ | assumption | (refine Nat.le_of_lt ?_; omega) | omega)))).chg hC3 (fun b hb hb2 => by have l1 := hSlt.out b hb; have l2 := hF2 b hb2; have l3 := size_of_ext (w0 := wr) (w := wr) (refl_ext _); simp at l2; omega)) sI_v |>.from (fun b o e h => absurd h (by omega))) vI_s vI_1 (by simp; omega) (by omega) ?_; intro v4 w4 F4 hS4 hC4 hF4))
            all_goals
              go_wp2
              have n2 : ∀ b ∈ F2, wr.heap.size ≤ b := fun b hb => Nat.le_trans (size_of_ext (by refine Chg.isExt (F := []) ?_ (refl_ext _) (by simp); repeat (with_reducible (first | exact Chg.refl _ _ | exact Nat.le_refl _ | exact Chg.ofExt (by assumption) | refine Chg.trans0 ?_ (by assumption) | refine Chg.extS ?_ _ | refine Chg.alloc ?_ _ | refine Chg.drew ?_ | refine Chg.setCellE ?_ ?_ _ | refine le_addk ?_ _ | refine le_ext ?_ | refine le_alloc ?_ _ | refine le_setC ?_ _ _ | refine le_drew ?_ | assumption | (refine Nat.le_of_lt ?_; omega) | omega)))) (hF2 b hb)
              have n3 : ∀ b ∈ F3, wr.heap.size ≤ b := newer n2 (size_of_ext (by refine Chg.isExt (F := []) ?_ (refl_ext _) (by simp); repeat (with_reducible (first | exact Chg.refl _ _ | exact Nat.le_refl _ | exact Chg.ofExt (by assumption) | refine Chg.trans0 ?_ (by assumption) | refine Chg.extS ?_ _ | refine Chg.alloc ?_ _ | refine Chg.drew ?_ | refine Chg.setCellE ?_ ?_ _ | refine le_addk ?_ _ | refine le_ext ?_ | refine le_alloc ?_ _ | refine le_setC ?_ _ _ | refine le_drew ?_ | assumption | (refine Nat.le_of_lt ?_; omega) | omega)))) hF3
              have hx3 : ∃ y, w3 = ext wr y := hC3.isExt (by refine Chg.isExt (F := []) ?_ (refl_ext _) (by simp); repeat (with_reducible (first | exact Chg.refl _ _ | exact Nat.le_refl _ | exact Chg.ofExt (by assumption) | refine Chg.trans0 ?_ (by assumption) | refine Chg.extS ?_ _ | refine Chg.alloc ?_ _ | refine Chg.drew ?_ | refine Chg.setCellE ?_ ?_ _ | refine le_addk ?_ _ | refine le_ext ?_ | refine le_alloc ?_ _ | refine le_setC ?_ _ _ | refine le_drew ?_ | assumption | (refine Nat.le_of_lt ?_; omega) | omega))) n2
              have hx4 : ∃ y, w4 = ext wr y := hC4.isExt hx3 n3
              have n4 := newer n3 (size_of_ext hx3) hF4
              exact ⟨⟨k + 1, F4, by go_num, by omega, by rw [Hds.out, HI.out]; exact hS4, fun b hb => Nat.le_trans (size_of_ext hw) (n4 b hb), trans_ext hw hx4⟩, by simp [intOf]; omega⟩
          · obtain ⟨g, rfl⟩ : ∃ g, A1 = some ⟨g, 0, none⟩ := by
              rcases hS.place with ⟨_, h⟩ | h
              · omega
              · exact h
            have hc3 : ¬ c1 - ds.length = 0 := by omega
            go_wp2
            go_region_held3 (fun _ => True) (trivial)
              (first
                | (go_at_call 114; refine (copyInts_n HQ.out (by omega) Hcap.out ((hV.pre ds.length).toExt (by refine Chg.isExt (F := []) ?_ (refl_ext _) (by simp); repeat (with_reducible (first | exact Chg.refl _ _ | exact Nat.le_refl _ | exact Chg.ofExt (by assumption) | refine Chg.trans0 ?_ (by assumption) | refine Chg.extS ?_ _ | refine Chg.alloc ?_ _ | refine Chg.drew ?_ | refine Chg.setCellE ?_ ?_ _ | refine le_addk ?_ _ | refine le_ext ?_ | refine le_alloc ?_ _ | refine le_setC ?_ _ _ | refine le_drew ?_ | assumption | (refine Nat.le_of_lt ?_; omega) | omega))))).mono ?_; rintro e w2 ⟨v2, F2, rfl, hx2, hS2, hF2⟩)
                | (refine step_appL (E := sI) (V := vI) (es := [n]) (by rfl) _ _ _ (by rfl) tI (by rfl) (hS2.toExt (by refine Chg.isExt (F := []) ?_ (refl_ext _) (by simp); repeat (with_reducible (first | exact Chg.refl _ _ | exact Nat.le_refl _ | exact Chg.ofExt (by assumption) | refine Chg.trans0 ?_ (by assumption) | refine Chg.extS ?_ _ | refine Chg.alloc ?_ _ | refine Chg.drew ?_ | refine Chg.setCellE ?_ ?_ _ | refine le_addk ?_ _ | refine le_ext ?_ | refine le_alloc ?_ _ | refine le_setC ?_ _ _ | refine le_drew ?_ | assumption | (refine Nat.le_of_lt ?_; omega) | omega)))) (by rfl) (by rfl) (fun h => by cases h) (RI.one (by repeat (with_reducible (first | assumption | exact BoxAt.new _ _ _ | apply BoxAt.set2 | refine BoxAt.set2' ?_ (by omega) | apply BoxAt.setP0 | apply BoxAt.setP1 | refine BoxAt.setO ?_ (by omega) | refine BoxAt.alloc ?_ _ | refine BoxAt.drew ?_ | refine BoxAt.toExt ?_ (by assumption))))) vI_s vI_1 (by rw [HQ.out]; omega) (by omega) ?_; intro v3 w3 F3 hS3 hC3 hF3)
                | (refine step_appL (E := sI) (V := vI) (es := ds.drop ds.length) (by rfl) _ _ _ (by rfl) tI (by rfl) hS3 (by rfl) HD.out (fun h => by cases h) (SV.toView ((hS.toExt (by refine Chg.isExt (F := []) ?_ (refl_ext _) (by simp); repeat (with_reducible (first | exact Chg.refl _ _ | exact Nat.le_refl _ | exact Chg.ofExt (by assumption) | refine Chg.trans0 ?_ (by assumption) | refine Chg.extS ?_ _ | refine Chg.alloc ?_ _ | refine Chg.drew ?_ | refine Chg.setCellE ?_ ?_ _ | refine le_addk ?_ _ | refine le_ext ?_ | refine le_alloc ?_ _ | refine le_setC ?_ _ _ | refine le_drew ?_ | assumption | (refine Nat.le_of_lt ?_; omega) | omega)))).chg hC3 (fun b hb hb2 => by have l1 := hSlt.out b hb; have l2 := hF2 b hb2; have l3 := size_of_ext (w0 := wr) (w := wr) (refl_ext _); simp at l2; omega)) sI_v |>.from (fun b o e h => absurd h (by omega))) vI_s vI_1 (by simp; omega) (by omega) ?_; intro v4 w4 F4 hS4 hC4 hF4))
            all_goals
              go_wp2
              have n2 : ∀ b ∈ F2, wr.heap.size ≤ b := fun b hb => Nat.le_trans (size_of_ext (by refine Chg.isExt (F := []) ?_ (refl_ext _) (by simp); repeat (with_reducible (first | exact Chg.refl _ _ | exact Nat.le_refl _ | exact Chg.ofExt (by assumption) | refine Chg.trans0 ?_ (by assumption) | refine Chg.extS ?_ _ | refine Chg.alloc ?_ _ | refine Chg.drew ?_ | refine Chg.setCellE ?_ ?_ _ | refine le_addk ?_ _ | refine le_ext ?_ | refine le_alloc ?_ _ | refine le_setC ?_ _ _ | refine le_drew ?_ | assumption | (refine Nat.le_of_lt ?_; omega) | omega)))) (hF2 b hb)
              have n3 : ∀ b ∈ F3, wr.heap.size ≤ b := newer n2 (size_of_ext (by refine Chg.isExt (F := []) ?_ (refl_ext _) (by simp); repeat (with_reducible (first | exact Chg.refl _ _ | exact Nat.le_refl _ | exact Chg.ofExt (by assumption) | refine Chg.trans0 ?_ (by assumption) | refine Chg.extS ?_ _ | refine Chg.alloc ?_ _ | refine Chg.drew ?_ | refine Chg.setCellE ?_ ?_ _ | refine le_addk ?_ _ | refine le_ext ?_ | refine le_alloc ?_ _ | refine le_setC ?_ _ _ | refine le_drew ?_ | assumption | (refine Nat.le_of_lt ?_; omega) | omega)))) hF3
              have hx3 : ∃ y, w3 = ext wr y := hC3.isExt (by refine Chg.isExt (F := []) ?_ (refl_ext _) (by simp); repeat (with_reducible (first | exact Chg.refl _ _ | exact Nat.le_refl _ | exact Chg.ofExt (by assumption) | refine Chg.trans0 ?_ (by assumption) | refine Chg.extS ?_ _ | refine Chg.alloc ?_ _ | refine Chg.drew ?_ | refine Chg.setCellE ?_ ?_ _ | refine le_addk ?_ _ | refine le_ext ?_ | refine le_alloc ?_ _ | refine le_setC ?_ _ _ | refine le_drew ?_ | assumption | (refine Nat.le_of_lt ?_; omega) | omega))) n2
              have hx4 : ∃ y, w4 = ext wr y := hC4.isExt hx3 n3
              have n4 := newer n3 (size_of_ext hx3) hF4
              exact ⟨⟨k + 1, F4, by go_num, by omega, by rw [Hds.out, HI.out]; exact hS4, fun b hb => Nat.le_trans (size_of_ext hw) (n4 b hb), trans_ext hw hx4⟩, by simp [intOf]; omega⟩
    · rw [show ys.take k = ys from List.take_of_length_le (by omega)] at hS
      go_wp2
      go_ret
      exact ⟨_, F, rfl, hw, hS, HF.out⟩
theorem unite_any {A A' : Option Addr} {c c' : Nat} {xs ys : List Int} {w : World} (hx : xs.length ≤ 100000000) (_hA : A = none → c = 0) (h1 : RI w A xs) (hy : ys.length ≤ 100000000) (h2 : RI w A' ys) :
    Calls Try.prog 115 #[.slice A xs.length c, .slice A' ys.length c'] w fun e w' => ∃ v F, e = .returned v ∧ (∃ y, w' = ext w y) ∧ SV 3 1 sI w' v (uniL xs ys) F ∧ ∀ b ∈ F, w.heap.size ≤ b := unite_v hx h1 hy h2
end Go.Proofs.Ytfigcfajkilhiaa
