/- Contracts of functions that the statements reach, joined from several texts: DbOk, Query, ValidQ, FmtQ, Near, BindPl, BindCnt, Draw9, Draw10. -/
import Derived.Test.YtfigcfajkilhiaaE04
import Derived.Test.YtfigcfajkilhiaaE02
import Derived.Deep.RegionLaw
import Derived.Deep.DeepCutAuto
import Derived.Deep.CutBlock
/- When a database is valid: the program's way and the reference's. -/
namespace Go.Proofs.Ytfigcfajkilhiaa
open Go.RowKit

/-- bounds as what only reads asks for them -/
structure WDb (d : Dbd) : Prop where
  n : d.length ≤ 1000000000
  nm : ∀ x ∈ d, x.1.size ≤ 1000000000
  rn : ∀ x ∈ d, x.2.2.length ≤ 1000000000
  rl : ∀ x ∈ d, ∀ r ∈ x.2.2, r.length ≤ 1000000000
theorem BDb.w {d : Dbd} (h : BDb d) : WDb d :=
  ⟨Nat.le_trans h.1.1 (by omega), fun x hx => Nat.le_trans (h.each x hx).1 (by omega), fun x hx => Nat.le_trans (h.each x hx).2.2.1 (by omega), fun x hx => (h.each x hx).2.2.big⟩
theorem db_f {d : Dbd} (h : allN (tOk d) d.length 0 = false) : dbB d = false := by unfold dbB; rw [h, Bool.and_false]
theorem tOk_eq {d : Dbd} {k : Nat} (h : k < d.length) : tOk d k = (nameB d[k].1 && (decide (k = 0) || sLt (d.getD (k - 1) zT).1 d[k].1) && rowsB d[k].2.1 d[k].2.2 && decide (1 ≤ d[k].2.1) && decide (d[k].2.2.length ≤ 16)) := by
  unfold tOk
  rw [getDl _ _ h]
set_option maxRecDepth 100000 in
set_option maxHeartbeats 16000000 in
theorem IsValidDatabase_w {A : Option Addr} {c : Nat} {d : Dbd} {w : World} (hd : WDb d) (h1 : RV 3 vTb w A d) :
    Calls Try.prog 63 #[.agg #[.slice A d.length c]] w fun e w' => e = .returned (.bool (dbB d)) ∧ ∃ y, w' = ext w y := by
  have HD := Lib.hid hd
  have hn := hd.n
  clear hd
  go_enter Try.func63, Try.ntmps63
  go_upto_region 1 with fail
  refine wp_name ?_
  intro W hW
  have xW : ∃ y, W = ext w y := by rw [hW.out]; exact (by refine x'z ?_; repeat (with_reducible (first | exact x'a _ _ | exact x'b _ | exact x'c (by assumption) | refine x'd ?_ (by assumption) | refine x'e ?_ _ | refine x'f ?_ _ | refine x'g ?_ | refine x'h ?_ ?_ _ | refine x'i ?_ _ | refine x'j ?_ | refine x'k ?_ _ | refine x'l ?_ _ _ | refine x'm ?_ | assumption | (refine x'n ?_; omega) | omega)))
  have PW : BoxAt W w.heap.size #[.slice A d.length c] := by rw [hW.out]; exact (by repeat (with_reducible (first | assumption | exact BoxAt.new _ _ _ | apply BoxAt.set10 | apply BoxAt.set2 | refine BoxAt.set2' ?_ (by omega) | apply BoxAt.setP0 | apply BoxAt.setP1 | refine BoxAt.setO ?_ (by omega) | refine BoxAt.alloc ?_ _ | refine BoxAt.drew ?_ | refine BoxAt.toExt ?_ (by assumption))))
  obtain ⟨lp, p0, fp⟩ := bx1 PW
  clear hW
  by_cases h6 : d.length ≤ 6
  · have HE2 := Lib.hid (show dbB d = allN (tOk d) d.length 0 by unfold dbB; rw [decide_eq_true h6, Bool.true_and])
    have h7 : ¬ 6 < d.length := by omega
    go_wp2_with fail
    clear lp p0 fp
    go_loopw [12] (fun i wr => ∃ k : Nat, i = .int .i64 k ∧ k ≤ d.length ∧ (∃ y, wr = ext W y) ∧ Hid (allN (tOk d) (d.length - k) k = allN (tOk d) d.length 0)) (fun i _ => d.length - (intOf i).toNat)
    case atStart => exact ⟨0, rfl, by omega, refl_ext W, Lib.hid rfl⟩
    case round =>
      obtain ⟨k, rfl, hk, hy, Hj⟩ := hrel
      have hyw := trans_ext xW hy
      obtain ⟨l1, a1, f1⟩ := bx1 (PW.toExt hy)
      by_cases hlt : k < d.length
      · obtain ⟨b, o, A1, c1, rfl, hb, hc, hc1, hc2, hvx⟩ := (h1.toExt hyw).atT hlt
        have lx1 := HD.out.nm _ (List.getElem_mem hlt)
        have lx2 := HD.out.rn _ (List.getElem_mem hlt)
        have HXL := Lib.hid (HD.out.rl _ (List.getElem_mem hlt))
        have e := Hj.out
        rw [allN_step hlt, tOk_eq hlt] at e
        have hvr0 := (vII_get (vRel_get hvx).2).2
        obtain ⟨x, hx⟩ : ∃ x, d[k] = x := ⟨_, rfl⟩
        rw [hx] at e hc hc1 hc2 lx1 lx2 HXL hvr0
        obtain ⟨t3, ht3⟩ : ∃ t, nameB x.1 = t := ⟨_, rfl⟩
        obtain ⟨t4, ht4⟩ : ∃ t, rowsB x.2.1 x.2.2 = t := ⟨_, rfl⟩
        rw [ht3, ht4] at e
        have N3 := Lib.hid ht3
        have N4 := Lib.hid ht4
        have HPV : Hid (∀ _ : 0 < k, ∃ pn, (d.getD (k - 1) zT).1 = pn ∧ wr.cell? ⟨b, o + (k - 1) * 3, none⟩ = some (.string pn)) := Lib.hid (fun h0 => by
          obtain ⟨b', o', _, _, e1, _, h2, _⟩ := (h1.toExt hyw).atT (k := k - 1) (by omega)
          injection e1 with e1
          injection e1 with e1 e2 _
          subst e1 e2
          exact ⟨_, by rw [getDl _ _ (show k - 1 < d.length by omega)], h2⟩)
        clear hx hvx ht3 ht4
        go_upto_region 6 with fail
        refine wp_name ?_
        intro W2 hW2
        have xW2 : ∃ y, W2 = ext wr y := by rw [hW2.out]; exact (by refine x'z ?_; repeat (with_reducible (first | exact x'a _ _ | exact x'b _ | exact x'c (by assumption) | refine x'd ?_ (by assumption) | refine x'e ?_ _ | refine x'f ?_ _ | refine x'g ?_ | refine x'h ?_ ?_ _ | refine x'i ?_ _ | refine x'j ?_ | refine x'k ?_ _ | refine x'l ?_ _ _ | refine x'm ?_ | assumption | (refine x'n ?_; omega) | omega)))
        have T2 : BoxAt W2 wr.heap.size #[.string x.1, .int .i64 x.2.1, .slice A1 x.2.2.length c1] := by rw [hW2.out]; exact (by repeat (with_reducible (first | assumption | exact BoxAt.new _ _ _ | apply BoxAt.set3 | refine BoxAt.set3' ?_ (by omega) | apply BoxAt.set30 | apply BoxAt.set31 | apply BoxAt.set32 | apply BoxAt.set2 | refine BoxAt.set2' ?_ (by omega) | apply BoxAt.setP0 | apply BoxAt.setP1 | refine BoxAt.setO ?_ (by omega) | refine BoxAt.alloc ?_ _ | refine BoxAt.drew ?_ | refine BoxAt.toExt ?_ (by assumption))))
        have hy2 := trans_ext hy xW2
        have hw2 := trans_ext hyw xW2
        have hvr := hvr0.toExt xW2
        obtain ⟨l2, a2, a3, a4, f2⟩ := box3 T2
        obtain ⟨lp2, p2, fp2⟩ := bx1 (PW.toExt hy2)
        have hb2 := ltW xW2 hb
        clear hW2 hc hc1 hc2 l1 a1 f1
        cases t3 with
        | false =>
          have HF := Lib.hid (db_f (d := d) (by rw [← e]; simp))
          clear e
          refine wp_region_ext (by kernel_rfl) (by kernel_rfl) ?_
          repeat (go_big_quiet_step (first
            | (go_at_call 144; exact quietSb (IsValidName_any lx1) N3.out)
            | (go_at_call 122; exact quietEb (IsValidRelation_w lx2 HXL.out hvr.ext) N4.out)))
          refine wpQuiet_nil ?_
          rintro _ ⟨zz, rfl⟩
          go_wp2
          go_ret
          exact ⟨by rw [HF.out]; rfl, trans_ext hw2 ⟨_, rfl⟩⟩
        | true =>
          by_cases hk0 : 0 < k
          · obtain ⟨pn, hpn, hcp⟩ := HPV.out hk0
            have hcp2 := cellW xW2 hb hcp
            rw [hpn, decide_eq_false (show ¬ k = 0 by omega)] at e
            unfold sLt at e
            have k1 : (0 : Int) < (k : Int) := by omega
            have s0 : (0 : Int) ≤ (k : Int) - 1 := by omega
            have s1 : IntKind.i64.wrap ((k : Int) - 1) = (k : Int) - 1 := IntWalk.i64_in _ (by omega)
            have s2 : ((k : Int) - 1).toNat = k - 1 := by omega
            have s3 : (k : Int) - 1 < (d.length : Int) := by omega
            obtain ⟨t5, ht5⟩ : ∃ t, Op.bytesLess pn.toList x.1.toList = t := ⟨_, rfl⟩
            rw [ht5] at e
            clear hpn hcp
            cases t5 with
            | false =>
              have HF := Lib.hid (db_f (d := d) (by rw [← e]; simp))
              clear e
              refine wp_region_ext (by kernel_rfl) (by kernel_rfl) ?_
              repeat (go_big_quiet_step (first
                | (go_at_call 144; exact quietSb (IsValidName_any lx1) N3.out)
                | (go_at_call 122; exact quietEb (IsValidRelation_w lx2 HXL.out hvr.ext) N4.out)))
              refine wpQuiet_nil ?_
              rintro _ ⟨zz, rfl⟩
              go_wp2
              go_ret
              exact ⟨by rw [HF.out]; rfl, trans_ext hw2 ⟨_, rfl⟩⟩
            | true =>
              cases t4 with
              | false =>
                have HF := Lib.hid (db_f (d := d) (by rw [← e]; simp))
                clear e
                refine wp_region_ext (by kernel_rfl) (by kernel_rfl) ?_
                repeat (go_big_quiet_step (first
                  | (go_at_call 144; exact quietSb (IsValidName_any lx1) N3.out)
                  | (go_at_call 122; exact quietEb (IsValidRelation_w lx2 HXL.out hvr.ext) N4.out)))
                refine wpQuiet_nil ?_
                rintro _ ⟨zz, rfl⟩
                go_wp2
                go_ret
                exact ⟨by rw [HF.out]; rfl, trans_ext hw2 ⟨_, rfl⟩⟩
              | true =>
                by_cases ha : 1 ≤ x.2.1
                · rw [decide_eq_true ha] at e
                  have ha2 : ¬ x.2.1 < 1 := by omega
                  by_cases h16 : x.2.2.length ≤ 16
                  · rw [decide_eq_true h16] at e
                    have h17 : ¬ (16 : Int) < (x.2.2.length : Int) := by omega
                    have HK := Lib.hid (show allN (tOk d) (d.length - (k + 1)) (k + 1) = allN (tOk d) d.length 0 by rw [← e]; simp)
                    clear e
                    refine wp_region_ext (by kernel_rfl) (by kernel_rfl) ?_
                    repeat (go_big_quiet_step (first
                      | (go_at_call 144; exact quietSb (IsValidName_any lx1) N3.out)
                      | (go_at_call 122; exact quietEb (IsValidRelation_w lx2 HXL.out hvr.ext) N4.out)))
                    refine wpQuiet_nil ?_
                    rintro _ ⟨zz, rfl⟩
                    go_wp2
                    exact ⟨⟨k + 1, by go_num, by omega, trans_ext hy2 ⟨_, rfl⟩, HK⟩, by simp [intOf]; omega⟩
                  · rw [decide_eq_false h16] at e
                    have h17 : (16 : Int) < (x.2.2.length : Int) := by omega
                    have HF := Lib.hid (db_f (d := d) (by rw [← e]; simp))
                    clear e
                    refine wp_region_ext (by kernel_rfl) (by kernel_rfl) ?_
                    repeat (go_big_quiet_step (first
                      | (go_at_call 144; exact quietSb (IsValidName_any lx1) N3.out)
                      | (go_at_call 122; exact quietEb (IsValidRelation_w lx2 HXL.out hvr.ext) N4.out)))
                    refine wpQuiet_nil ?_
                    rintro _ ⟨zz, rfl⟩
                    go_wp2
                    go_ret
                    exact ⟨by rw [HF.out]; rfl, trans_ext hw2 ⟨_, rfl⟩⟩
                · rw [decide_eq_false ha] at e
                  have ha2 : x.2.1 < 1 := by omega
                  by_cases h16 : x.2.2.length ≤ 16
                  · have h17 : ¬ (16 : Int) < (x.2.2.length : Int) := by omega
                    have HF := Lib.hid (db_f (d := d) (by rw [← e]; simp))
                    clear e
                    refine wp_region_ext (by kernel_rfl) (by kernel_rfl) ?_
                    repeat (go_big_quiet_step (first
                      | (go_at_call 144; exact quietSb (IsValidName_any lx1) N3.out)
                      | (go_at_call 122; exact quietEb (IsValidRelation_w lx2 HXL.out hvr.ext) N4.out)))
                    refine wpQuiet_nil ?_
                    rintro _ ⟨zz, rfl⟩
                    go_wp2
                    go_ret
                    exact ⟨by rw [HF.out]; rfl, trans_ext hw2 ⟨_, rfl⟩⟩
                  · have h17 : (16 : Int) < (x.2.2.length : Int) := by omega
                    have HF := Lib.hid (db_f (d := d) (by rw [← e]; simp))
                    clear e
                    refine wp_region_ext (by kernel_rfl) (by kernel_rfl) ?_
                    repeat (go_big_quiet_step (first
                      | (go_at_call 144; exact quietSb (IsValidName_any lx1) N3.out)
                      | (go_at_call 122; exact quietEb (IsValidRelation_w lx2 HXL.out hvr.ext) N4.out)))
                    refine wpQuiet_nil ?_
                    rintro _ ⟨zz, rfl⟩
                    go_wp2
                    go_ret
                    exact ⟨by rw [HF.out]; rfl, trans_ext hw2 ⟨_, rfl⟩⟩
          · have k1 : ¬ (0 : Int) < (k : Int) := by omega
            rw [decide_eq_true (show k = 0 by omega)] at e
            cases t4 with
            | false =>
              have HF := Lib.hid (db_f (d := d) (by rw [← e]; simp))
              clear e
              refine wp_region_ext (by kernel_rfl) (by kernel_rfl) ?_
              repeat (go_big_quiet_step (first
                | (go_at_call 144; exact quietSb (IsValidName_any lx1) N3.out)
                | (go_at_call 122; exact quietEb (IsValidRelation_w lx2 HXL.out hvr.ext) N4.out)))
              refine wpQuiet_nil ?_
              rintro _ ⟨zz, rfl⟩
              go_wp2
              go_ret
              exact ⟨by rw [HF.out]; rfl, trans_ext hw2 ⟨_, rfl⟩⟩
            | true =>
              by_cases ha : 1 ≤ x.2.1
              · rw [decide_eq_true ha] at e
                have ha2 : ¬ x.2.1 < 1 := by omega
                by_cases h16 : x.2.2.length ≤ 16
                · rw [decide_eq_true h16] at e
                  have h17 : ¬ (16 : Int) < (x.2.2.length : Int) := by omega
                  have HK := Lib.hid (show allN (tOk d) (d.length - (k + 1)) (k + 1) = allN (tOk d) d.length 0 by rw [← e]; simp)
                  clear e
                  refine wp_region_ext (by kernel_rfl) (by kernel_rfl) ?_
                  repeat (go_big_quiet_step (first
                    | (go_at_call 144; exact quietSb (IsValidName_any lx1) N3.out)
                    | (go_at_call 122; exact quietEb (IsValidRelation_w lx2 HXL.out hvr.ext) N4.out)))
                  refine wpQuiet_nil ?_
                  rintro _ ⟨zz, rfl⟩
                  go_wp2
                  exact ⟨⟨k + 1, by go_num, by omega, trans_ext hy2 ⟨_, rfl⟩, HK⟩, by simp [intOf]; omega⟩
                · rw [decide_eq_false h16] at e
                  have h17 : (16 : Int) < (x.2.2.length : Int) := by omega
                  have HF := Lib.hid (db_f (d := d) (by rw [← e]; simp))
                  clear e
                  refine wp_region_ext (by kernel_rfl) (by kernel_rfl) ?_
                  repeat (go_big_quiet_step (first
                    | (go_at_call 144; exact quietSb (IsValidName_any lx1) N3.out)
                    | (go_at_call 122; exact quietEb (IsValidRelation_w lx2 HXL.out hvr.ext) N4.out)))
                  refine wpQuiet_nil ?_
                  rintro _ ⟨zz, rfl⟩
                  go_wp2
                  go_ret
                  exact ⟨by rw [HF.out]; rfl, trans_ext hw2 ⟨_, rfl⟩⟩
              · rw [decide_eq_false ha] at e
                have ha2 : x.2.1 < 1 := by omega
                by_cases h16 : x.2.2.length ≤ 16
                · have h17 : ¬ (16 : Int) < (x.2.2.length : Int) := by omega
                  have HF := Lib.hid (db_f (d := d) (by rw [← e]; simp))
                  clear e
                  refine wp_region_ext (by kernel_rfl) (by kernel_rfl) ?_
                  repeat (go_big_quiet_step (first
                    | (go_at_call 144; exact quietSb (IsValidName_any lx1) N3.out)
                    | (go_at_call 122; exact quietEb (IsValidRelation_w lx2 HXL.out hvr.ext) N4.out)))
                  refine wpQuiet_nil ?_
                  rintro _ ⟨zz, rfl⟩
                  go_wp2
                  go_ret
                  exact ⟨by rw [HF.out]; rfl, trans_ext hw2 ⟨_, rfl⟩⟩
                · have h17 : (16 : Int) < (x.2.2.length : Int) := by omega
                  have HF := Lib.hid (db_f (d := d) (by rw [← e]; simp))
                  clear e
                  refine wp_region_ext (by kernel_rfl) (by kernel_rfl) ?_
                  repeat (go_big_quiet_step (first
                    | (go_at_call 144; exact quietSb (IsValidName_any lx1) N3.out)
                    | (go_at_call 122; exact quietEb (IsValidRelation_w lx2 HXL.out hvr.ext) N4.out)))
                  refine wpQuiet_nil ?_
                  rintro _ ⟨zz, rfl⟩
                  go_wp2
                  go_ret
                  exact ⟨by rw [HF.out]; rfl, trans_ext hw2 ⟨_, rfl⟩⟩
      · have e := Hj.out
        rw [allN_end hlt] at e
        have HK := Lib.hid (show dbB d = true by rw [HE2.out, ← e])
        clear e Hj
        go_wp2
        go_ret
        exact ⟨by rw [HK.out]; rfl, hyw⟩
  · have HE2 := Lib.hid (show dbB d = false by unfold dbB; rw [decide_eq_false h6, Bool.false_and])
    have h7 : 6 < d.length := by omega
    go_wp2_with fail
    go_ret
    exact ⟨by rw [HE2.out]; rfl, xW⟩
set_option maxRecDepth 100000 in
set_option maxHeartbeats 16000000 in
theorem specIsValidDatabase_w {A : Option Addr} {c : Nat} {d : Dbd} {w : World} (hd : WDb d) (h1 : RV 3 vTb w A d) :
    Calls Try.prog 60 #[.agg #[.slice A d.length c]] w fun e w' => e = .returned (.bool (dbB d)) ∧ ∃ y, w' = ext w y := by
  have HD := Lib.hid hd
  have hn := hd.n
  clear hd
  go_enter Try.func60, Try.ntmps60
  go_upto_region 1 with fail
  refine wp_name ?_
  intro W hW
  have xW : ∃ y, W = ext w y := by rw [hW.out]; exact (by refine x'z ?_; repeat (with_reducible (first | exact x'a _ _ | exact x'b _ | exact x'c (by assumption) | refine x'd ?_ (by assumption) | refine x'e ?_ _ | refine x'f ?_ _ | refine x'g ?_ | refine x'h ?_ ?_ _ | refine x'i ?_ _ | refine x'j ?_ | refine x'k ?_ _ | refine x'l ?_ _ _ | refine x'm ?_ | assumption | (refine x'n ?_; omega) | omega)))
  have PW : BoxAt W w.heap.size #[.slice A d.length c] := by rw [hW.out]; exact (by repeat (with_reducible (first | assumption | exact BoxAt.new _ _ _ | apply BoxAt.set10 | apply BoxAt.set2 | refine BoxAt.set2' ?_ (by omega) | apply BoxAt.setP0 | apply BoxAt.setP1 | refine BoxAt.setO ?_ (by omega) | refine BoxAt.alloc ?_ _ | refine BoxAt.drew ?_ | refine BoxAt.toExt ?_ (by assumption))))
  clear hW
  go_wp2_with fail
  go_loopw [3] (fun i wr => ∃ k : Nat, i = .int .i64 k ∧ k ≤ d.length ∧ (∃ y, wr = ext W y) ∧ Hid (allN (tOk d) (d.length - k) k = allN (tOk d) d.length 0)) (fun i _ => d.length - (intOf i).toNat)
  case atStart => exact ⟨0, rfl, by omega, refl_ext W, Lib.hid rfl⟩
  case round =>
    obtain ⟨k, rfl, hk, hy, Hj⟩ := hrel
    have hyw := trans_ext xW hy
    obtain ⟨l1, a1, f1⟩ := bx1 (PW.toExt hy)
    by_cases hlt : k < d.length
    · obtain ⟨b, o, A1, c1, rfl, hb, hc, hc1, hc2, hvx⟩ := (h1.toExt hyw).atT hlt
      have lx1 := HD.out.nm _ (List.getElem_mem hlt)
      have lx2 := HD.out.rn _ (List.getElem_mem hlt)
      have HXL := Lib.hid (HD.out.rl _ (List.getElem_mem hlt))
      have e := Hj.out
      rw [allN_step hlt, tOk_eq hlt] at e
      have hvr0 := (vII_get (vRel_get hvx).2).2
      obtain ⟨x, hx⟩ : ∃ x, d[k] = x := ⟨_, rfl⟩
      rw [hx] at e hc hc1 hc2 lx1 lx2 HXL hvr0
      obtain ⟨t3, ht3⟩ : ∃ t, nameB x.1 = t := ⟨_, rfl⟩
      obtain ⟨t4, ht4⟩ : ∃ t, rowsB x.2.1 x.2.2 = t := ⟨_, rfl⟩
      rw [ht3, ht4] at e
      have N3 := Lib.hid ht3
      have N4 := Lib.hid ht4
      have HPV : Hid (∀ _ : 0 < k, ∃ pn, (d.getD (k - 1) zT).1 = pn ∧ wr.cell? ⟨b, o + (k - 1) * 3, none⟩ = some (.string pn)) := Lib.hid (fun h0 => by
        obtain ⟨b', o', _, _, e1, _, h2, _⟩ := (h1.toExt hyw).atT (k := k - 1) (by omega)
        injection e1 with e1
        injection e1 with e1 e2 _
        subst e1 e2
        exact ⟨_, by rw [getDl _ _ (show k - 1 < d.length by omega)], h2⟩)
      clear hx hvx ht3 ht4
      go_upto_region 5 with fail
      refine wp_name ?_
      intro W2 hW2
      have xW2 : ∃ y, W2 = ext wr y := by rw [hW2.out]; exact (by refine x'z ?_; repeat (with_reducible (first | exact x'a _ _ | exact x'b _ | exact x'c (by assumption) | refine x'd ?_ (by assumption) | refine x'e ?_ _ | refine x'f ?_ _ | refine x'g ?_ | refine x'h ?_ ?_ _ | refine x'i ?_ _ | refine x'j ?_ | refine x'k ?_ _ | refine x'l ?_ _ _ | refine x'm ?_ | assumption | (refine x'n ?_; omega) | omega)))
      have T2 : BoxAt W2 wr.heap.size #[.string x.1, .int .i64 x.2.1, .slice A1 x.2.2.length c1] := by rw [hW2.out]; exact (by repeat (with_reducible (first | assumption | exact BoxAt.new _ _ _ | apply BoxAt.set3 | refine BoxAt.set3' ?_ (by omega) | apply BoxAt.set30 | apply BoxAt.set31 | apply BoxAt.set32 | apply BoxAt.set2 | refine BoxAt.set2' ?_ (by omega) | apply BoxAt.setP0 | apply BoxAt.setP1 | refine BoxAt.setO ?_ (by omega) | refine BoxAt.alloc ?_ _ | refine BoxAt.drew ?_ | refine BoxAt.toExt ?_ (by assumption))))
      have hy2 := trans_ext hy xW2
      have hw2 := trans_ext hyw xW2
      have hvr := hvr0.toExt xW2
      obtain ⟨l2, a2, a3, a4, f2⟩ := box3 T2
      obtain ⟨lp2, p2, fp2⟩ := bx1 (PW.toExt hy2)
      have hb2 := ltW xW2 hb
      clear hW2 hc hc1 hc2 l1 a1 f1
      cases t3 with
      | false =>
        have HF := Lib.hid (db_f (d := d) (by rw [← e]; simp))
        clear e
        refine wp_region_ext (by kernel_rfl) (by kernel_rfl) ?_
        repeat (go_big_quiet_step (first
          | (go_at_call 143; exact quietSb (specIsValidName_any lx1) N3.out)
          | (go_at_call 57; exact quietEb (specIsValidRelation_w lx2 HXL.out hvr.ext) N4.out)))
        refine wpQuiet_nil ?_
        rintro _ ⟨zz, rfl⟩
        go_wp2
        go_ret
        exact ⟨by rw [HF.out]; rfl, trans_ext hw2 ⟨_, rfl⟩⟩
      | true =>
        by_cases hk0 : 0 < k
        · obtain ⟨pn, hpn, hcp⟩ := HPV.out hk0
          have hcp2 := cellW xW2 hb hcp
          rw [hpn, decide_eq_false (show ¬ k = 0 by omega)] at e
          unfold sLt at e
          have k1 : (0 : Int) < (k : Int) := by omega
          have s0 : (0 : Int) ≤ (k : Int) - 1 := by omega
          have s1 : IntKind.i64.wrap ((k : Int) - 1) = (k : Int) - 1 := IntWalk.i64_in _ (by omega)
          have s2 : ((k : Int) - 1).toNat = k - 1 := by omega
          have s3 : (k : Int) - 1 < (d.length : Int) := by omega
          obtain ⟨t5, ht5⟩ : ∃ t, Op.bytesLess pn.toList x.1.toList = t := ⟨_, rfl⟩
          rw [ht5] at e
          clear hpn hcp
          cases t5 with
          | false =>
            have HF := Lib.hid (db_f (d := d) (by rw [← e]; simp))
            clear e
            refine wp_region_ext (by kernel_rfl) (by kernel_rfl) ?_
            repeat (go_big_quiet_step (first
              | (go_at_call 143; exact quietSb (specIsValidName_any lx1) N3.out)
              | (go_at_call 57; exact quietEb (specIsValidRelation_w lx2 HXL.out hvr.ext) N4.out)))
            refine wpQuiet_nil ?_
            rintro _ ⟨zz, rfl⟩
            go_wp2
            go_ret
            exact ⟨by rw [HF.out]; rfl, trans_ext hw2 ⟨_, rfl⟩⟩
          | true =>
            cases t4 with
            | false =>
              have HF := Lib.hid (db_f (d := d) (by rw [← e]; simp))
              clear e
              refine wp_region_ext (by kernel_rfl) (by kernel_rfl) ?_
              repeat (go_big_quiet_step (first
                | (go_at_call 143; exact quietSb (specIsValidName_any lx1) N3.out)
                | (go_at_call 57; exact quietEb (specIsValidRelation_w lx2 HXL.out hvr.ext) N4.out)))
              refine wpQuiet_nil ?_
              rintro _ ⟨zz, rfl⟩
              go_wp2
              go_ret
              exact ⟨by rw [HF.out]; rfl, trans_ext hw2 ⟨_, rfl⟩⟩
            | true =>
              by_cases ha : 1 ≤ x.2.1
              · rw [decide_eq_true ha] at e
                have ha2 : ¬ x.2.1 < 1 := by omega
                by_cases h16 : x.2.2.length ≤ 16
                · rw [decide_eq_true h16] at e
                  have h17 : ¬ (16 : Int) < (x.2.2.length : Int) := by omega
                  have HK := Lib.hid (show allN (tOk d) (d.length - (k + 1)) (k + 1) = allN (tOk d) d.length 0 by rw [← e]; simp)
                  clear e
                  refine wp_region_ext (by kernel_rfl) (by kernel_rfl) ?_
                  repeat (go_big_quiet_step (first
                    | (go_at_call 143; exact quietSb (specIsValidName_any lx1) N3.out)
                    | (go_at_call 57; exact quietEb (specIsValidRelation_w lx2 HXL.out hvr.ext) N4.out)))
                  refine wpQuiet_nil ?_
                  rintro _ ⟨zz, rfl⟩
                  go_wp2
                  exact ⟨⟨k + 1, by go_num, by omega, trans_ext hy2 ⟨_, rfl⟩, HK⟩, by simp [intOf]; omega⟩
                · rw [decide_eq_false h16] at e
                  have h17 : (16 : Int) < (x.2.2.length : Int) := by omega
                  have HF := Lib.hid (db_f (d := d) (by rw [← e]; simp))
                  clear e
                  refine wp_region_ext (by kernel_rfl) (by kernel_rfl) ?_
                  repeat (go_big_quiet_step (first
                    | (go_at_call 143; exact quietSb (specIsValidName_any lx1) N3.out)
                    | (go_at_call 57; exact quietEb (specIsValidRelation_w lx2 HXL.out hvr.ext) N4.out)))
                  refine wpQuiet_nil ?_
                  rintro _ ⟨zz, rfl⟩
                  go_wp2
                  go_ret
                  exact ⟨by rw [HF.out]; rfl, trans_ext hw2 ⟨_, rfl⟩⟩
              · rw [decide_eq_false ha] at e
                have ha2 : x.2.1 < 1 := by omega
                by_cases h16 : x.2.2.length ≤ 16
                · have h17 : ¬ (16 : Int) < (x.2.2.length : Int) := by omega
                  have HF := Lib.hid (db_f (d := d) (by rw [← e]; simp))
                  clear e
                  refine wp_region_ext (by kernel_rfl) (by kernel_rfl) ?_
                  repeat (go_big_quiet_step (first
                    | (go_at_call 143; exact quietSb (specIsValidName_any lx1) N3.out)
                    | (go_at_call 57; exact quietEb (specIsValidRelation_w lx2 HXL.out hvr.ext) N4.out)))
                  refine wpQuiet_nil ?_
                  rintro _ ⟨zz, rfl⟩
                  go_wp2
                  go_ret
                  exact ⟨by rw [HF.out]; rfl, trans_ext hw2 ⟨_, rfl⟩⟩
                · have h17 : (16 : Int) < (x.2.2.length : Int) := by omega
                  have HF := Lib.hid (db_f (d := d) (by rw [← e]; simp))
                  clear e
                  refine wp_region_ext (by kernel_rfl) (by kernel_rfl) ?_
                  repeat (go_big_quiet_step (first
                    | (go_at_call 143; exact quietSb (specIsValidName_any lx1) N3.out)
                    | (go_at_call 57; exact quietEb (specIsValidRelation_w lx2 HXL.out hvr.ext) N4.out)))
                  refine wpQuiet_nil ?_
                  rintro _ ⟨zz, rfl⟩
                  go_wp2
                  go_ret
                  exact ⟨by rw [HF.out]; rfl, trans_ext hw2 ⟨_, rfl⟩⟩
        · have k1 : ¬ (0 : Int) < (k : Int) := by omega
          rw [decide_eq_true (show k = 0 by omega)] at e
          cases t4 with
          | false =>
            have HF := Lib.hid (db_f (d := d) (by rw [← e]; simp))
            clear e
            refine wp_region_ext (by kernel_rfl) (by kernel_rfl) ?_
            repeat (go_big_quiet_step (first
              | (go_at_call 143; exact quietSb (specIsValidName_any lx1) N3.out)
              | (go_at_call 57; exact quietEb (specIsValidRelation_w lx2 HXL.out hvr.ext) N4.out)))
            refine wpQuiet_nil ?_
            rintro _ ⟨zz, rfl⟩
            go_wp2
            go_ret
            exact ⟨by rw [HF.out]; rfl, trans_ext hw2 ⟨_, rfl⟩⟩
          | true =>
            by_cases ha : 1 ≤ x.2.1
            · rw [decide_eq_true ha] at e
              have ha2 : ¬ x.2.1 < 1 := by omega
              by_cases h16 : x.2.2.length ≤ 16
              · rw [decide_eq_true h16] at e
                have h17 : ¬ (16 : Int) < (x.2.2.length : Int) := by omega
                have HK := Lib.hid (show allN (tOk d) (d.length - (k + 1)) (k + 1) = allN (tOk d) d.length 0 by rw [← e]; simp)
                clear e
                refine wp_region_ext (by kernel_rfl) (by kernel_rfl) ?_
                repeat (go_big_quiet_step (first
                  | (go_at_call 143; exact quietSb (specIsValidName_any lx1) N3.out)
                  | (go_at_call 57; exact quietEb (specIsValidRelation_w lx2 HXL.out hvr.ext) N4.out)))
                refine wpQuiet_nil ?_
                rintro _ ⟨zz, rfl⟩
                go_wp2
                exact ⟨⟨k + 1, by go_num, by omega, trans_ext hy2 ⟨_, rfl⟩, HK⟩, by simp [intOf]; omega⟩
              · rw [decide_eq_false h16] at e
                have h17 : (16 : Int) < (x.2.2.length : Int) := by omega
                have HF := Lib.hid (db_f (d := d) (by rw [← e]; simp))
                clear e
                refine wp_region_ext (by kernel_rfl) (by kernel_rfl) ?_
                repeat (go_big_quiet_step (first
                  | (go_at_call 143; exact quietSb (specIsValidName_any lx1) N3.out)
                  | (go_at_call 57; exact quietEb (specIsValidRelation_w lx2 HXL.out hvr.ext) N4.out)))
                refine wpQuiet_nil ?_
                rintro _ ⟨zz, rfl⟩
                go_wp2
                go_ret
                exact ⟨by rw [HF.out]; rfl, trans_ext hw2 ⟨_, rfl⟩⟩
            · rw [decide_eq_false ha] at e
              have ha2 : x.2.1 < 1 := by omega
              by_cases h16 : x.2.2.length ≤ 16
              · have h17 : ¬ (16 : Int) < (x.2.2.length : Int) := by omega
                have HF := Lib.hid (db_f (d := d) (by rw [← e]; simp))
                clear e
                refine wp_region_ext (by kernel_rfl) (by kernel_rfl) ?_
                repeat (go_big_quiet_step (first
                  | (go_at_call 143; exact quietSb (specIsValidName_any lx1) N3.out)
                  | (go_at_call 57; exact quietEb (specIsValidRelation_w lx2 HXL.out hvr.ext) N4.out)))
                refine wpQuiet_nil ?_
                rintro _ ⟨zz, rfl⟩
                go_wp2
                go_ret
                exact ⟨by rw [HF.out]; rfl, trans_ext hw2 ⟨_, rfl⟩⟩
              · have h17 : (16 : Int) < (x.2.2.length : Int) := by omega
                have HF := Lib.hid (db_f (d := d) (by rw [← e]; simp))
                clear e
                refine wp_region_ext (by kernel_rfl) (by kernel_rfl) ?_
                repeat (go_big_quiet_step (first
                  | (go_at_call 143; exact quietSb (specIsValidName_any lx1) N3.out)
                  | (go_at_call 57; exact quietEb (specIsValidRelation_w lx2 HXL.out hvr.ext) N4.out)))
                refine wpQuiet_nil ?_
                rintro _ ⟨zz, rfl⟩
                go_wp2
                go_ret
                exact ⟨by rw [HF.out]; rfl, trans_ext hw2 ⟨_, rfl⟩⟩
    · have e := Hj.out
      rw [allN_end hlt] at e
      by_cases h6 : d.length ≤ 6
      · have HK := Lib.hid (show dbB d = true by unfold dbB; rw [decide_eq_true h6, ← e]; rfl)
        clear e Hj
        go_wp2
        go_ret
        exact ⟨by rw [HK.out]; show Ending.returned (.bool (decide ((d.length : Int) ≤ 6))) = _; rw [decide_eq_true (by omega)], hyw⟩
      · have HK := Lib.hid (show dbB d = false by unfold dbB; rw [decide_eq_false h6, Bool.false_and])
        clear e Hj
        go_wp2
        go_ret
        exact ⟨by rw [HK.out]; show Ending.returned (.bool (decide ((d.length : Int) ≤ 6))) = _; rw [decide_eq_false (by omega)], hyw⟩
end Go.Proofs.Ytfigcfajkilhiaa

/- The laws' helpers on queries: the size, a copy, equality. -/
namespace Go.Proofs.Ytfigcfajkilhiaa
open Go.RowKit

abbrev Qd := Int × (List At × List Int)
abbrev vQ : VE Qd := vP 1 vI (vP 1 vAts (vSl 1 vI))
abbrev sQ : SE Qd := sP 1 sI (sP 1 sAts (sSl 3 1 sI))
theorem sQ_v {w : World} (c : List Value) (d : Qd) (F : List Nat) (h : sQ w c d F) : vQ w c d := sP_v sI_v (sP_v sAts_v (sSl_v sI_v)) c d F h
def QQ (d : Qd) : Prop := I64 d.1 ∧ QAts d.2.1 ∧ d.2.2.length ≤ maxLen
def BQ (d : Qd) : Prop := I64 d.1 ∧ BAts d.2.1 ∧ d.2.2.length ≤ 1048576
/-- bounds as they are asked for by what only reads -/
def WQ (d : Qd) : Prop := I64 d.1 ∧ (d.2.1.length ≤ 4194304 ∧ ∀ x ∈ d.2.1, x.1.size ≤ 4194304 ∧ x.2.length ≤ 4194304) ∧ d.2.2.length ≤ 4194304
theorem BQ.w {d : Qd} (h : BQ d) : WQ d := ⟨h.1, ⟨by have := h.2.1.1; omega, fun x hx => by have := h.2.1.each x hx; omega⟩, by have := h.2.2; omega⟩
def szQ (left : Int) (d : Qd) : Int := if szN szAt left d.2.1 < 0 then -1 else szL (szN szAt left d.2.1) d.2.2.length
theorem szL_neg {l : Int} {n : Nat} (h : szL l n < 0) : szL l n = -1 := by
  unfold szL at h ⊢
  split
  · rfl
  · rename_i h1; rw [if_neg h1] at h; omega
theorem szQ_parts {left : Int} {d : Qd} (h : 0 ≤ szQ left d) : 0 ≤ szN szAt left d.2.1 ∧ 0 ≤ szL (szN szAt left d.2.1) d.2.2.length ∧ szQ left d = szL (szN szAt left d.2.1) d.2.2.length := by
  unfold szQ at h ⊢
  split at h
  · omega
  · rename_i h1
    rw [if_neg h1]
    exact ⟨by omega, h, rfl⟩
theorem szQ_le {left : Int} {d : Qd} (h : 0 ≤ szQ left d) : szQ left d ≤ left := by
  obtain ⟨h1, h2, e⟩ := szQ_parts h
  rw [e]
  have := szAts_le h1
  have := szL_le h2
  omega
theorem szQ_small {left : Int} {d : Qd} (hq : I64 d.1) (h : 0 ≤ szQ left d) (hl : left ≤ 1048576) : BQ d := by
  obtain ⟨h1, h2, _⟩ := szQ_parts h
  have := szAts_le h1
  have := szL_small h2
  exact ⟨hq, szAts_small h1 hl, by omega⟩
theorem vQ_shape {w : World} {c : List Value} {d : Qd} (h : vQ w c d) : ∃ A a B b, c = [.int .i64 d.1, .slice A d.2.1.length a, .slice B d.2.2.length b] := by
  obtain ⟨c0, c1, e0, h0, h1, c2, c3, e1, h2, ⟨A2, d2, rfl, k2⟩, A3, d3, rfl, k3⟩ := h
  simp only [vI] at h1
  subst e1 h1
  exact ⟨_, _, _, _, e0⟩
theorem vQ_get {w : World} {A B : Option Addr} {c e : Nat} {n m : Nat} {z : Int} {d : Qd} (h : vQ w [.int .i64 z, .slice A n c, .slice B m e] d) : vAts w [.slice A n c] d.2.1 ∧ RI w B d.2.2 ∧ d.2.2.length ≤ e := by
  obtain ⟨c0, c1, e0, h0, h1, c2, c3, e1, h2, ⟨A2, d2, rfl, k2⟩, A3, d3, rfl, k3⟩ := h
  simp only [vI] at h1
  subst e1 h1
  simp only [List.cons_append, List.nil_append, List.cons.injEq, Value.slice.injEq, and_true] at e0
  obtain ⟨q0, ⟨q1, q2, q3⟩, q4, q5, q6⟩ := e0
  subst q1 q2 q3 q4 q5 q6
  exact ⟨⟨_, _, rfl, k2⟩, k3, by omega⟩
set_option maxHeartbeats 1000000 in
theorem szQuery_d {A B : Option Addr} {c e1 : Nat} {d : Qd} {left : Int} {w : World} (hq : QQ d) (h : vQ w [.int .i64 d.1, .slice A d.2.1.length c, .slice B d.2.2.length e1] d) (h1 : 0 ≤ left) (h2 : left ≤ 1000000000) :
    Calls Try.prog 30 #[.agg #[.int .i64 d.1, .slice A d.2.1.length c, .slice B d.2.2.length e1], .int .i64 left] w fun e w' => e = .returned (.int .i64 (szQ left d)) ∧ ∃ y, w' = ext w y := by
  obtain ⟨r1, r2, _⟩ := vQ_get h
  obtain ⟨_, q1, q2⟩ := hq
  have m2 := le_maxLen q2
  obtain ⟨l1, hl1⟩ : ∃ l, szN szAt left d.2.1 = l := ⟨_, rfl⟩
  obtain ⟨l2, hl2⟩ : ∃ l, szL l1 d.2.2.length = l := ⟨_, rfl⟩
  have H1 := Lib.hid hl1
  have H2 := Lib.hid hl2
  have e0 : szQ left d = if l1 < 0 then -1 else l2 := by unfold szQ; rw [hl1, hl2]
  have b1 : 0 ≤ l1 → l1 ≤ left := fun h => by rw [← hl1] at h ⊢; exact szAts_le h
  have n2 : l2 < 0 → l2 = -1 := fun h => by rw [← hl2] at h ⊢; exact szL_neg h
  clear h q2 hl1 hl2
  by_cases c1 : l1 < 0
  · rw [e0, if_pos c1]
    clear e0 b1 n2
    go_enter Try.func30, Try.ntmps30
    go_wp2_with (go_at_call 100; refine (szAtomS_d q1 (VD.toExt r1 (by refine x'z ?_; repeat (with_reducible (first | exact x'a _ _ | exact x'b _ | exact x'c (by assumption) | refine x'd ?_ (by assumption) | refine x'e ?_ _ | refine x'f ?_ _ | refine x'g ?_ | refine x'h ?_ ?_ _ | refine x'i ?_ _ | refine x'j ?_ | refine x'k ?_ _ | refine x'l ?_ _ _ | refine x'm ?_ | assumption | (refine x'n ?_; omega) | omega)))) h1 h2).mono ?_; rintro e w1 ⟨rfl, y1, rfl⟩; rw [H1.out])
    go_ret
    exact ⟨rfl, (by refine x'z ?_; repeat (with_reducible (first | exact x'a _ _ | exact x'b _ | exact x'c (by assumption) | refine x'd ?_ (by assumption) | refine x'e ?_ _ | refine x'f ?_ _ | refine x'g ?_ | refine x'h ?_ ?_ _ | refine x'i ?_ _ | refine x'j ?_ | refine x'k ?_ _ | refine x'l ?_ _ _ | refine x'm ?_ | assumption | (refine x'n ?_; omega) | omega)))⟩
  · have hb1 := b1 (by omega)
    rw [e0, if_neg c1]
    by_cases c2 : l2 < 0
    · have HN := Lib.hid (n2 c2)
      clear e0 b1 n2
      go_enter Try.func30, Try.ntmps30
      go_wp2_with (first
        | (go_at_call 100; refine (szAtomS_d q1 (VD.toExt r1 (by refine x'z ?_; repeat (with_reducible (first | exact x'a _ _ | exact x'b _ | exact x'c (by assumption) | refine x'd ?_ (by assumption) | refine x'e ?_ _ | refine x'f ?_ _ | refine x'g ?_ | refine x'h ?_ ?_ _ | refine x'i ?_ _ | refine x'j ?_ | refine x'k ?_ _ | refine x'l ?_ _ _ | refine x'm ?_ | assumption | (refine x'n ?_; omega) | omega)))) h1 h2).mono ?_; rintro e w1 ⟨rfl, y1, rfl⟩; rw [H1.out])
        | (go_at_call 101; refine (szIntS_any (by omega) (by omega) (by omega)).mono ?_; rintro e w1 ⟨rfl, rfl⟩; rw [H2.out]))
      go_ret
      exact ⟨by rw [HN.out]; rfl, (by refine x'z ?_; repeat (with_reducible (first | exact x'a _ _ | exact x'b _ | exact x'c (by assumption) | refine x'd ?_ (by assumption) | refine x'e ?_ _ | refine x'f ?_ _ | refine x'g ?_ | refine x'h ?_ ?_ _ | refine x'i ?_ _ | refine x'j ?_ | refine x'k ?_ _ | refine x'l ?_ _ _ | refine x'm ?_ | assumption | (refine x'n ?_; omega) | omega)))⟩
    · clear e0 b1 n2
      go_enter Try.func30, Try.ntmps30
      go_wp2_with (first
        | (go_at_call 100; refine (szAtomS_d q1 (VD.toExt r1 (by refine x'z ?_; repeat (with_reducible (first | exact x'a _ _ | exact x'b _ | exact x'c (by assumption) | refine x'd ?_ (by assumption) | refine x'e ?_ _ | refine x'f ?_ _ | refine x'g ?_ | refine x'h ?_ ?_ _ | refine x'i ?_ _ | refine x'j ?_ | refine x'k ?_ _ | refine x'l ?_ _ _ | refine x'm ?_ | assumption | (refine x'n ?_; omega) | omega)))) h1 h2).mono ?_; rintro e w1 ⟨rfl, y1, rfl⟩; rw [H1.out])
        | (go_at_call 101; refine (szIntS_any (by omega) (by omega) (by omega)).mono ?_; rintro e w1 ⟨rfl, rfl⟩; rw [H2.out]))
      go_ret
      exact ⟨rfl, (by refine x'z ?_; repeat (with_reducible (first | exact x'a _ _ | exact x'b _ | exact x'c (by assumption) | refine x'd ?_ (by assumption) | refine x'e ?_ _ | refine x'f ?_ _ | refine x'g ?_ | refine x'h ?_ ?_ _ | refine x'i ?_ _ | refine x'j ?_ | refine x'k ?_ _ | refine x'l ?_ _ _ | refine x'm ?_ | assumption | (refine x'n ?_; omega) | omega)))⟩
theorem sQ_form {w : World} {v0 v1 v2 : Value} {d : Qd} {F : List Nat} (h : sQ w [v0, v1, v2] d F) : ∃ A c B e, v0 = .int .i64 d.1 ∧ v1 = .slice A d.2.1.length c ∧ v2 = .slice B d.2.2.length e := by
  obtain ⟨c0, c1, F0, F1, e0, h0, ⟨h1, _⟩, ⟨c2, c3, F2, F3, e1, h2, ⟨u1, rfl, h3⟩, ⟨u2, rfl, h4⟩, _⟩, _⟩ := h
  subst e1 h1
  simp only [List.cons_append, List.nil_append, List.cons.injEq, and_true] at e0
  obtain ⟨rfl, rfl, rfl⟩ := e0
  obtain ⟨A, c, rfl, _⟩ := h3.form
  obtain ⟨B, e, rfl, _⟩ := h4.form
  exact ⟨A, c, B, e, rfl, rfl, rfl⟩
set_option maxHeartbeats 1000000 in
theorem toQuery_d {A B : Option Addr} {c e1 : Nat} {d : Qd} {w : World} (hb : BQ d) (h : vQ w [.int .i64 d.1, .slice A d.2.1.length c, .slice B d.2.2.length e1] d) :
    Calls Try.prog 32 #[.agg #[.int .i64 d.1, .slice A d.2.1.length c, .slice B d.2.2.length e1]] w fun e w' => ∃ v0 v1 v2 F, e = .returned (.agg #[v0, v1, v2]) ∧ (∃ y, w' = ext w y) ∧ sQ w' [v0, v1, v2] d F ∧ F.Nodup ∧ ∀ b ∈ F, w.heap.size ≤ b := by
  obtain ⟨r1, r2, _⟩ := vQ_get h
  obtain ⟨_, q1, q2⟩ := hb
  clear h
  go_enter Try.func32, Try.ntmps32
  go_upto_region 1 with fail
  refine wp_name ?_
  intro w0 hw0
  have hx0 : ∃ y, w0 = ext w y := by rw [hw0.out]; exact (by refine x'z ?_; repeat (with_reducible (first | exact x'a _ _ | exact x'b _ | exact x'c (by assumption) | refine x'd ?_ (by assumption) | refine x'e ?_ _ | refine x'f ?_ _ | refine x'g ?_ | refine x'h ?_ ?_ _ | refine x'i ?_ _ | refine x'j ?_ | refine x'k ?_ _ | refine x'l ?_ _ _ | refine x'm ?_ | assumption | (refine x'n ?_; omega) | omega)))
  have P0 : BoxAt w0 w.heap.size #[.int .i64 d.1, .slice A d.2.1.length c, .slice B d.2.2.length e1] := by rw [hw0.out]; exact (by repeat (with_reducible (first | assumption | exact BoxAt.new _ _ _ | apply BoxAt.set3 | refine BoxAt.set3' ?_ (by omega) | apply BoxAt.set30 | apply BoxAt.set31 | apply BoxAt.set32 | apply BoxAt.set2 | refine BoxAt.set2' ?_ (by omega) | apply BoxAt.setP0 | apply BoxAt.setP1 | refine BoxAt.setO ?_ (by omega) | refine BoxAt.alloc ?_ _ | refine BoxAt.drew ?_ | refine BoxAt.toExt ?_ (by assumption))))
  have R0 : BoxAt w0 (w.heap.size + 1) #[.int .i64 0, .slice none 0 0, .slice none 0 0] := by
    rw [hw0.out]
    simpa using BoxAt.new (w.alloc (.cells #[.int .i64 d.1, .slice A d.2.1.length c, .slice B d.2.2.length e1] 50)) #[.int .i64 0, .slice none 0 0, .slice none 0 0] 55
  obtain ⟨l0, k0, k0', k0'', f0⟩ := box3 P0
  obtain ⟨m0, n0, n0', n0'', g0⟩ := box3 R0
  have hz0 := size_of_ext hx0
  clear hw0
  go_wp2_with (first
    | (go_at_call 104; refine (toAtomS_d q1 (VD.toExt r1 (by refine x'z ?_; repeat (with_reducible (first | exact x'a _ _ | exact x'b _ | exact x'c (by assumption) | refine x'd ?_ (by assumption) | refine x'e ?_ _ | refine x'f ?_ _ | refine x'g ?_ | refine x'h ?_ ?_ _ | refine x'i ?_ _ | refine x'j ?_ | refine x'k ?_ _ | refine x'l ?_ _ _ | refine x'm ?_ | assumption | (refine x'n ?_; omega) | omega))))).mono ?_; rintro e w1 ⟨v1, F1, rfl, hx1, hS1, hN1, hF1⟩; obtain ⟨A1, c1, rfl⟩ := sAts_form hS1; have P1 : BoxAt w1 w.heap.size #[.int .i64 d.1, .slice A d.2.1.length c, .slice B d.2.2.length e1] := (by repeat (with_reducible (first | assumption | exact BoxAt.new _ _ _ | apply BoxAt.set3 | refine BoxAt.set3' ?_ (by omega) | apply BoxAt.set30 | apply BoxAt.set31 | apply BoxAt.set32 | apply BoxAt.set2 | refine BoxAt.set2' ?_ (by omega) | apply BoxAt.setP0 | apply BoxAt.setP1 | refine BoxAt.setO ?_ (by omega) | refine BoxAt.alloc ?_ _ | refine BoxAt.drew ?_ | refine BoxAt.toExt ?_ (by assumption)))); have R1 : BoxAt w1 (w.heap.size + 1) #[.int .i64 0, .slice none 0 0, .slice none 0 0] := (by repeat (with_reducible (first | assumption | exact BoxAt.new _ _ _ | apply BoxAt.set3 | refine BoxAt.set3' ?_ (by omega) | apply BoxAt.set30 | apply BoxAt.set31 | apply BoxAt.set32 | apply BoxAt.set2 | refine BoxAt.set2' ?_ (by omega) | apply BoxAt.setP0 | apply BoxAt.setP1 | refine BoxAt.setO ?_ (by omega) | refine BoxAt.alloc ?_ _ | refine BoxAt.drew ?_ | refine BoxAt.toExt ?_ (by assumption)))); have O1 : BoxAt w1 w0.heap.size #[.int .i64 d.1, .slice none 0 0, .slice none 0 0] := (by repeat (with_reducible (first | assumption | exact BoxAt.new _ _ _ | apply BoxAt.set3 | refine BoxAt.set3' ?_ (by omega) | apply BoxAt.set30 | apply BoxAt.set31 | apply BoxAt.set32 | apply BoxAt.set2 | refine BoxAt.set2' ?_ (by omega) | apply BoxAt.setP0 | apply BoxAt.setP1 | refine BoxAt.setO ?_ (by omega) | refine BoxAt.alloc ?_ _ | refine BoxAt.drew ?_ | refine BoxAt.toExt ?_ (by assumption)))); obtain ⟨l1, k1, k1', k1'', f1⟩ := box3 P1; obtain ⟨m1, n1, n1', n1'', g1⟩ := box3 O1; obtain ⟨o1, p1, p1', p1'', q1'⟩ := box3 R1)
    | (go_at_call 105; ((with_reducible refine (toIntS_any q2 (r2.toExt ?_)).mono ?_); (focus (exact (by refine x'z ?_; repeat (with_reducible (first | exact x'a _ _ | exact x'b _ | exact x'c (by assumption) | refine x'd ?_ (by assumption) | refine x'e ?_ _ | refine x'f ?_ _ | refine x'g ?_ | refine x'h ?_ ?_ _ | refine x'i ?_ _ | refine x'j ?_ | refine x'k ?_ _ | refine x'l ?_ _ _ | refine x'm ?_ | assumption | (refine x'n ?_; omega) | omega)))))); rintro e w2 ⟨v2, F2, rfl, hx2, hS2, hF2⟩; obtain ⟨A2, c2, rfl, _⟩ := hS2.form; have P2 : BoxAt w2 w.heap.size #[.int .i64 d.1, .slice A d.2.1.length c, .slice B d.2.2.length e1] := (by repeat (with_reducible (first | assumption | exact BoxAt.new _ _ _ | apply BoxAt.set3 | refine BoxAt.set3' ?_ (by omega) | apply BoxAt.set30 | apply BoxAt.set31 | apply BoxAt.set32 | apply BoxAt.set2 | refine BoxAt.set2' ?_ (by omega) | apply BoxAt.setP0 | apply BoxAt.setP1 | refine BoxAt.setO ?_ (by omega) | refine BoxAt.alloc ?_ _ | refine BoxAt.drew ?_ | refine BoxAt.toExt ?_ (by assumption)))); have R2 : BoxAt w2 (w.heap.size + 1) #[.int .i64 0, .slice none 0 0, .slice none 0 0] := (by repeat (with_reducible (first | assumption | exact BoxAt.new _ _ _ | apply BoxAt.set3 | refine BoxAt.set3' ?_ (by omega) | apply BoxAt.set30 | apply BoxAt.set31 | apply BoxAt.set32 | apply BoxAt.set2 | refine BoxAt.set2' ?_ (by omega) | apply BoxAt.setP0 | apply BoxAt.setP1 | refine BoxAt.setO ?_ (by omega) | refine BoxAt.alloc ?_ _ | refine BoxAt.drew ?_ | refine BoxAt.toExt ?_ (by assumption)))); have O2 : BoxAt w2 w0.heap.size #[.int .i64 d.1, .slice A1 d.2.1.length c1, .slice none 0 0] := (by repeat (with_reducible (first | assumption | exact BoxAt.new _ _ _ | apply BoxAt.set3 | refine BoxAt.set3' ?_ (by omega) | apply BoxAt.set30 | apply BoxAt.set31 | apply BoxAt.set32 | apply BoxAt.set2 | refine BoxAt.set2' ?_ (by omega) | apply BoxAt.setP0 | apply BoxAt.setP1 | refine BoxAt.setO ?_ (by omega) | refine BoxAt.alloc ?_ _ | refine BoxAt.drew ?_ | refine BoxAt.toExt ?_ (by assumption)))); obtain ⟨l2, k2, k2', k2'', f2⟩ := box3 P2; obtain ⟨m2, n2, n2', n2'', g2⟩ := box3 O2; obtain ⟨o2, p2, p2', p2'', q2'⟩ := box3 R2))
  have hz1 := size_of_ext hx1
  have hz2 := size_of_ext hx2
  simp only [World.size_alloc, World.size_setCell] at hz1 hz2 hF1 hF2
  have a1 : ∀ b ∈ F1, b < w1.heap.size := SMono.lt hS1
  refine bodyPost_ret (v := .agg #[.int .i64 d.1, .slice A1 d.2.1.length c1, .slice A2 d.2.2.length c2]) (by simp [results, Try.results32, go_sem, *]) rfl ⟨_, _, _, [] ++ (F1 ++ F2), rfl, (by refine x'z ?_; repeat (with_reducible (first | exact x'a _ _ | exact x'b _ | exact x'c (by assumption) | refine x'd ?_ (by assumption) | refine x'e ?_ _ | refine x'f ?_ _ | refine x'g ?_ | refine x'h ?_ ?_ _ | refine x'i ?_ _ | refine x'j ?_ | refine x'k ?_ _ | refine x'l ?_ _ _ | refine x'm ?_ | assumption | (refine x'n ?_; omega) | omega))), sP_mk ⟨rfl, rfl⟩ (sP_mk (OD.chg (G := [w0.heap.size, w.heap.size + 1]) hS1 (by repeat (with_reducible (first | exact Chg.refl _ _ | refine Chg.trans0 ?_ (by assumption) | refine Chg.extS ?_ _ | refine Chg.alloc ?_ _ | refine Chg.drew ?_ | refine Chg.setCell ?_ (.inl (by simp)) _))) ?_) ⟨_, rfl, hS2.chg (G := [w0.heap.size, w.heap.size + 1]) (by repeat (with_reducible (first | exact Chg.refl _ _ | refine Chg.trans0 ?_ (by assumption) | refine Chg.extS ?_ _ | refine Chg.alloc ?_ _ | refine Chg.drew ?_ | refine Chg.setCell ?_ (.inl (by simp)) _))) ?_⟩), ?_, ?_⟩
  · intro b hb h
    have := hF1 b hb
    simp at h
    omega
  · intro b hb h
    have := hF2 b hb
    simp at h
    omega
  · rw [List.nil_append]; exact nodup_more (n := w1.heap.size) hN1 hS2.nodup a1 hF2
  · intro b hb
    rcases List.mem_append.1 hb with h | h
    · simp at h
    · rcases List.mem_append.1 h with h | h
      · have := hF1 b h; omega
      · have := hF2 b h; omega
set_option maxHeartbeats 1000000 in
theorem eqQuery_d {A B A' B' : Option Addr} {c e1 c' e1' : Nat} {d d' : Qd} {w : World} (hb : BQ d) (h : vQ w [.int .i64 d.1, .slice A d.2.1.length c, .slice B d.2.2.length e1] d) (hb' : BQ d') (h' : vQ w [.int .i64 d'.1, .slice A' d'.2.1.length c', .slice B' d'.2.2.length e1'] d') :
    Calls Try.prog 34 #[.agg #[.int .i64 d.1, .slice A d.2.1.length c, .slice B d.2.2.length e1], .agg #[.int .i64 d'.1, .slice A' d'.2.1.length c', .slice B' d'.2.2.length e1']] w fun e w' => e = .returned (.bool (decide (d = d'))) ∧ ∃ y, w' = ext w y := by
  obtain ⟨r1, r2, _⟩ := vQ_get h
  obtain ⟨_, b1, b2⟩ := hb
  obtain ⟨s1, s2, _⟩ := vQ_get h'
  obtain ⟨_, p1, p2⟩ := hb'
  have m2 : d.2.2.length ≤ 1000000000 := by omega
  have n2 : d'.2.2.length ≤ 1000000000 := by omega
  have HD := Lib.hid (show decide (d = d') = (decide (d.1 = d'.1) && decide (d.2.1 = d'.2.1) && decide (d.2.2 = d'.2.2)) by
    rw [Bool.eq_iff_iff]
    simp [Prod.ext_iff, and_assoc])
  obtain ⟨t1, ht1⟩ : ∃ t, decide (d.1 = d'.1) = t := ⟨_, rfl⟩
  obtain ⟨t2, ht2⟩ : ∃ t, decide (d.2.1 = d'.2.1) = t := ⟨_, rfl⟩
  obtain ⟨t3, ht3⟩ : ∃ t, decide (d.2.2 = d'.2.2) = t := ⟨_, rfl⟩
  have D2 := Lib.hid ht2
  have D3 := Lib.hid ht3
  have hq : (d.1 != d'.1) = !t1 := by rw [← ht1]; by_cases q : d.1 = d'.1 <;> simp [q]
  have HE := Lib.hid (show decide (d = d') = (t1 && t2 && t3) by rw [HD.out, ht1, ht2, ht3])
  clear h h' ht1 ht2 ht3 HD
  cases t1 <;> cases t2 <;> cases t3
  all_goals
    go_enter Try.func34, Try.ntmps34
    go_upto_region 1 with fail
    refine wp_name ?_
    intro W hW
    have xW : ∃ y, W = ext w y := by rw [hW.out]; exact (by refine x'z ?_; repeat (with_reducible (first | exact x'a _ _ | exact x'b _ | exact x'c (by assumption) | refine x'd ?_ (by assumption) | refine x'e ?_ _ | refine x'f ?_ _ | refine x'g ?_ | refine x'h ?_ ?_ _ | refine x'i ?_ _ | refine x'j ?_ | refine x'k ?_ _ | refine x'l ?_ _ _ | refine x'm ?_ | assumption | (refine x'n ?_; omega) | omega)))
    have BW0 : BoxAt W (w.heap.size) #[.int .i64 d.1, .slice A d.2.1.length c, .slice B d.2.2.length e1] := by rw [hW.out]; refine ⟨?_, fun j => ?_, fun j => ?_⟩ <;> go_simp
    obtain ⟨lW0, bW0, fW0⟩ := BW0
    have cW0_0 : W.cell? ⟨w.heap.size, 0, none⟩ = some (.int .i64 d.1) := bW0 0
    have cW0_1 : W.cell? ⟨w.heap.size, 1, none⟩ = some (.slice A d.2.1.length c) := bW0 1
    have cW0_2 : W.cell? ⟨w.heap.size, 2, none⟩ = some (.slice B d.2.2.length e1) := bW0 2
    have BW1 : BoxAt W (w.heap.size + 1) #[.int .i64 d'.1, .slice A' d'.2.1.length c', .slice B' d'.2.2.length e1'] := by rw [hW.out]; refine ⟨?_, fun j => ?_, fun j => ?_⟩ <;> go_simp
    obtain ⟨lW1, bW1, fW1⟩ := BW1
    have cW1_0 : W.cell? ⟨w.heap.size + 1, 0, none⟩ = some (.int .i64 d'.1) := bW1 0
    have cW1_1 : W.cell? ⟨w.heap.size + 1, 1, none⟩ = some (.slice A' d'.2.1.length c') := bW1 1
    have cW1_2 : W.cell? ⟨w.heap.size + 1, 2, none⟩ = some (.slice B' d'.2.2.length e1') := bW1 2
    clear hW
    go_wp2_with (first
      | (go_at_call 107; refine (eqAtomS_d b1 (VD.toExt r1 (by refine x'z ?_; repeat (with_reducible (first | exact x'a _ _ | exact x'b _ | exact x'c (by assumption) | refine x'd ?_ (by assumption) | refine x'e ?_ _ | refine x'f ?_ _ | refine x'g ?_ | refine x'h ?_ ?_ _ | refine x'i ?_ _ | refine x'j ?_ | refine x'k ?_ _ | refine x'l ?_ _ _ | refine x'm ?_ | assumption | (refine x'n ?_; omega) | omega)))) p1 (VD.toExt s1 (by refine x'z ?_; repeat (with_reducible (first | exact x'a _ _ | exact x'b _ | exact x'c (by assumption) | refine x'd ?_ (by assumption) | refine x'e ?_ _ | refine x'f ?_ _ | refine x'g ?_ | refine x'h ?_ ?_ _ | refine x'i ?_ _ | refine x'j ?_ | refine x'k ?_ _ | refine x'l ?_ _ _ | refine x'm ?_ | assumption | (refine x'n ?_; omega) | omega))))).mono ?_; rintro e w1 ⟨rfl, hx1⟩; rw [D2.out]; have P1 := BoxAt.toExt (cs := #[.int .i64 d.1, .slice A d.2.1.length c, .slice B d.2.2.length e1]) ⟨lW0, bW0, fW0⟩ hx1; have Q1 := BoxAt.toExt (cs := #[.int .i64 d'.1, .slice A' d'.2.1.length c', .slice B' d'.2.2.length e1']) ⟨lW1, bW1, fW1⟩ hx1; obtain ⟨l1, a1, a1', a1'', f1⟩ := box3 P1; obtain ⟨o1, z1, z1', z1'', g1⟩ := box3 Q1)
      | (go_at_call 108; (with_reducible refine (eqIntS_any m2 (r2.toExt ?_) n2 (s2.toExt ?_)).mono ?_); (focus (exact (by refine x'z ?_; repeat (with_reducible (first | exact x'a _ _ | exact x'b _ | exact x'c (by assumption) | refine x'd ?_ (by assumption) | refine x'e ?_ _ | refine x'f ?_ _ | refine x'g ?_ | refine x'h ?_ ?_ _ | refine x'i ?_ _ | refine x'j ?_ | refine x'k ?_ _ | refine x'l ?_ _ _ | refine x'm ?_ | assumption | (refine x'n ?_; omega) | omega))))); (focus (exact (by refine x'z ?_; repeat (with_reducible (first | exact x'a _ _ | exact x'b _ | exact x'c (by assumption) | refine x'd ?_ (by assumption) | refine x'e ?_ _ | refine x'f ?_ _ | refine x'g ?_ | refine x'h ?_ ?_ _ | refine x'i ?_ _ | refine x'j ?_ | refine x'k ?_ _ | refine x'l ?_ _ _ | refine x'm ?_ | assumption | (refine x'n ?_; omega) | omega))))); rintro e w2 ⟨rfl, hx2⟩; rw [D3.out]))
    go_ret
    exact ⟨by rw [HE.out]; rfl, (by refine x'z ?_; repeat (with_reducible (first | exact x'a _ _ | exact x'b _ | exact x'c (by assumption) | refine x'd ?_ (by assumption) | refine x'e ?_ _ | refine x'f ?_ _ | refine x'g ?_ | refine x'h ?_ ?_ _ | refine x'i ?_ _ | refine x'j ?_ | refine x'k ?_ _ | refine x'l ?_ _ _ | refine x'm ?_ | assumption | (refine x'n ?_; omega) | omega)))⟩
end Go.Proofs.Ytfigcfajkilhiaa

/- Whether a query is valid; the program's way and the reference's. -/
namespace Go.Proofs.Ytfigcfajkilhiaa
open Go.RowKit

def atomB (n : Int) (x : At) : Bool := nameB x.1 && inB x.2.length 1 5 && x.2.all fun v => inB v 0 (n - 1)
def seen (ats : List At) : List Int := ats.flatMap (·.2)
def mkU (n : Nat) (s : List Int) : List Bool := (List.range n).map fun (v : Nat) => decide ((v : Int) ∈ s)
def coverB (n : Int) (ats : List At) : Bool := (mkU n.toNat (seen ats)).all id
def vqB (d : Qd) : Bool := inB d.1 1 5 && inB d.2.1.length 1 4 && setB d.1 [] d.2.2 && d.2.1.all (atomB d.1) && coverB d.1 d.2.1
@[simp] theorem mkU_length (n : Nat) (s : List Int) : (mkU n s).length = n := by simp [mkU]
theorem mkU_nil (n : Nat) : mkU n [] = List.replicate n false := by
  unfold mkU
  apply List.ext_getElem
  · simp
  · intro i h1 h2
    simp
theorem mkU_set {n : Nat} {s : List Int} {v : Int} (h0 : 0 ≤ v) : (mkU n s).set v.toNat true = mkU n (s ++ [v]) := by
  apply List.ext_getElem
  · simp
  · intro i h1 h2
    rw [List.getElem_set]
    unfold mkU
    simp only [List.getElem_map, List.getElem_range, List.mem_append, List.mem_singleton]
    split
    · rename_i h
      subst h
      simp
      right; omega
    · rename_i h
      have : ¬ ((i : Int) = v) := by rintro rfl; exact h (by simp)
      simp [this]
theorem seen_take {ats : List At} {k : Nat} (h : k < ats.length) : seen (ats.take (k + 1)) = seen (ats.take k) ++ ats[k].2 := by
  unfold seen
  rw [List.take_succ_eq_append_getElem h, List.flatMap_append]
  simp
theorem allA_step {α : Type} {p : α → Bool} {xs : List α} {k : Nat} (h : k < xs.length) : (xs.drop k).all p = (p xs[k] && (xs.drop (k + 1)).all p) := by
  rw [List.drop_eq_getElem_cons h, List.all_cons]
theorem allA_end {α : Type} {p : α → Bool} {xs : List α} {k : Nat} (h : ¬ k < xs.length) : (xs.drop k).all p = true := by
  rw [List.drop_eq_nil_of_le (by omega)]; rfl
theorem tB : SlT Try.prog 180 4 1 1 (.bool false) := ⟨Try.underlying180, by kernel_rfl, rfl, by omega⟩
set_option maxRecDepth 4000 in
set_option maxHeartbeats 4000000 in
theorem IsValidQuery_w {A B : Option Addr} {c e1 : Nat} {d : Qd} {w : World} (hb : WQ d) (h : vQ w [.int .i64 d.1, .slice A d.2.1.length c, .slice B d.2.2.length e1] d) :
    Calls Try.prog 156 #[.agg #[.int .i64 d.1, .slice A d.2.1.length c, .slice B d.2.2.length e1]] w fun e w' => e = .returned (.bool (vqB d)) ∧ ∃ y, w' = ext w y := by
  obtain ⟨r1, r2, hcap⟩ := vQ_get h
  obtain ⟨hz, b1, b2⟩ := hb
  obtain ⟨z, ats, out⟩ := d
  dsimp only at r1 r2 hcap hz b1 b2 ⊢
  have r1 := (vAts_get r1).2
  have m2 : out.length ≤ 1000000000 := by omega
  have b4 := b1.1
  have Hx := Lib.hid b1.2
  clear h b1
  obtain ⟨t1, ht1⟩ : ∃ t, inB z 1 5 = t := ⟨_, rfl⟩
  obtain ⟨t2, ht2⟩ : ∃ t, inB ats.length 1 4 = t := ⟨_, rfl⟩
  obtain ⟨t3, ht3⟩ : ∃ t, setB z [] out = t := ⟨_, rfl⟩
  have N1 := Lib.hid ht1
  have N2 := Lib.hid ht2
  have N3 := Lib.hid ht3
  have HE := Lib.hid (show vqB (z, ats, out) = (t1 && t2 && t3 && ats.all (atomB z) && coverB z ats) by unfold vqB; rw [ht1, ht2, ht3])
  clear ht1 ht2 ht3
  cases t1 with
  | false =>
    go_enter Try.func156, Try.ntmps156
    go_wp2_with (go_at_call 121; refine (within_any _ _ _ _).mono ?_; rintro e w' ⟨rfl, rfl⟩; (first | rw [N1.out] | rw [N2.out]))
    go_ret
    exact ⟨by rw [HE.out]; rfl, (by refine x'z ?_; repeat (with_reducible (first | exact x'a _ _ | exact x'b _ | exact x'c (by assumption) | refine x'd ?_ (by assumption) | refine x'e ?_ _ | refine x'f ?_ _ | refine x'g ?_ | refine x'h ?_ ?_ _ | refine x'i ?_ _ | refine x'j ?_ | refine x'k ?_ _ | refine x'l ?_ _ _ | refine x'm ?_ | assumption | (refine x'n ?_; omega) | omega)))⟩
  | true =>
    have hn := inB_t N1.out
    obtain ⟨n, rfl⟩ : ∃ n : Nat, z = n := ⟨z.toNat, by omega⟩
    have hn1 : n ≤ 5 := by omega
    have hn2 : 1 ≤ n := by omega
    clear hn hz
    cases t2 with
    | false =>
      go_enter Try.func156, Try.ntmps156
      go_wp2_with (go_at_call 121; refine (within_any _ _ _ _).mono ?_; rintro e w' ⟨rfl, rfl⟩; (first | rw [N1.out] | rw [N2.out]))
      go_ret
      exact ⟨by rw [HE.out]; rfl, (by refine x'z ?_; repeat (with_reducible (first | exact x'a _ _ | exact x'b _ | exact x'c (by assumption) | refine x'd ?_ (by assumption) | refine x'e ?_ _ | refine x'f ?_ _ | refine x'g ?_ | refine x'h ?_ ?_ _ | refine x'i ?_ _ | refine x'j ?_ | refine x'k ?_ _ | refine x'l ?_ _ _ | refine x'm ?_ | assumption | (refine x'n ?_; omega) | omega)))⟩
    | true =>
      cases t3 with
      | false =>
        go_enter Try.func156, Try.ntmps156
        go_wp2_with (first
          | (go_at_call 121; refine (within_any _ _ _ _).mono ?_; rintro e w' ⟨rfl, rfl⟩; (first | rw [N1.out] | rw [N2.out]))
          | (go_at_call 188; refine (isSetOf_any m2 hcap (r2.toExt (by refine x'z ?_; repeat (with_reducible (first | exact x'a _ _ | exact x'b _ | exact x'c (by assumption) | refine x'd ?_ (by assumption) | refine x'e ?_ _ | refine x'f ?_ _ | refine x'g ?_ | refine x'h ?_ ?_ _ | refine x'i ?_ _ | refine x'j ?_ | refine x'k ?_ _ | refine x'l ?_ _ _ | refine x'm ?_ | assumption | (refine x'n ?_; omega) | omega)))) (by omega) (by omega)).mono ?_; rintro e w1 ⟨rfl, y1, rfl⟩; rw [N3.out]))
        go_ret
        exact ⟨by rw [HE.out]; rfl, (by refine x'z ?_; repeat (with_reducible (first | exact x'a _ _ | exact x'b _ | exact x'c (by assumption) | refine x'd ?_ (by assumption) | refine x'e ?_ _ | refine x'f ?_ _ | refine x'g ?_ | refine x'h ?_ ?_ _ | refine x'i ?_ _ | refine x'j ?_ | refine x'k ?_ _ | refine x'l ?_ _ _ | refine x'm ?_ | assumption | (refine x'n ?_; omega) | omega)))⟩
      | true =>
        have HF := Lib.hid (show ats.all (atomB n) = false → vqB ((n : Int), ats, out) = false by rw [HE.out]; intro h; rw [h]; rfl)
        have HT := Lib.hid (show ats.all (atomB n) = true → vqB ((n : Int), ats, out) = (mkU n (seen ats)).all id by rw [HE.out]; intro h; rw [h]; rfl)
        have HU0 := Lib.hid (mkU_nil n)
        go_enter Try.func156, Try.ntmps156
        go_wp2_with (first
          | (go_at_call 121; refine (within_any _ _ _ _).mono ?_; rintro e w' ⟨rfl, rfl⟩; (first | rw [N1.out] | rw [N2.out]))
          | (go_at_call 188; refine (isSetOf_any m2 hcap (r2.toExt (by refine x'z ?_; repeat (with_reducible (first | exact x'a _ _ | exact x'b _ | exact x'c (by assumption) | refine x'd ?_ (by assumption) | refine x'e ?_ _ | refine x'f ?_ _ | refine x'g ?_ | refine x'h ?_ ?_ _ | refine x'i ?_ _ | refine x'j ?_ | refine x'k ?_ _ | refine x'l ?_ _ _ | refine x'm ?_ | assumption | (refine x'n ?_; omega) | omega)))) (by omega) (by omega)).mono ?_; rintro e w1 ⟨rfl, hx1⟩; rw [N3.out]; have P1 := (BoxAt.new w #[.int .i64 (n : Int), .slice A ats.length c, .slice B out.length e1] 55).toExt hx1; obtain ⟨l1, a1, a1', a1'', f1⟩ := box3 P1)
          | (at_make; refine wpList_makeS (E := sB) (d := false) (n := n) _ rfl _ _ _ rfl tB rfl rfl (fun _ => ⟨rfl, rfl⟩) (by omega) (by omega) ?_; intro w2 hS hx2 hg2; have P2 := P1.toExt hx2; obtain ⟨l2, a2, a2', a2'', f2⟩ := box3 P2))
        have hg1 := size_of_ext hx1
        simp only [World.size_alloc] at hg1
        rw [← HU0.out] at hS
        go_loopw [35] (fun i wr => ∃ k : Nat, i = .int .i64 k ∧ k ≤ ats.length ∧ SV 4 1 sB wr (.slice (some ⟨w1.heap.size, 0, none⟩) n n) (mkU n (seen (ats.take k))) [w1.heap.size] ∧ (∃ y, wr = ext w y) ∧ (ats.drop k).all (atomB n) = ats.all (atomB n)) (fun i _ => ats.length - (intOf i).toNat)
        case atStart => exact ⟨0, rfl, by omega, by simpa [seen] using hS, (by refine x'z ?_; repeat (with_reducible (first | exact x'a _ _ | exact x'b _ | exact x'c (by assumption) | refine x'd ?_ (by assumption) | refine x'e ?_ _ | refine x'f ?_ _ | refine x'g ?_ | refine x'h ?_ ?_ _ | refine x'i ?_ _ | refine x'j ?_ | refine x'k ?_ _ | refine x'l ?_ _ _ | refine x'm ?_ | assumption | (refine x'n ?_; omega) | omega))), by simp⟩
        case round =>
          obtain ⟨k, rfl, hk, hS, hy, hj⟩ := hrel
          have Hj := Lib.hid hj
          clear hj
          by_cases hlt : k < ats.length
          · obtain ⟨b, o, A', c', rfl, hb0, hc0, hd0, hv0⟩ := r1.atA hlt
            have hb : b < wr.heap.size := Nat.lt_of_lt_of_le hb0 (size_of_ext hy)
            have hc : wr.cell? ⟨b, o + k * 2, none⟩ = some (.string ats[k].1) := by obtain ⟨y, e⟩ := hy; rw [e, cell_ext hb0]; exact hc0
            have hd : wr.cell? ⟨b, o + k * 2 + 1, none⟩ = some (.slice A' ats[k].2.length c') := by obtain ⟨y, e⟩ := hy; rw [e, cell_ext hb0]; exact hd0
            clear hc0 hd0
            have hle := Hx.out ats[k] (List.getElem_mem hlt)
            obtain ⟨x1, x2⟩ := hle
            have x3 : ats[k].1.size ≤ 1000000000 := by omega
            have e := Hj.out
            rw [allA_step hlt] at e
            have HS := Lib.hid hS
            have Hst := Lib.hid (seen_take hlt)
            obtain ⟨s, hs⟩ : ∃ s, ats[k].1 = s := ⟨_, rfl⟩
            obtain ⟨xs, hxs⟩ : ∃ xs, ats[k].2 = xs := ⟨_, rfl⟩
            have ea : atomB n ats[k] = (nameB s && inB xs.length 1 5 && xs.all fun v => inB v 0 ((n : Int) - 1)) := by unfold atomB; rw [hs, hxs]
            rw [ea] at e
            have Hst : Hid (seen (ats.take (k + 1)) = seen (ats.take k) ++ xs) := Lib.hid (by rw [Hst.out, hxs])
            rw [hs] at hc x3
            rw [hxs] at hd hv0 x2
            obtain ⟨t4, ht4⟩ : ∃ t, nameB s = t := ⟨_, rfl⟩
            obtain ⟨t5, ht5⟩ : ∃ t, inB xs.length 1 5 = t := ⟨_, rfl⟩
            rw [ht4, ht5] at e
            have N4 := Lib.hid ht4
            have N5 := Lib.hid ht5
            have He := Lib.hid e
            clear e ea hs hxs ht4 ht5 hS x1
            cases t4 with
            | false =>
              go_wp2_with (go_at_call 144; refine (IsValidName_any x3).mono ?_; rintro e w' ⟨rfl, rfl⟩; rw [N4.out])
              go_ret
              exact ⟨by rw [HF.out He.out.symm]; rfl, (by refine x'z ?_; repeat (with_reducible (first | exact x'a _ _ | exact x'b _ | exact x'c (by assumption) | refine x'd ?_ (by assumption) | refine x'e ?_ _ | refine x'f ?_ _ | refine x'g ?_ | refine x'h ?_ ?_ _ | refine x'i ?_ _ | refine x'j ?_ | refine x'k ?_ _ | refine x'l ?_ _ _ | refine x'm ?_ | assumption | (refine x'n ?_; omega) | omega)))⟩
            | true =>
              cases t5 with
              | false =>
                go_wp2_with (first
                  | (go_at_call 144; refine (IsValidName_any x3).mono ?_; rintro e w' ⟨rfl, rfl⟩; rw [N4.out])
                  | (go_at_call 121; refine (within_any _ _ _ _).mono ?_; rintro e w' ⟨rfl, rfl⟩; rw [N5.out]))
                go_ret
                exact ⟨by rw [HF.out He.out.symm]; rfl, (by refine x'z ?_; repeat (with_reducible (first | exact x'a _ _ | exact x'b _ | exact x'c (by assumption) | refine x'd ?_ (by assumption) | refine x'e ?_ _ | refine x'f ?_ _ | refine x'g ?_ | refine x'h ?_ ?_ _ | refine x'i ?_ _ | refine x'j ?_ | refine x'k ?_ _ | refine x'l ?_ _ _ | refine x'm ?_ | assumption | (refine x'n ?_; omega) | omega)))⟩
              | true =>
                go_wp2_with (first
                  | (go_at_call 144; refine (IsValidName_any x3).mono ?_; rintro e w' ⟨rfl, rfl⟩; rw [N4.out])
                  | (go_at_call 121; refine (within_any _ _ _ _).mono ?_; rintro e w' ⟨rfl, rfl⟩; rw [N5.out]))
                have hyw : ∃ y, wr.alloc (.cells #[.string s, .slice A' xs.length c'] 81) = ext wr y := alloc_ext _ _
                go_loopw [53] (fun i vs => ∃ j : Nat, i = .int .i64 j ∧ j ≤ xs.length ∧ SV 4 1 sB vs (.slice (some ⟨w1.heap.size, 0, none⟩) n n) (mkU n (seen (ats.take k) ++ xs.take j)) [w1.heap.size] ∧ (∃ y, vs = ext w y) ∧ (xs.drop j).all (fun v => inB v 0 ((n : Int) - 1)) = xs.all fun v => inB v 0 ((n : Int) - 1)) (fun i _ => xs.length - (intOf i).toNat)
                case atStart => exact ⟨0, rfl, by omega, by simpa using HS.out.toExt hyw, (by refine x'z ?_; repeat (with_reducible (first | exact x'a _ _ | exact x'b _ | exact x'c (by assumption) | refine x'd ?_ (by assumption) | refine x'e ?_ _ | refine x'f ?_ _ | refine x'g ?_ | refine x'h ?_ ?_ _ | refine x'i ?_ _ | refine x'j ?_ | refine x'k ?_ _ | refine x'l ?_ _ _ | refine x'm ?_ | assumption | (refine x'n ?_; omega) | omega))), by simp⟩
                case round =>
                  obtain ⟨j, rfl, hj1, hS2, hy2, hj⟩ := hrel
                  have Hj2 := Lib.hid hj
                  have HS2 := Lib.hid hS2
                  clear hj
                  by_cases hlt2 : j < xs.length
                  · obtain ⟨b3, o3, rfl, hb3, hc3⟩ := (hv0.toExt hy2).atI hlt2
                    have e := Hj2.out
                    rw [allA_step hlt2] at e
                    obtain ⟨v, hvv⟩ : ∃ v, xs[j] = v := ⟨_, rfl⟩
                    have Hv := Lib.hid hvv
                    rw [hvv] at e hc3
                    obtain ⟨t6, ht6⟩ : ∃ t, inB v 0 ((n : Int) - 1) = t := ⟨_, rfl⟩
                    rw [ht6] at e
                    have N6 := Lib.hid ht6
                    have He2 := Lib.hid e
                    clear e hvv ht6
                    cases t6 with
                    | false =>
                      have HB := Lib.hid (show ats.all (atomB n) = false by rw [← He.out, ← He2.out]; rfl)
                      clear hS2
                      go_wp2_with (go_at_call 121; refine (within_any _ _ _ _).mono ?_; rintro e w' ⟨rfl, rfl⟩; rw [N6.out])
                      go_ret
                      exact ⟨by rw [HF.out HB.out]; rfl, hy2⟩
                    | true =>
                      have hvb := inB_t N6.out
                      obtain ⟨v0, v1⟩ := hvb
                      have v2 : v < (n : Int) := by omega
                      obtain ⟨⟨u, hu⟩, hf, hg⟩ := hS2.cell (by simp) (j := v.toNat) (by omega)
                      have Hset := Lib.hid (show (mkU n (seen (ats.take k) ++ xs.take j)).set v.toNat true = mkU n (seen (ats.take k) ++ xs.take (j + 1)) by
                        rw [mkU_set v0, List.take_succ_eq_append_getElem hlt2, Hv.out, List.append_assoc])
                      clear hS2
                      go_wp2_with (go_at_call 121; refine (within_any _ _ _ _).mono ?_; rintro e w' ⟨rfl, rfl⟩; rw [N6.out])
                      obtain ⟨h3, h4⟩ := HS2.out.set1 (by simp) (k := v.toNat) (by omega) (u := .bool true) (d := true) (fun _ => ⟨rfl, rfl⟩)
                      rw [Hset.out] at h3
                      exact ⟨⟨j + 1, by go_num, by omega, h3, h4.isExt hy2 (by simpa using by omega), by simpa using He2.out⟩, by simp [intOf]; omega⟩
                  · have e := Hj2.out
                    rw [allA_end hlt2] at e
                    have e2 := He.out
                    rw [← e] at e2
                    have He2 := Lib.hid e2
                    rw [show xs.take j = xs from List.take_of_length_le (by omega), ← Hst.out] at hS2
                    clear e e2
                    go_wp2
                    exact ⟨⟨k + 1, by go_num, by omega, hS2, hy2, by simpa using He2.out⟩, by simp [intOf]; omega⟩
          · have e := Hj.out
            rw [allA_end hlt] at e
            have HE2 := Lib.hid (HT.out e.symm)
            rw [List.take_of_length_le (by omega)] at hS
            have hV := hS.toView sB_v
            clear e
            go_wp2
            clear hlt Hj
            go_loopw [69] (fun i ws => ∃ k : Nat, i = .int .i64 k ∧ k ≤ n ∧ ((mkU n (seen ats)).drop k).all id = (mkU n (seen ats)).all id ∧ ∃ y, ws = ext wr y) (fun i _ => n - (intOf i).toNat)
            case atStart => exact ⟨0, rfl, by omega, by simp, refl_ext _⟩
            case round =>
              obtain ⟨k, rfl, hk, hj, hy3⟩ := hrel
              have Hj := Lib.hid hj
              clear hj
              by_cases hlt : k < n
              · have hlt2 : k < (mkU n (seen ats)).length := by simpa using hlt
                obtain ⟨b3, o3, hA3, hb3, hc3⟩ := (hV.toExt hy3).atB hlt2
                injection hA3 with hA3
                injection hA3 with e1 e2
                subst e1 e2
                have e := Hj.out
                rw [allA_step hlt2] at e
                obtain ⟨t, ht⟩ : ∃ t, (mkU n (seen ats))[k] = t := ⟨_, rfl⟩
                rw [ht] at e hc3
                rw [Nat.zero_add] at hc3
                have He := Lib.hid e
                clear e ht
                cases t with
                | true =>
                  go_wp2
                  exact ⟨⟨k + 1, by go_num, by omega, by simpa using He.out, hy3⟩, by simp [intOf]; omega⟩
                | false =>
                  go_wp2
                  go_ret
                  exact ⟨by rw [HE2.out, ← He.out]; rfl, trans_ext hy hy3⟩
              · have e := Hj.out
                rw [allA_end (by simpa using hlt)] at e
                have He := Lib.hid e
                clear e
                go_wp2
                go_ret
                exact ⟨by rw [HE2.out, ← He.out]; rfl, trans_ext hy hy3⟩
theorem IsValidQuery_any {A B : Option Addr} {c e1 : Nat} {d : Qd} {w : World} (hb : BQ d) (h : vQ w [.int .i64 d.1, .slice A d.2.1.length c, .slice B d.2.2.length e1] d) :
    Calls Try.prog 156 #[.agg #[.int .i64 d.1, .slice A d.2.1.length c, .slice B d.2.2.length e1]] w fun e w' => e = .returned (.bool (vqB d)) ∧ ∃ y, w' = ext w y := IsValidQuery_w hb.w h
theorem quietEi' {P : Program} {f : FuncId} {args : Array Value} {w y : World} {m n : Int}
    (h : Calls P f args (ext w y) fun e w' => e = .returned (.int .i64 m) ∧ ∃ z, w' = ext (ext w y) z) (hc : m = n) : Calls P f args (ext w y) fun e w' => e = .returned (.int .i64 n) ∧ ∃ z, w' = ext w z := by
  subst hc; exact quietE h
theorem l7Find_n {A : Option Addr} {c m : Nat} {xs : List Int} {n : Int} {w : World} (hm : xs.length = m) (hx : m ≤ 1000000000) (h1 : RI w A xs) :
    Calls Try.prog 125 #[.slice A m c, .int .i64 n] w fun e w' => e = .returned (.int .i64 (iof 0 n xs)) ∧ ∃ y, w' = ext w y := by
  subst hm
  exact l7Find_any hx h1
set_option maxRecDepth 100000 in
set_option maxHeartbeats 8000000 in
theorem specIsValidQuery_w {A B : Option Addr} {c e1 : Nat} {d : Qd} {w : World} (hb : WQ d) (h : vQ w [.int .i64 d.1, .slice A d.2.1.length c, .slice B d.2.2.length e1] d) :
    Calls Try.prog 157 #[.agg #[.int .i64 d.1, .slice A d.2.1.length c, .slice B d.2.2.length e1]] w fun e w' => e = .returned (.bool (vqB d)) ∧ ∃ y, w' = ext w y := by
  obtain ⟨r1, r2, hcap⟩ := vQ_get h
  obtain ⟨hz, b1, b2⟩ := hb
  obtain ⟨z, ats, out⟩ := d
  dsimp only at r1 r2 hcap hz b1 b2 ⊢
  have r1 := (vAts_get r1).2
  have m2 : out.length ≤ 1000000000 := by omega
  have b4 := b1.1
  have Hx := Lib.hid b1.2
  clear h b1
  obtain ⟨t1, ht1⟩ : ∃ t, inB z 1 5 = t := ⟨_, rfl⟩
  obtain ⟨t2, ht2⟩ : ∃ t, inB ats.length 1 4 = t := ⟨_, rfl⟩
  have N1 := Lib.hid ht1
  have N2 := Lib.hid ht2
  have HE := Lib.hid (show vqB (z, ats, out) = (t1 && t2 && setB z [] out && ats.all (atomB z) && coverB z ats) by unfold vqB; rw [ht1, ht2])
  clear ht1 ht2
  cases t1 with
  | false =>
    go_enter Try.func157, Try.ntmps157
    go_wp2_with (go_at_call 123; refine (l1In_any _ _ _ _).mono ?_; rintro e w' ⟨rfl, rfl⟩; (first | rw [N1.out] | rw [N2.out]))
    go_ret
    exact ⟨by rw [HE.out]; rfl, (by refine x'z ?_; repeat (with_reducible (first | exact x'a _ _ | exact x'b _ | exact x'c (by assumption) | refine x'd ?_ (by assumption) | refine x'e ?_ _ | refine x'f ?_ _ | refine x'g ?_ | refine x'h ?_ ?_ _ | refine x'i ?_ _ | refine x'j ?_ | refine x'k ?_ _ | refine x'l ?_ _ _ | refine x'm ?_ | assumption | (refine x'n ?_; omega) | omega)))⟩
  | true =>
    have hn := inB_t N1.out
    obtain ⟨n, rfl⟩ : ∃ n : Nat, z = n := ⟨z.toNat, by omega⟩
    have hn1 : n ≤ 5 := by omega
    have hn2 : 1 ≤ n := by omega
    clear hn hz
    cases t2 with
    | false =>
      go_enter Try.func157, Try.ntmps157
      go_wp2_with (go_at_call 123; refine (l1In_any _ _ _ _).mono ?_; rintro e w' ⟨rfl, rfl⟩; (first | rw [N1.out] | rw [N2.out]))
      go_ret
      exact ⟨by rw [HE.out]; rfl, (by refine x'z ?_; repeat (with_reducible (first | exact x'a _ _ | exact x'b _ | exact x'c (by assumption) | refine x'd ?_ (by assumption) | refine x'e ?_ _ | refine x'f ?_ _ | refine x'g ?_ | refine x'h ?_ ?_ _ | refine x'i ?_ _ | refine x'j ?_ | refine x'k ?_ _ | refine x'l ?_ _ _ | refine x'm ?_ | assumption | (refine x'n ?_; omega) | omega)))⟩
    | true =>
      by_cases hbig : n < out.length
      · have HF := Lib.hid (show vqB ((n : Int), ats, out) = false by
          rw [HE.out]
          cases hs : setB n [] out with
          | false => rfl
          | true => have := setB_len hs (by omega); omega)
        go_enter Try.func157, Try.ntmps157
        go_wp2_with (go_at_call 123; refine (l1In_any _ _ _ _).mono ?_; rintro e w' ⟨rfl, rfl⟩; (first | rw [N1.out] | rw [N2.out]))
        go_ret
        exact ⟨by rw [HF.out]; rfl, (by refine x'z ?_; repeat (with_reducible (first | exact x'a _ _ | exact x'b _ | exact x'c (by assumption) | refine x'd ?_ (by assumption) | refine x'e ?_ _ | refine x'f ?_ _ | refine x'g ?_ | refine x'h ?_ ?_ _ | refine x'i ?_ _ | refine x'j ?_ | refine x'k ?_ _ | refine x'l ?_ _ _ | refine x'm ?_ | assumption | (refine x'n ?_; omega) | omega)))⟩
      · have HF1 := Lib.hid (show ats.all (atomB n) = false → vqB ((n : Int), ats, out) = false by rw [HE.out]; intro h; rw [h, Bool.and_false]; rfl)
        have HF2 := Lib.hid (show (mkU n (seen ats)).all id = false → vqB ((n : Int), ats, out) = false by rw [HE.out]; intro h; rw [show coverB n ats = (mkU n (seen ats)).all id from rfl, h, Bool.and_false])
        have HT := Lib.hid (show ats.all (atomB n) = true → (mkU n (seen ats)).all id = true → vqB ((n : Int), ats, out) = setB n [] out by rw [HE.out]; intro h h2; rw [h, show coverB n ats = (mkU n (seen ats)).all id from rfl, h2]; simp)
        have hw1 : IntKind.i64.wrap ((n : Int) - 1) = (n : Int) - 1 := by rw [IntKind.wrap_i64]; omega
        go_enter Try.func157, Try.ntmps157
        go_upto_region 1 with fail
        refine wp_name ?_
        intro W hW
        have xW : ∃ y, W = ext w y := by rw [hW.out]; exact (by refine x'z ?_; repeat (with_reducible (first | exact x'a _ _ | exact x'b _ | exact x'c (by assumption) | refine x'd ?_ (by assumption) | refine x'e ?_ _ | refine x'f ?_ _ | refine x'g ?_ | refine x'h ?_ ?_ _ | refine x'i ?_ _ | refine x'j ?_ | refine x'k ?_ _ | refine x'l ?_ _ _ | refine x'm ?_ | assumption | (refine x'n ?_; omega) | omega)))
        have BW0 : BoxAt W (w.heap.size) #[.int .i64 (n : Int), .slice A ats.length c, .slice B out.length e1] := by rw [hW.out]; refine ⟨?_, fun j => ?_, fun j => ?_⟩ <;> go_simp
        obtain ⟨lW0, bW0, fW0⟩ := BW0
        have cW0_0 : W.cell? ⟨w.heap.size, 0, none⟩ = some (.int .i64 (n : Int)) := bW0 0
        have cW0_1 : W.cell? ⟨w.heap.size, 1, none⟩ = some (.slice A ats.length c) := bW0 1
        have cW0_2 : W.cell? ⟨w.heap.size, 2, none⟩ = some (.slice B out.length e1) := bW0 2
        clear hW
        go_wp2_with (go_at_call 123; refine (l1In_any _ _ _ _).mono ?_; rintro e w' ⟨rfl, rfl⟩; (first | rw [N1.out] | rw [N2.out]))
        have r1 := r1.toExt xW
        have r2 := r2.toExt xW
        go_loopw [3] (fun i wr => ∃ k : Nat, i = .int .i64 k ∧ k ≤ ats.length ∧ (∃ y, wr = ext W y) ∧ (ats.drop k).all (atomB n) = ats.all (atomB n)) (fun i _ => ats.length - (intOf i).toNat)
        case atStart => exact ⟨0, rfl, by omega, refl_ext _, by simp⟩
        case round =>
          obtain ⟨k, rfl, hk, hy, hj⟩ := hrel
          have Hj := Lib.hid hj
          clear hj
          obtain ⟨l1, a1, a1', a1'', f1⟩ := box3 (BoxAt.toExt (cs := #[_, _, _]) ⟨lW0, bW0, fW0⟩ hy)
          by_cases hlt : k < ats.length
          · obtain ⟨b, o, A', c', rfl, hb0, hc0, hd0, hv0⟩ := r1.atA hlt
            have hb : b < wr.heap.size := Nat.lt_of_lt_of_le hb0 (size_of_ext hy)
            have hc : wr.cell? ⟨b, o + k * 2, none⟩ = some (.string ats[k].1) := by obtain ⟨y, e⟩ := hy; rw [e, cell_ext hb0]; exact hc0
            have hd : wr.cell? ⟨b, o + k * 2 + 1, none⟩ = some (.slice A' ats[k].2.length c') := by obtain ⟨y, e⟩ := hy; rw [e, cell_ext hb0]; exact hd0
            have hle := Hx.out ats[k] (List.getElem_mem hlt)
            obtain ⟨x1, x2⟩ := hle
            have x3 : ats[k].1.size ≤ 1000000000 := by omega
            have e := Hj.out
            rw [allA_step hlt] at e
            obtain ⟨s, hs⟩ : ∃ s, ats[k].1 = s := ⟨_, rfl⟩
            obtain ⟨xs, hxs⟩ : ∃ xs, ats[k].2 = xs := ⟨_, rfl⟩
            have ea : atomB n ats[k] = (nameB s && inB xs.length 1 5 && xs.all fun v => inB v 0 ((n : Int) - 1)) := by unfold atomB; rw [hs, hxs]
            rw [ea] at e
            rw [hs] at hc x3
            rw [hxs] at hd hd0 hv0 x2
            obtain ⟨t4, ht4⟩ : ∃ t, nameB s = t := ⟨_, rfl⟩
            obtain ⟨t5, ht5⟩ : ∃ t, inB xs.length 1 5 = t := ⟨_, rfl⟩
            rw [ht4, ht5] at e
            have N4 := Lib.hid ht4
            have N5 := Lib.hid ht5
            have He := Lib.hid e
            have Hd0 := Lib.hid hd0
            clear e ea hs hxs ht4 ht5 x1 hc0 hd0
            cases t4 with
            | false =>
              go_wp2_with (go_at_call 143; refine (specIsValidName_any x3).mono ?_; rintro e w' ⟨rfl, rfl⟩; rw [N4.out])
              go_ret
              exact ⟨by rw [HF1.out He.out.symm]; rfl, trans_ext xW hy⟩
            | true =>
              cases t5 with
              | false =>
                go_wp2_with (first
                  | (go_at_call 143; refine (specIsValidName_any x3).mono ?_; rintro e w' ⟨rfl, rfl⟩; rw [N4.out])
                  | (go_at_call 123; refine (l1In_any _ _ _ _).mono ?_; rintro e w' ⟨rfl, rfl⟩; rw [N5.out]))
                go_ret
                exact ⟨by rw [HF1.out He.out.symm]; rfl, trans_ext xW hy⟩
              | true =>
                go_wp2_with (first
                  | (go_at_call 143; refine (specIsValidName_any x3).mono ?_; rintro e w' ⟨rfl, rfl⟩; rw [N4.out])
                  | (go_at_call 123; refine (l1In_any _ _ _ _).mono ?_; rintro e w' ⟨rfl, rfl⟩; rw [N5.out]))
                clear l1 a1 a1' a1'' f1 hb hc hd
                go_loopw [4] (fun i vs => ∃ j : Nat, i = .int .i64 j ∧ j ≤ xs.length ∧ (∃ y, vs = ext W y) ∧ (xs.drop j).all (fun v => inB v 0 ((n : Int) - 1)) = xs.all fun v => inB v 0 ((n : Int) - 1)) (fun i _ => xs.length - (intOf i).toNat)
                case atStart => exact ⟨0, rfl, by omega, hy, by simp⟩
                case round =>
                  obtain ⟨j, rfl, hj1, hy2, hj⟩ := hrel
                  have Hj2 := Lib.hid hj
                  clear hj
                  obtain ⟨l2, a2, a2', a2'', f2⟩ := box3 (BoxAt.toExt (cs := #[_, _, _]) ⟨lW0, bW0, fW0⟩ hy2)
                  have hb : b < wr.heap.size := Nat.lt_of_lt_of_le hb0 (size_of_ext hy2)
                  have hd : wr.cell? ⟨b, o + k * 2 + 1, none⟩ = some (.slice A' xs.length c') := by obtain ⟨y, e⟩ := hy2; rw [e, cell_ext hb0]; exact Hd0.out
                  by_cases hlt2 : j < xs.length
                  · obtain ⟨b3, o3, rfl, hb3, hc3⟩ := (hv0.toExt hy2).atI hlt2
                    have e := Hj2.out
                    rw [allA_step hlt2] at e
                    obtain ⟨v, hvv⟩ : ∃ v, xs[j] = v := ⟨_, rfl⟩
                    rw [hvv] at e hc3
                    obtain ⟨t6, ht6⟩ : ∃ t, inB v 0 ((n : Int) - 1) = t := ⟨_, rfl⟩
                    rw [ht6] at e
                    have N6 := Lib.hid ht6
                    have He2 := Lib.hid e
                    clear e hvv ht6
                    cases t6 with
                    | false =>
                      have HB := Lib.hid (show ats.all (atomB n) = false by rw [← He.out, ← He2.out]; rfl)
                      go_wp2
                      refine wp_region_ext (by kernel_rfl) (by kernel_rfl) ?_
                      repeat (go_big_quiet_step ((go_at_call 123; (try rw [hw1]); exact quietSb (l1In_any _ _ _ _) N6.out)))
                      refine wpQuiet_nil ?_
                      rintro _ ⟨zz, rfl⟩
                      go_wp2
                      go_ret
                      exact ⟨by rw [HF1.out HB.out]; rfl, (by refine x'z ?_; repeat (with_reducible (first | exact x'a _ _ | exact x'b _ | exact x'c (by assumption) | refine x'd ?_ (by assumption) | refine x'e ?_ _ | refine x'f ?_ _ | refine x'g ?_ | refine x'h ?_ ?_ _ | refine x'i ?_ _ | refine x'j ?_ | refine x'k ?_ _ | refine x'l ?_ _ _ | refine x'm ?_ | assumption | (refine x'n ?_; omega) | omega)))⟩
                    | true =>
                      go_wp2
                      refine wp_region_ext (by kernel_rfl) (by kernel_rfl) ?_
                      repeat (go_big_quiet_step ((go_at_call 123; (try rw [hw1]); exact quietSb (l1In_any _ _ _ _) N6.out)))
                      refine wpQuiet_nil ?_
                      rintro _ ⟨zz, rfl⟩
                      go_wp2
                      exact ⟨⟨j + 1, by go_num, by omega, (by refine x'z ?_; repeat (with_reducible (first | exact x'a _ _ | exact x'b _ | exact x'c (by assumption) | refine x'd ?_ (by assumption) | refine x'e ?_ _ | refine x'f ?_ _ | refine x'g ?_ | refine x'h ?_ ?_ _ | refine x'i ?_ _ | refine x'j ?_ | refine x'k ?_ _ | refine x'l ?_ _ _ | refine x'm ?_ | assumption | (refine x'n ?_; omega) | omega))), by simpa using He2.out⟩, by simp [intOf]; omega⟩
                  · have e := Hj2.out
                    rw [allA_end hlt2] at e
                    have e2 := He.out
                    rw [← e] at e2
                    have He2 := Lib.hid e2
                    clear e e2
                    go_wp2
                    exact ⟨⟨k + 1, by go_num, by omega, hy2, by simpa using He2.out⟩, by simp [intOf]; omega⟩
          · have e := Hj.out
            rw [allA_end hlt] at e
            have HA := Lib.hid e.symm
            clear e
            go_wp2
            clear hlt Hj l1 a1 a1' a1'' f1
            go_loopw [5] (fun i wr => ∃ v : Nat, i = .int .i64 v ∧ v ≤ n ∧ (∃ y, wr = ext W y) ∧ ((mkU n (seen ats)).drop v).all id = (mkU n (seen ats)).all id) (fun i _ => n - (intOf i).toNat)
            case atStart => exact ⟨0, rfl, by omega, hy, by simp⟩
            case round =>
              obtain ⟨v, rfl, hv, hy, hj⟩ := hrel
              have Hj := Lib.hid hj
              clear hj
              obtain ⟨l1, a1, a1', a1'', f1⟩ := box3 (BoxAt.toExt (cs := #[_, _, _]) ⟨lW0, bW0, fW0⟩ hy)
              by_cases hlt : v < n
              · have hlt2 : v < (mkU n (seen ats)).length := by simpa using hlt
                have e := Hj.out
                rw [allA_step hlt2] at e
                have em : (mkU n (seen ats))[v] = decide ((v : Int) ∈ seen ats) := by simp [mkU]
                rw [em] at e
                have He := Lib.hid e
                clear e em
                go_wp2
                clear l1 a1 a1' a1'' f1
                go_loopw [6, 7] (fun s i vs => ∃ k : Nat, i = .int .i64 k ∧ s = .bool (decide ((v : Int) ∈ seen (ats.take k))) ∧ k ≤ ats.length ∧ (∃ y, vs = ext W y)) (fun _ i _ => ats.length - (intOf i).toNat)
                case atStart => exact ⟨0, rfl, by simp [seen], by omega, hy⟩
                case round =>
                  obtain ⟨k, rfl, rfl, hk, hy2⟩ := hrel
                  obtain ⟨l2, a2, a2', a2'', f2⟩ := box3 (BoxAt.toExt (cs := #[_, _, _]) ⟨lW0, bW0, fW0⟩ hy2)
                  by_cases hlt3 : k < ats.length
                  · obtain ⟨b, o, A', c', rfl, hb0, hc0, hd0, hv0⟩ := r1.atA hlt3
                    have hb : b < wr.heap.size := Nat.lt_of_lt_of_le hb0 (size_of_ext hy2)
                    have hc : wr.cell? ⟨b, o + k * 2, none⟩ = some (.string ats[k].1) := by obtain ⟨y, e⟩ := hy2; rw [e, cell_ext hb0]; exact hc0
                    have hd : wr.cell? ⟨b, o + k * 2 + 1, none⟩ = some (.slice A' ats[k].2.length c') := by obtain ⟨y, e⟩ := hy2; rw [e, cell_ext hb0]; exact hd0
                    have x2 : ats[k].2.length ≤ 1000000000 := by have := (Hx.out ats[k] (List.getElem_mem hlt3)).2; omega
                    have hst : decide ((v : Int) ∈ seen (ats.take (k + 1))) = (decide ((v : Int) ∈ seen (ats.take k)) || decide ((v : Int) ∈ ats[k].2)) := by
                      rw [seen_take hlt3, Bool.eq_iff_iff]; simp
                    obtain ⟨t7, ht7⟩ : ∃ t, decide ((v : Int) ∈ seen (ats.take k)) = t := ⟨_, rfl⟩
                    obtain ⟨t8, ht8⟩ : ∃ t, decide ((v : Int) ∈ ats[k].2) = t := ⟨_, rfl⟩
                    rw [ht7, ht8] at hst
                    rw [ht7]
                    have Hst := Lib.hid hst
                    have H8 := Lib.hid ht8
                    clear hst ht7 ht8 hc0 hd0
                    cases t7 with
                    | true =>
                      go_wp2
                      exact ⟨⟨k + 1, by go_num, by rw [Hst.out]; rfl, by omega, hy2⟩, by simp [intOf]; omega⟩
                    | false =>
                      go_wp2_with (go_at_call 151; refine (specContains_any x2 (hv0.toExt hy2)).mono ?_; rintro e w1 ⟨rfl, hx1⟩; rw [H8.out])
                      exact ⟨⟨k + 1, by go_num, by rw [Hst.out, Bool.false_or], by omega, (by refine x'z ?_; repeat (with_reducible (first | exact x'a _ _ | exact x'b _ | exact x'c (by assumption) | refine x'd ?_ (by assumption) | refine x'e ?_ _ | refine x'f ?_ _ | refine x'g ?_ | refine x'h ?_ ?_ _ | refine x'i ?_ _ | refine x'j ?_ | refine x'k ?_ _ | refine x'l ?_ _ _ | refine x'm ?_ | assumption | (refine x'n ?_; omega) | omega)))⟩, by simp [intOf]; omega⟩
                  · have ek : ats.take k = ats := List.take_of_length_le (by omega)
                    rw [ek]
                    have He2 := He.out
                    obtain ⟨t9, ht9⟩ : ∃ t, decide ((v : Int) ∈ seen ats) = t := ⟨_, rfl⟩
                    rw [ht9] at He2 ⊢
                    have HR := Lib.hid He2
                    clear ek He2 ht9
                    cases t9 with
                    | true =>
                      go_wp2
                      exact ⟨⟨v + 1, by go_num, by omega, hy2, by simpa using HR.out⟩, by simp [intOf]; omega⟩
                    | false =>
                      go_wp2
                      go_ret
                      exact ⟨by rw [HF2.out HR.out.symm]; rfl, trans_ext xW hy2⟩
              · have e := Hj.out
                rw [allA_end (by simpa using hlt)] at e
                have HU := Lib.hid (HT.out HA.out e.symm)
                clear e
                go_wp2
                clear hlt Hj l1 a1 a1' a1'' f1
                go_loopw [8] (fun i wr => ∃ k : Nat, i = .int .i64 k ∧ k ≤ out.length ∧ (∃ y, wr = ext W y) ∧ setB n (out.take k) (out.drop k) = setB n [] out) (fun i _ => out.length - (intOf i).toNat)
                case atStart => exact ⟨0, rfl, by omega, hy, by simp⟩
                case round =>
                  obtain ⟨k, rfl, hk, hy3, hj⟩ := hrel
                  have Hj := Lib.hid hj
                  clear hj
                  obtain ⟨l3, a3, a3', a3'', f3⟩ := box3 (BoxAt.toExt (cs := #[_, _, _]) ⟨lW0, bW0, fW0⟩ hy3)
                  by_cases hlt : k < out.length
                  · have r2' := r2.toExt hy3
                    obtain ⟨b, o, rfl, hb, hc⟩ := r2'.atI hlt
                    have e := Hj.out
                    rw [setB_step hlt] at e
                    obtain ⟨x, hx⟩ : ∃ x, out[k] = x := ⟨_, rfl⟩
                    rw [hx] at e hc
                    obtain ⟨t1, ht1⟩ : ∃ t, inB x 0 ((n : Int) - 1) = t := ⟨_, rfl⟩
                    obtain ⟨m, hm⟩ : ∃ m, iof 0 x (out.take k) = m := ⟨_, rfl⟩
                    have hmm := iof_nonneg (n := x) 0 (out.take k)
                    rw [hm] at hmm
                    have hp := r2'.pre k
                    have HP := Lib.hid (show (out.take k).length = k by simp; omega)
                    have T1 := Lib.hid ht1
                    have T2 := Lib.hid hm
                    have g1 : (0 : Int) ≤ (k : Int) := by omega
                    have g2 : (k : Int) ≤ (e1 : Int) := by omega
                    rw [ht1] at e
                    cases t1 with
                    | false =>
                      have He := Lib.hid e
                      clear e ht1 hm hx hmm
                      go_wp2
                      refine wp_region_ext (by kernel_rfl) (by kernel_rfl) ?_
                      repeat (go_big_quiet_step ((go_at_call 123; (try rw [hw1]); exact quietSb (l1In_any _ _ _ _) T1.out)))
                      refine wpQuiet_nil ?_
                      rintro _ ⟨zz, rfl⟩
                      go_wp2
                      go_ret
                      exact ⟨by rw [HU.out, ← He.out]; rfl, (by refine x'z ?_; repeat (with_reducible (first | exact x'a _ _ | exact x'b _ | exact x'c (by assumption) | refine x'd ?_ (by assumption) | refine x'e ?_ _ | refine x'f ?_ _ | refine x'g ?_ | refine x'h ?_ ?_ _ | refine x'i ?_ _ | refine x'j ?_ | refine x'k ?_ _ | refine x'l ?_ _ _ | refine x'm ?_ | assumption | (refine x'n ?_; omega) | omega)))⟩
                    | true =>
                      by_cases hm0 : 0 ≤ m
                      · rw [decide_eq_true (hmm.1 hm0)] at e
                        have He := Lib.hid e
                        clear e ht1 hm hx hmm
                        go_wp2
                        refine wp_region_ext (by kernel_rfl) (by kernel_rfl) ?_
                        repeat (go_big_quiet_step (first | (go_at_call 123; (try rw [hw1]); exact quietSb (l1In_any _ _ _ _) T1.out) | (go_at_call 125; exact quietEi' (l7Find_n HP.out (by omega) hp.ext) T2.out)))
                        refine wpQuiet_nil ?_
                        rintro _ ⟨zz, rfl⟩
                        go_wp2
                        go_ret
                        exact ⟨by rw [HU.out, ← He.out]; rfl, (by refine x'z ?_; repeat (with_reducible (first | exact x'a _ _ | exact x'b _ | exact x'c (by assumption) | refine x'd ?_ (by assumption) | refine x'e ?_ _ | refine x'f ?_ _ | refine x'g ?_ | refine x'h ?_ ?_ _ | refine x'i ?_ _ | refine x'j ?_ | refine x'k ?_ _ | refine x'l ?_ _ _ | refine x'm ?_ | assumption | (refine x'n ?_; omega) | omega)))⟩
                      · rw [decide_eq_false (fun h => hm0 (hmm.2 h))] at e
                        have He := Lib.hid e
                        have hm1 : m < 0 := by omega
                        clear e ht1 hm hx hmm
                        go_wp2
                        refine wp_region_ext (by kernel_rfl) (by kernel_rfl) ?_
                        repeat (go_big_quiet_step (first | (go_at_call 123; (try rw [hw1]); exact quietSb (l1In_any _ _ _ _) T1.out) | (go_at_call 125; exact quietEi' (l7Find_n HP.out (by omega) hp.ext) T2.out)))
                        refine wpQuiet_nil ?_
                        rintro _ ⟨zz, rfl⟩
                        go_wp2
                        exact ⟨⟨k + 1, by go_num, by omega, (by refine x'z ?_; repeat (with_reducible (first | exact x'a _ _ | exact x'b _ | exact x'c (by assumption) | refine x'd ?_ (by assumption) | refine x'e ?_ _ | refine x'f ?_ _ | refine x'g ?_ | refine x'h ?_ ?_ _ | refine x'i ?_ _ | refine x'j ?_ | refine x'k ?_ _ | refine x'l ?_ _ _ | refine x'm ?_ | assumption | (refine x'n ?_; omega) | omega))), by simpa using He.out⟩, by simp [intOf]; omega⟩
                  · have e := Hj.out
                    rw [setB_end hlt] at e
                    have He := Lib.hid e
                    clear e
                    go_wp2
                    go_ret
                    exact ⟨by rw [HU.out, ← He.out]; rfl, trans_ext xW hy3⟩
theorem specIsValidQuery_any {A B : Option Addr} {c e1 : Nat} {d : Qd} {w : World} (hb : BQ d) (h : vQ w [.int .i64 d.1, .slice A d.2.1.length c, .slice B d.2.2.length e1] d) :
    Calls Try.prog 157 #[.agg #[.int .i64 d.1, .slice A d.2.1.length c, .slice B d.2.2.length e1]] w fun e w' => e = .returned (.bool (vqB d)) ∧ ∃ y, w' = ext w y := specIsValidQuery_w hb.w h
end Go.Proofs.Ytfigcfajkilhiaa

/- Queries as text; the program's way and the reference's. -/
namespace Go.Proofs.Ytfigcfajkilhiaa
open Go.RowKit

theorem ba_assoc (a b c : ByteArray) : a ++ b ++ c = a ++ (b ++ c) := bl_inj (by simp [bl])
theorem ba_nil (a : ByteArray) : a ++ ⟨#[]⟩ = a := bl_inj (by simp [bl])
theorem nil_ba (a : ByteArray) : ⟨#[]⟩ ++ a = a := bl_inj (by simp [bl])
def nmG : ByteArray → List Int → ByteArray
  | acc, [] => acc
  | acc, v :: vs => nmG (acc ++ vname v) vs
def names (l : List Int) : ByteArray := nmG ⟨#[]⟩ l
theorem nmG_eq : ∀ (l : List Int) (acc : ByteArray), nmG acc l = acc ++ names l
  | [], acc => by rw [names, nmG, nmG, ba_nil]
  | v :: vs, acc => by
    have e : names (v :: vs) = vname v ++ names vs := by
      show nmG (⟨#[]⟩ ++ vname v) vs = _
      rw [nil_ba, nmG_eq vs]
    rw [nmG, nmG_eq vs, e, ba_assoc]
theorem nmG_step {acc : ByteArray} {l : List Int} {k : Nat} (h : k < l.length) : nmG acc (l.drop k) = nmG (acc ++ vname l[k]) (l.drop (k + 1)) := by
  rw [List.drop_eq_getElem_cons h, nmG]
theorem nmG_end {acc : ByteArray} {l : List Int} {k : Nat} (h : ¬ k < l.length) : nmG acc (l.drop k) = acc := by
  rw [List.drop_eq_nil_of_le (by omega), nmG]
theorem vname_size (v : Int) : (vname v).size ≤ 1 := by
  unfold vname
  split
  · rw [ByteArray.size_extract]; omega
  · decide
theorem names_size : ∀ (l : List Int), (names l).size ≤ l.length
  | [] => by decide
  | v :: vs => by
    have h1 := names_size vs
    have h2 := vname_size v
    rw [show names (v :: vs) = nmG (⟨#[]⟩ ++ vname v) vs from rfl, nil_ba, nmG_eq, ba_size, List.length_cons]
    omega
def par (l : List Int) : ByteArray := ⟨#[40]⟩ ++ names l ++ ⟨#[41]⟩
def atomT (x : At) : ByteArray := x.1 ++ ⟨#[40]⟩ ++ names x.2 ++ ⟨#[41]⟩
def fmtQ (d : Qd) : ByteArray := if vqB d = true then ⟨#[40]⟩ ++ names d.2.2 ++ ⟨#[41, 61]⟩ ++ joinF ⟨#[44]⟩ 0 ⟨#[]⟩ (d.2.1.map atomT) else ⟨#[]⟩
theorem atomT_par (x : At) : x.1 ++ par x.2 = atomT x := by unfold par atomT; simp only [ba_assoc]
theorem joinF_acc (sep : ByteArray) : ∀ (ps : List ByteArray) (k : Nat) (acc : ByteArray), joinF sep k acc ps = acc ++ joinF sep k ⟨#[]⟩ ps
  | [], k, acc => by rw [joinF, joinF, ba_nil]
  | p :: ps, k, acc => by
    rw [joinF, joinF, joinF_acc sep ps, joinF_acc sep ps (k + 1) ((if 0 < k then ⟨#[]⟩ ++ sep else ⟨#[]⟩) ++ p)]
    split
    · simp only [nil_ba, ba_assoc]
    · simp only [nil_ba, ba_assoc]
theorem fmtQ_par {d : Qd} (h : vqB d = true) : joinF ⟨#[44]⟩ 0 (par d.2.2 ++ ⟨#[61]⟩) (d.2.1.map atomT) = fmtQ d := by
  unfold fmtQ
  rw [if_pos h, joinF_acc]
  congr 1
  unfold par
  rw [ba_assoc, show (⟨#[41]⟩ ++ ⟨#[61]⟩ : ByteArray) = ⟨#[41, 61]⟩ from rfl]
theorem vqB_facts {d : Qd} (h : vqB d = true) : d.2.1.length ≤ 4 ∧ d.2.2.length ≤ 5 ∧ ∀ x ∈ d.2.1, x.1.size ≤ 4 ∧ x.2.length ≤ 5 := by
  unfold vqB at h
  simp only [Bool.and_eq_true, List.all_eq_true] at h
  obtain ⟨⟨⟨⟨h1, h2⟩, h3⟩, h4⟩, _⟩ := h
  have h1 := inB_t h1
  have h2 := inB_t h2
  have h3 := setB_len h3 (by omega)
  refine ⟨by omega, by omega, fun x hx => ?_⟩
  have h5 := h4 x hx
  unfold atomB nameB at h5
  simp only [Bool.and_eq_true] at h5
  obtain ⟨⟨⟨h6, _⟩, h7⟩, _⟩ := h5
  have h6 := inB_t h6
  have h7 := inB_t h7
  omega
theorem atomT_size {x : At} (h1 : x.1.size ≤ 4) (h2 : x.2.length ≤ 5) : (atomT x).size ≤ 20 := by
  have := names_size x.2
  unfold atomT
  rw [ba_size, ba_size, ba_size, show (ByteArray.mk #[40]).size = 1 from rfl, show (ByteArray.mk #[41]).size = 1 from rfl]
  omega
theorem joinF_size (m : Nat) : ∀ (ps : List ByteArray) (k : Nat) (acc : ByteArray), (∀ p ∈ ps, p.size ≤ m) → (joinF ⟨#[44]⟩ k acc ps).size ≤ acc.size + ps.length * (m + 1)
  | [], k, acc, _ => by simp [joinF]
  | p :: ps, k, acc, h => by
    have h1 := h p (by simp)
    have ih := joinF_size m ps (k + 1) ((if 0 < k then acc ++ ⟨#[44]⟩ else acc) ++ p) fun q hq => h q (by simp [hq])
    have h2 : ((if 0 < k then acc ++ ⟨#[44]⟩ else acc) ++ p).size ≤ acc.size + 1 + p.size := by
      rw [ba_size]
      split
      · rw [ba_size, show (ByteArray.mk #[44]).size = 1 from rfl]; omega
      · omega
    rw [joinF, List.length_cons, Nat.add_mul]
    omega
set_option maxHeartbeats 400000 in
theorem l7Vars_any {A : Option Addr} {c : Nat} {xs : List Int} {w : World} (hx : xs.length ≤ 1000000) (h1 : RI w A xs) :
    Calls Try.prog 204 #[.slice A xs.length c] w fun e w' => e = .returned (.string (par xs)) ∧ ∃ y, w' = ext w y := by
  go_enter Try.func204, Try.ntmps204
  go_wp2
  go_loopw [3, 4] (fun s i wr => ∃ (k : Nat) (acc : ByteArray), s = .string acc ∧ i = .int .i64 k ∧ k ≤ xs.length ∧ acc.size ≤ k + 1 ∧ nmG acc (xs.drop k) = ⟨#[40]⟩ ++ names xs ∧ ∃ y, wr = ext w y) (fun _ i _ => xs.length - (intOf i).toNat)
  case atStart => exact ⟨0, ⟨#[40]⟩, rfl, rfl, by omega, by decide, by rw [List.drop_zero, nmG_eq], refl_ext w⟩
  case round =>
    obtain ⟨k, acc, rfl, rfl, hk, ha, hj, hy⟩ := hrel
    have Hj := Lib.hid hj
    clear hj
    by_cases hlt : k < xs.length
    · obtain ⟨b, o, rfl, hb, hc⟩ := (h1.toExt hy).atI hlt
      have hs := vname_size xs[k]
      have hss := ba_size acc (vname xs[k])
      have He := Lib.hid ((nmG_step hlt).symm.trans Hj.out)
      go_wp2_with (go_at_call 200; refine (specVariableName_any _ _).mono ?_; rintro e w' ⟨rfl, rfl⟩)
      exact ⟨⟨k + 1, acc ++ vname xs[k], rfl, by go_num, by omega, by omega, He.out, hy⟩, by simp [intOf]; omega⟩
    · have e := Hj.out
      rw [nmG_end hlt] at e
      have He := Lib.hid (show acc ++ ⟨#[41]⟩ = par xs by rw [e]; rfl)
      have h41 : (ByteArray.mk #[41]).size = 1 := rfl
      clear e
      go_wp2
      go_ret
      exact ⟨by rw [← He.out]; rfl, hy⟩
theorem par_size (l : List Int) : (par l).size ≤ l.length + 2 := by
  have := names_size l
  unfold par
  rw [ba_size, ba_size, show (ByteArray.mk #[40]).size = 1 from rfl, show (ByteArray.mk #[41]).size = 1 from rfl]
  omega
set_option maxHeartbeats 4000000 in
theorem specFormatQuery_w {A B : Option Addr} {c e1 : Nat} {d : Qd} {w : World} (hb : WQ d) (h : vQ w [.int .i64 d.1, .slice A d.2.1.length c, .slice B d.2.2.length e1] d) :
    Calls Try.prog 201 #[.agg #[.int .i64 d.1, .slice A d.2.1.length c, .slice B d.2.2.length e1]] w fun e w' => e = .returned (.string (fmtQ d)) ∧ ∃ y, w' = ext w y := by
  have HB := Lib.hid hb
  have HV := Lib.hid h
  obtain ⟨r1, r2, _⟩ := vQ_get h
  have r1 := (vAts_get r1).2
  obtain ⟨z, ats, out⟩ := d
  dsimp only at r1 r2 ⊢
  clear h hb
  obtain ⟨t1, ht1⟩ : ∃ t, vqB (z, ats, out) = t := ⟨_, rfl⟩
  have N1 := Lib.hid ht1
  cases t1 with
  | false =>
    have HE := Lib.hid (show fmtQ (z, ats, out) = ⟨#[]⟩ by unfold fmtQ; rw [ht1]; rfl)
    clear ht1
    go_enter Try.func201, Try.ntmps201
    go_wp2_with (go_at_call 157; refine (specIsValidQuery_w (d := (z, ats, out)) HB.out (VD.toExt HV.out (by refine x'z ?_; repeat (with_reducible (first | exact x'a _ _ | exact x'b _ | exact x'c (by assumption) | refine x'd ?_ (by assumption) | refine x'e ?_ _ | refine x'f ?_ _ | refine x'g ?_ | refine x'h ?_ ?_ _ | refine x'i ?_ _ | refine x'j ?_ | refine x'k ?_ _ | refine x'l ?_ _ _ | refine x'm ?_ | assumption | (refine x'n ?_; omega) | omega))))).mono ?_; rintro e w1 ⟨rfl, hx1⟩; rw [N1.out])
    go_ret
    exact ⟨by rw [HE.out]; rfl, (by refine x'z ?_; repeat (with_reducible (first | exact x'a _ _ | exact x'b _ | exact x'c (by assumption) | refine x'd ?_ (by assumption) | refine x'e ?_ _ | refine x'f ?_ _ | refine x'g ?_ | refine x'h ?_ ?_ _ | refine x'i ?_ _ | refine x'j ?_ | refine x'k ?_ _ | refine x'l ?_ _ _ | refine x'm ?_ | assumption | (refine x'n ?_; omega) | omega)))⟩
  | true =>
    have HE := Lib.hid (fmtQ_par ht1)
    obtain ⟨g1, g2, g3⟩ := vqB_facts ht1
    dsimp only at g1 g2 g3
    have Hx := Lib.hid g3
    clear ht1 g3
    have z1 := par_size out
    have z5 : (ByteArray.mk #[61]).size = 1 := rfl
    have z2 := ba_size (par out) ⟨#[61]⟩
    go_enter Try.func201, Try.ntmps201
    go_wp2_with (first
      | (go_at_call 157; refine (specIsValidQuery_w (d := (z, ats, out)) HB.out (VD.toExt HV.out (by refine x'z ?_; repeat (with_reducible (first | exact x'a _ _ | exact x'b _ | exact x'c (by assumption) | refine x'd ?_ (by assumption) | refine x'e ?_ _ | refine x'f ?_ _ | refine x'g ?_ | refine x'h ?_ ?_ _ | refine x'i ?_ _ | refine x'j ?_ | refine x'k ?_ _ | refine x'l ?_ _ _ | refine x'm ?_ | assumption | (refine x'n ?_; omega) | omega))))).mono ?_; rintro e w1 ⟨rfl, hx1⟩; rw [N1.out]; have P1 := (BoxAt.new w #[.int .i64 z, .slice A ats.length c, .slice B out.length e1] 55).toExt hx1; obtain ⟨l1, a1, a1', a1'', f1⟩ := box3 P1)
      | (go_at_call 204; refine (l7Vars_any (by omega) (r2.toExt (by refine x'z ?_; repeat (with_reducible (first | exact x'a _ _ | exact x'b _ | exact x'c (by assumption) | refine x'd ?_ (by assumption) | refine x'e ?_ _ | refine x'f ?_ _ | refine x'g ?_ | refine x'h ?_ ?_ _ | refine x'i ?_ _ | refine x'j ?_ | refine x'k ?_ _ | refine x'l ?_ _ _ | refine x'm ?_ | assumption | (refine x'n ?_; omega) | omega))))).mono ?_; rintro e w2 ⟨rfl, hx2⟩))
    have hxw : ∃ y, w1 = ext w y := (by refine x'z ?_; repeat (with_reducible (first | exact x'a _ _ | exact x'b _ | exact x'c (by assumption) | refine x'd ?_ (by assumption) | refine x'e ?_ _ | refine x'f ?_ _ | refine x'g ?_ | refine x'h ?_ ?_ _ | refine x'i ?_ _ | refine x'j ?_ | refine x'k ?_ _ | refine x'l ?_ _ _ | refine x'm ?_ | assumption | (refine x'n ?_; omega) | omega)))
    go_loopw [3, 4] (fun v i wr => ∃ (k : Nat) (acc : ByteArray), i = .int .i64 k ∧ v = .string acc ∧ k ≤ ats.length ∧ acc.size ≤ 10 + 30 * k ∧ joinF ⟨#[44]⟩ k acc ((ats.drop k).map atomT) = joinF ⟨#[44]⟩ 0 (par out ++ ⟨#[61]⟩) (ats.map atomT) ∧ ∃ y, wr = ext w1 y) (fun _ i _ => ats.length - (intOf i).toNat)
    case atStart => exact ⟨0, _, rfl, rfl, by omega, by omega, by simp, hx2⟩
    case round =>
      obtain ⟨k, acc, rfl, rfl, hk, ha, hj, hy⟩ := hrel
      have Hj := Lib.hid hj
      clear hj
      obtain ⟨l2, a2, a2', a2'', f2⟩ := box3 (P1.toExt hy)
      by_cases hlt : k < ats.length
      · obtain ⟨b, o, A', c', rfl, hb, hc, hd, hv⟩ := (r1.toExt (trans_ext hxw hy)).atA hlt
        obtain ⟨x1, x2⟩ := Hx.out ats[k] (List.getElem_mem hlt)
        have HA := Lib.hid (atomT_par ats[k])
        have e := Hj.out
        rw [List.drop_eq_getElem_cons hlt, List.map_cons, joinF] at e
        obtain ⟨s, hs⟩ : ∃ s, ats[k].1 = s := ⟨_, rfl⟩
        obtain ⟨xs, hxs⟩ : ∃ xs, ats[k].2 = xs := ⟨_, rfl⟩
        rw [← atomT_par, hs, hxs] at e
        rw [hs] at hc x1
        rw [hxs] at hd hv x2
        have y1 := par_size xs
        have y5 : (ByteArray.mk #[44]).size = 1 := rfl
        clear hs hxs
        by_cases h0 : 0 < k
        · rw [if_pos h0] at e
          have y2 := ba_size acc ⟨#[44]⟩
          have y3 := ba_size (acc ++ ⟨#[44]⟩) s
          have y4 := ba_size (acc ++ ⟨#[44]⟩ ++ s) (par xs)
          have He := Lib.hid (show joinF ⟨#[44]⟩ (k + 1) (acc ++ ⟨#[44]⟩ ++ s ++ par xs) ((ats.drop (k + 1)).map atomT) = joinF ⟨#[44]⟩ 0 (par out ++ ⟨#[61]⟩) (ats.map atomT) by rw [← e, ba_assoc (acc ++ ⟨#[44]⟩)])
          clear e
          go_wp2
          refine wp_region_ext (by kernel_rfl) (by kernel_rfl) ?_
          repeat (go_big_quiet_step ((go_at_call 204; exact quietE (l7Vars_any (by omega) hv.ext))))
          refine wpQuiet_nil ?_
          rintro _ ⟨zz, rfl⟩
          go_wp2
          exact ⟨⟨k + 1, acc ++ ⟨#[44]⟩ ++ s ++ par xs, by go_num, rfl, by omega, by omega, He.out, (by refine x'z ?_; repeat (with_reducible (first | exact x'a _ _ | exact x'b _ | exact x'c (by assumption) | refine x'd ?_ (by assumption) | refine x'e ?_ _ | refine x'f ?_ _ | refine x'g ?_ | refine x'h ?_ ?_ _ | refine x'i ?_ _ | refine x'j ?_ | refine x'k ?_ _ | refine x'l ?_ _ _ | refine x'm ?_ | assumption | (refine x'n ?_; omega) | omega)))⟩, by simp [intOf]; omega⟩
        · rw [if_neg h0] at e
          have y3 := ba_size acc s
          have y4 := ba_size (acc ++ s) (par xs)
          have He := Lib.hid (show joinF ⟨#[44]⟩ (k + 1) (acc ++ s ++ par xs) ((ats.drop (k + 1)).map atomT) = joinF ⟨#[44]⟩ 0 (par out ++ ⟨#[61]⟩) (ats.map atomT) by rw [← e, ba_assoc acc])
          clear e
          go_wp2
          refine wp_region_ext (by kernel_rfl) (by kernel_rfl) ?_
          repeat (go_big_quiet_step ((go_at_call 204; exact quietE (l7Vars_any (by omega) hv.ext))))
          refine wpQuiet_nil ?_
          rintro _ ⟨zz, rfl⟩
          go_wp2
          exact ⟨⟨k + 1, acc ++ s ++ par xs, by go_num, rfl, by omega, by omega, He.out, (by refine x'z ?_; repeat (with_reducible (first | exact x'a _ _ | exact x'b _ | exact x'c (by assumption) | refine x'd ?_ (by assumption) | refine x'e ?_ _ | refine x'f ?_ _ | refine x'g ?_ | refine x'h ?_ ?_ _ | refine x'i ?_ _ | refine x'j ?_ | refine x'k ?_ _ | refine x'l ?_ _ _ | refine x'm ?_ | assumption | (refine x'n ?_; omega) | omega)))⟩, by simp [intOf]; omega⟩
      · have e := Hj.out
        rw [List.drop_eq_nil_of_le (by omega), List.map_nil, joinF] at e
        have He := Lib.hid (e.trans HE.out)
        clear e
        go_wp2
        go_ret
        exact ⟨by rw [← He.out]; rfl, (by refine x'z ?_; repeat (with_reducible (first | exact x'a _ _ | exact x'b _ | exact x'c (by assumption) | refine x'd ?_ (by assumption) | refine x'e ?_ _ | refine x'f ?_ _ | refine x'g ?_ | refine x'h ?_ ?_ _ | refine x'i ?_ _ | refine x'j ?_ | refine x'k ?_ _ | refine x'l ?_ _ _ | refine x'm ?_ | assumption | (refine x'n ?_; omega) | omega)))⟩
theorem specFormatQuery_any {A B : Option Addr} {c e1 : Nat} {d : Qd} {w : World} (hb : BQ d) (h : vQ w [.int .i64 d.1, .slice A d.2.1.length c, .slice B d.2.2.length e1] d) :
    Calls Try.prog 201 #[.agg #[.int .i64 d.1, .slice A d.2.1.length c, .slice B d.2.2.length e1]] w fun e w' => e = .returned (.string (fmtQ d)) ∧ ∃ y, w' = ext w y := specFormatQuery_w hb.w h
end Go.Proofs.Ytfigcfajkilhiaa

/- The neighbours of a variable: the plain way of it. -/
namespace Go.Proofs.Ytfigcfajkilhiaa
open Go.RowKit

def nbG (v : Int) : List Int → List At → List Int
  | acc, [] => acc
  | acc, a :: al => nbG v (if decide (v ∈ a.2) = true then uniL acc (avars 5 0 a.2) else acc) al
def nearP (v w : Int) (a : At) : Bool := decide (w ≠ v) && decide (v ∈ a.2) && decide (w ∈ a.2)
def nearS (ats : List At) (v w : Int) : Bool := ats.any (nearP v w)
def nbrs (d : Qd) (v : Int) : List Int := if vqB d = true then selF (nearS d.2.1 v) d.1.toNat 0 else []
theorem nbG_step {v : Int} {acc : List Int} {ats : List At} {k : Nat} (h : k < ats.length) : nbG v acc (ats.drop k) = nbG v (if decide (v ∈ ats[k].2) = true then uniL acc (avars 5 0 ats[k].2) else acc) (ats.drop (k + 1)) := by
  rw [List.drop_eq_getElem_cons h, nbG]
theorem nbG_end {v : Int} {acc : List Int} {ats : List At} {k : Nat} (h : ¬ k < ats.length) : nbG v acc (ats.drop k) = acc := by
  rw [List.drop_eq_nil_of_le (by omega), nbG]
theorem mem_nbG {v x : Int} : ∀ {ats : List At} {acc : List Int}, x ∈ nbG v acc ats ↔ x ∈ acc ∨ ∃ a ∈ ats, v ∈ a.2 ∧ x ∈ avars 5 0 a.2
  | [], acc => by simp [nbG]
  | a :: al, acc => by
    rw [nbG, mem_nbG (ats := al)]
    by_cases hv : v ∈ a.2
    · rw [if_pos (by simpa using hv), mem_uniL]
      constructor
      · rintro ((h | h) | ⟨b, hb, h1, h2⟩)
        · exact .inl h
        · exact .inr ⟨a, by simp, hv, h⟩
        · exact .inr ⟨b, by simp [hb], h1, h2⟩
      · rintro (h | ⟨b, hb, h1, h2⟩)
        · exact .inl (.inl h)
        · rcases List.mem_cons.1 hb with e | e
          · subst e; exact .inl (.inr h2)
          · exact .inr ⟨b, e, h1, h2⟩
    · rw [if_neg (by simpa using hv)]
      constructor
      · rintro (h | ⟨b, hb, h1, h2⟩)
        · exact .inl h
        · exact .inr ⟨b, by simp [hb], h1, h2⟩
      · rintro (h | ⟨b, hb, h1, h2⟩)
        · exact .inl h
        · rcases List.mem_cons.1 hb with e | e
          · subst e; exact absurd h1 hv
          · exact .inr ⟨b, e, h1, h2⟩
theorem asc_nbG {v : Int} : ∀ {ats : List At} {acc : List Int}, Asc acc → Asc (nbG v acc ats)
  | [], _, h => h
  | a :: al, acc, h => by
    rw [nbG]
    split
    · exact asc_nbG (asc_uniL h)
    · exact asc_nbG h
theorem vqB_vars {d : Qd} (h : vqB d = true) : 1 ≤ d.1 ∧ d.1 ≤ 5 ∧ ∀ a ∈ d.2.1, ∀ v ∈ a.2, 0 ≤ v ∧ v < d.1 := by
  unfold vqB at h
  simp only [Bool.and_eq_true, List.all_eq_true] at h
  obtain ⟨⟨⟨⟨h1, _⟩, _⟩, h4⟩, _⟩ := h
  have h1 := inB_t h1
  refine ⟨h1.1, h1.2, fun a ha v hv => ?_⟩
  have h5 := h4 a ha
  unfold atomB at h5
  simp only [Bool.and_eq_true, List.all_eq_true] at h5
  have := inB_t (h5.2 v hv)
  omega
theorem nb_eq {d : Qd} {v : Int} (h : vqB d = true) : strike v (nbG v [] d.2.1) = nbrs d v := by
  obtain ⟨h1, h2, h3⟩ := vqB_vars h
  unfold nbrs
  rw [if_pos h]
  refine asc_ext (asc_strike (asc_nbG asc_nil)) (asc_selF _ _) fun x => ?_
  rw [mem_strike, mem_nbG, mem_selF]
  unfold nearS nearP
  simp only [List.any_eq_true, Bool.and_eq_true, decide_eq_true_eq, mem_avars]
  constructor
  · rintro ⟨h4 | ⟨a, ha, h5, h6, h7, h8⟩, h9⟩
    · simp at h4
    · have := h3 a ha x h8
      exact ⟨by omega, by omega, a, ha, ⟨h9, h5⟩, h8⟩
  · rintro ⟨h4, h5, a, ha, ⟨h6, h7⟩, h8⟩
    exact ⟨.inr ⟨a, ha, h7, by omega, by omega, h8⟩, h6⟩
theorem nbrs_length (d : Qd) (v : Int) : (nbrs d v).length ≤ 5 := by
  unfold nbrs
  split
  · rename_i h
    obtain ⟨h1, h2, _⟩ := vqB_vars h
    have := selF_length (p := nearS d.2.1 v) d.1.toNat 0
    omega
  · simp
theorem nbG_length {v : Int} : ∀ {ats : List At} {acc : List Int}, (nbG v acc ats).length ≤ acc.length + 5 * ats.length
  | [], acc => by simp [nbG]
  | a :: al, acc => by
    rw [nbG]
    have h1 := avars_length 5 0 a.2
    have h2 := uniL_length (avars 5 0 a.2) acc
    split
    · have := nbG_length (v := v) (ats := al) (acc := uniL acc (avars 5 0 a.2))
      rw [List.length_cons]; omega
    · have := nbG_length (v := v) (ats := al) (acc := acc)
      rw [List.length_cons]; omega
end Go.Proofs.Ytfigcfajkilhiaa

/- Bindings of queries: the rows of an atom, all assignments for which every atom holds; the program's way and the reference's come to the same. No program in it. -/
namespace Go.Proofs.Ytfigcfajkilhiaa
open Go.RowKit

theorem map_at' {l : List Int} {h g : Int → Int} (e : l.map h = l.map g) : ∀ v ∈ l, h v = g v := fun v hv => List.map_inj_left.1 e v hv
def relOf (d : Dbd) (a : At) : Rd := (lookD d a.1).getD (0, [])
def atFit (d : Dbd) (a : At) : Bool := match lookD d a.1 with | some r => decide (r.1 = (a.2.length : Int)) | none => false
def iqfB (d : Dbd) (q : Qd) : Bool := vqB q && dbB d && q.2.1.all (atFit d)
/-- repeated variables have the same value -/
def rowFit (vars row : List Int) : Bool := decide (vars.map (valAt vars row) = row)
def atomBd (d : Dbd) (a : At) : Rd :=
  (((avars 5 0 a.2).length : Int), if atFit d a = true ∧ ∀ v ∈ a.2, 0 ≤ v ∧ v ≤ 4 then sortR (((relOf d a).2.filter (rowFit a.2)).map fun row => (avars 5 0 a.2).map (valAt a.2 row)) else [])
def atomVR (d : Dbd) (a : At) : VRd := (avars 5 0 a.2, atomBd d a)
theorem mem_av5 {xs : List Int} {x : Int} (h : ∀ v ∈ xs, 0 ≤ v ∧ v ≤ 4) : x ∈ avars 5 0 xs ↔ x ∈ xs := by
  rw [mem_avars]
  constructor
  · exact fun h => h.2.2
  · intro hx
    have := h x hx
    exact ⟨by omega, by omega, hx⟩
theorem atFit_some {d : Dbd} {a : At} (h : atFit d a = true) : dbB d = true ∧ TOk (a.1, relOf d a) ∧ (relOf d a).1 = (a.2.length : Int) := by
  unfold atFit at h
  cases e : lookD d a.1 with
  | none => rw [e] at h; cases h
  | some r =>
    rw [e] at h
    have h2 := lookD_ok e
    have er : relOf d a = r := by unfold relOf; rw [e]; rfl
    rw [er]
    exact ⟨h2.1, h2.2, by simpa using h⟩
theorem mem_atom {d : Dbd} {a : At} (hf : atFit d a = true) (hv : ∀ v ∈ a.2, 0 ≤ v ∧ v ≤ 4) {t : List Int} : t ∈ (atomBd d a).2 ↔ ∃ g : Int → Int, (avars 5 0 a.2).map g = t ∧ a.2.map g ∈ (relOf d a).2 := by
  unfold atomBd
  simp only
  rw [if_pos ⟨hf, hv⟩, mem_sortR, List.mem_map]
  constructor
  · rintro ⟨row, hr, rfl⟩
    rw [List.mem_filter] at hr
    have h2 : a.2.map (valAt a.2 row) = row := by simpa [rowFit] using hr.2
    exact ⟨valAt a.2 row, rfl, by rw [h2]; exact hr.1⟩
  · rintro ⟨g, rfl, hg⟩
    refine ⟨a.2.map g, List.mem_filter.2 ⟨hg, ?_⟩, List.map_congr_left fun v hm => valAt_map ((mem_av5 hv).1 hm)⟩
    unfold rowFit
    rw [decide_eq_true_eq]
    exact List.map_congr_left fun v hm => valAt_map hm
theorem atomBd_ok {d : Dbd} {a : At} : VrOk (atomVR d a) := by
  have hlo : ∀ v ∈ avars 5 0 a.2, 0 ≤ v ∧ v ≤ 4 := fun v hv => by
    have := (mem_avars 5 0 _ _).1 hv
    omega
  have hasc := asc_avars 5 0 a.2
  unfold atomVR atomBd
  by_cases hc : atFit d a = true ∧ ∀ v ∈ a.2, 0 ≤ v ∧ v ≤ 4
  · rw [if_pos hc]
    obtain ⟨_, hT, hl⟩ := atFit_some hc.1
    have hr := rowsB_iff.1 hT.rel
    have hcnt := hT.cnt
    refine ⟨hasc, hlo, asc_len5 hasc hlo, rfl, ?_, fun r hr => ?_, fun r hrm => ?_, asc_sortR _⟩
    · refine Nat.le_trans (sortR_length _) ?_
      rw [List.length_map]
      refine Nat.le_trans (List.length_filter_le _ _) ?_
      simp only at hcnt ⊢
      omega
    · obtain ⟨row, _, rfl⟩ := List.mem_map.1 (mem_sortR.1 hr)
      simp
    · obtain ⟨row, h2, rfl⟩ := List.mem_map.1 (mem_sortR.1 hrm)
      rw [List.mem_filter] at h2
      have h3 := hr.2.2.2.1 row h2.1
      rw [rowV_iff]
      intro x hx
      obtain ⟨v, hv, rfl⟩ := List.mem_map.1 hx
      refine rowV_iff.1 h3.2 _ (valAt_mem ((mem_av5 hc.2).1 hv) ?_)
      have := h3.1
      simp only at this
      omega
  · rw [if_neg hc]
    exact ⟨hasc, hlo, asc_len5 hasc hlo, rfl, by simp, by simp, by simp, ascR_nil⟩
theorem atomBd_cnt {d : Dbd} {a : At} : (atomBd d a).2.length ≤ 16 := by
  unfold atomBd
  simp only
  split
  · rename_i hc
    obtain ⟨_, hT, _⟩ := atFit_some hc.1
    refine Nat.le_trans (sortR_length _) ?_
    rw [List.length_map]
    exact Nat.le_trans (List.length_filter_le _ _) hT.cnt
  · simp

/-! ### all bindings -/
/-- one atom's row laid over a row not yet whole -/
def fitX : List Int → List Int → List Int → Option (List Int)
  | x, v :: vs, y :: ys => if x.getD v.toNat 0 = -1 ∨ x.getD v.toNat 0 = y then fitX (x.set v.toNat y) vs ys else none
  | x, _, _ => some x
def walkL (d : Dbd) : List At → List Int → List (List Int)
  | [], row => [row]
  | a :: ats, row => (relOf d a).2.flatMap fun r => match fitX row a.2 r with | some x => walkL d ats x | none => []
def allB (d : Dbd) (q : Qd) : List (List Int) := sortR (walkL d q.2.1 (List.replicate q.1.toNat (-1)))
def bindR (d : Dbd) (q : Qd) : Option Rd := if iqfB d q = true ∧ (allB d q).length ≤ 4000 then some (q.1, allB d q) else none
/-- the program's way -/
def stepB (d : Dbd) (s : List Int × List (List Int)) (a : At) : List Int × List (List Int) := (uniL s.1 (avars 5 0 a.2), joinL (uniL s.1 (avars 5 0 a.2)) s.1 s.2 (avars 5 0 a.2) (atomBd d a).2)
def foldB (d : Dbd) (ats : List At) : List Int × List (List Int) := ats.foldl (stepB d) ([], [[]])

theorem getD_set_self {x : List Int} {i : Nat} {y : Int} (h : i < x.length) : (x.set i y).getD i 0 = y := by
  rw [getDl _ _ (by simpa using h)]; simp
theorem getD_set_ne {x : List Int} {i j : Nat} {y : Int} (h : i ≠ j) : (x.set i y).getD j 0 = x.getD j 0 := by
  simp only [List.getD_eq_getElem?_getD, List.getElem?_set, if_neg h]
/-- z is x, filled in further -/
def Over (x z : List Int) : Prop := z.length = x.length ∧ ∀ i, i < x.length → x.getD i 0 ≠ -1 → z.getD i 0 = x.getD i 0
theorem fitX_iff : ∀ {vs ys : List Int} {x z : List Int}, vs.length = ys.length → (∀ v ∈ vs, 0 ≤ v ∧ v < x.length) → (∀ y ∈ ys, y ≠ -1) →
    (fitX x vs ys = some z ↔ Over x z ∧ pickL z vs = ys ∧ ∀ i, i < x.length → x.getD i 0 = -1 → (i : Int) ∉ vs → z.getD i 0 = -1)
  | [], [], x, z, _, _, _ => by
    simp only [fitX, Option.some.injEq]
    constructor
    · rintro rfl
      exact ⟨⟨rfl, fun _ _ _ => rfl⟩, rfl, fun _ _ h _ => h⟩
    · rintro ⟨⟨h1, h2⟩, _, h3⟩
      apply List.ext_getElem h1.symm
      intro i h4 h5
      have e1 : x[i] = x.getD i 0 := (getDl _ _ h4).symm
      have e2 : z[i] = z.getD i 0 := (getDl _ _ h5).symm
      rw [e1, e2]
      by_cases h6 : x.getD i 0 = -1
      · rw [h6, h3 i h4 h6 (by simp)]
      · exact (h2 i h4 h6).symm
  | [], _ :: _, _, _, h, _, _ => by simp at h
  | _ :: _, [], _, _, h, _, _ => by simp at h
  | v :: vs, y :: ys, x, z, hl, hv, hy => by
    have hv0 := hv v (by simp)
    have hy0 := hy y (by simp)
    obtain ⟨n, rfl⟩ := Int.eq_ofNat_of_zero_le hv0.1
    have hn : n < x.length := by omega
    rw [fitX, Int.toNat_natCast]
    by_cases hc : x.getD n 0 = -1 ∨ x.getD n 0 = y
    · rw [if_pos hc, fitX_iff (x := x.set n y) (by simpa using hl) (by simpa using fun u hu => hv u (by simp [hu])) (fun u hu => hy u (by simp [hu]))]
      constructor
      · rintro ⟨⟨h1, h2⟩, h3, h4⟩
        rw [List.length_set] at h1 h2 h4
        have hz : z.getD n 0 = y := by
          rw [h2 n hn (by rw [getD_set_self hn]; exact hy0), getD_set_self hn]
        refine ⟨⟨h1, fun i hi hx => ?_⟩, ?_, fun i hi hx hm => ?_⟩
        · by_cases e : n = i
          · subst e
            rcases hc with hc | hc
            · exact absurd hc hx
            · rw [hz, hc]
          · have := h2 i hi (by rw [getD_set_ne e]; exact hx)
            rwa [getD_set_ne e] at this
        · unfold pickL at h3 ⊢
          rw [List.map_cons, h3, Int.toNat_natCast, hz]
        · rw [List.mem_cons, not_or] at hm
          have e : n ≠ i := fun e => hm.1 (by rw [e])
          exact h4 i hi (by rw [getD_set_ne e]; exact hx) hm.2
      · rintro ⟨⟨h1, h2⟩, h3, h4⟩
        unfold pickL at h3
        rw [List.map_cons, List.cons.injEq, Int.toNat_natCast] at h3
        refine ⟨⟨by rw [List.length_set]; exact h1, fun i hi hx => ?_⟩, h3.2, fun i hi hx hm => ?_⟩
        · rw [List.length_set] at hi
          by_cases e : n = i
          · subst e
            rw [getD_set_self hn]; exact h3.1
          · rw [getD_set_ne e] at hx ⊢
            exact h2 i hi hx
        · rw [List.length_set] at hi
          by_cases e : n = i
          · subst e
            rw [getD_set_self hn] at hx
            exact absurd hx hy0
          · rw [getD_set_ne e] at hx
            exact h4 i hi hx (by rw [List.mem_cons, not_or]; exact ⟨fun k => e (by omega), hm⟩)
    · rw [if_neg hc]
      constructor
      · intro h; cases h
      · rintro ⟨⟨h1, h2⟩, h3, h4⟩
        exfalso
        unfold pickL at h3
        rw [List.map_cons, List.cons.injEq, Int.toNat_natCast] at h3
        rw [not_or] at hc
        exact hc.2 (by rw [← h2 n hn hc.1, h3.1])
/-- every atom holds -/
def Holds (d : Dbd) (ats : List At) (z : List Int) : Prop := ∀ a ∈ ats, pickL z a.2 ∈ (relOf d a).2
theorem walkL_iff {d : Dbd} : ∀ {ats : List At} {x z : List Int}, (∀ a ∈ ats, atFit d a = true ∧ ∀ v ∈ a.2, 0 ≤ v ∧ v < x.length) →
    (z ∈ walkL d ats x ↔ Over x z ∧ Holds d ats z ∧ ∀ i, i < x.length → x.getD i 0 = -1 → (∀ a ∈ ats, (i : Int) ∉ a.2) → z.getD i 0 = -1)
  | [], x, z, _ => by
    rw [walkL, List.mem_singleton]
    have := fitX_iff (vs := []) (ys := []) (x := x) (z := z) rfl (by simp) (by simp)
    simp only [fitX, Option.some.injEq] at this
    rw [eq_comm, this]
    simp [Holds, pickL]
  | a :: ats, x, z, h => by
    obtain ⟨hf, hv⟩ := h a (by simp)
    obtain ⟨_, hT, hl⟩ := atFit_some hf
    have hr := (rowsB_iff.1 hT.rel).2.2.2.1
    simp only at hr
    rw [walkL, List.mem_flatMap]
    constructor
    · rintro ⟨r, hrm, hz⟩
      have h1 := hr r hrm
      have hfx := fun x' => fitX_iff (vs := a.2) (ys := r) (x := x) (z := x') (by omega) hv (fun y hy => by have := (rowV_iff.1 h1.2 y hy).1; omega)
      cases e : fitX x a.2 r with
      | none => rw [e] at hz; simp at hz
      | some x' =>
        rw [e] at hz
        obtain ⟨⟨o1, o2⟩, p1, u1⟩ := (hfx x').1 e
        have ih := (walkL_iff (d := d) (ats := ats) (x := x') (z := z) (fun b hb => by rw [o1]; exact h b (by simp [hb]))).1 hz
        obtain ⟨⟨q1, q2⟩, q3, q4⟩ := ih
        have hzx : ∀ i, i < x.length → x'.getD i 0 ≠ -1 → z.getD i 0 = x'.getD i 0 := fun i hi h => q2 i (by omega) h
        refine ⟨⟨by omega, fun i hi hx => ?_⟩, fun b hb => ?_, fun i hi hx hm => ?_⟩
        · rw [hzx i hi (by rw [o2 i hi hx]; exact hx), o2 i hi hx]
        · rcases List.mem_cons.1 hb with e | e
          · subst e
            have : pickL z b.2 = pickL x' b.2 := by
              unfold pickL
              refine List.map_congr_left fun v hvm => ?_
              have hb2 := hv v hvm
              refine hzx v.toNat (by omega) ?_
              have hp : x'.getD v.toNat 0 ∈ pickL x' b.2 := List.mem_map.2 ⟨v, hvm, rfl⟩
              rw [p1] at hp
              have := (rowV_iff.1 h1.2 _ hp).1
              omega
            rw [this, p1]
            exact hrm
          · exact q3 b e
        · refine q4 i (by omega) (u1 i hi hx (hm a (by simp))) fun b hb => hm b (by simp [hb])
    · rintro ⟨⟨o1, o2⟩, hH, u1⟩
      refine ⟨pickL z a.2, hH a (by simp), ?_⟩
      have h1 := hr _ (hH a (by simp))
      -- what is laid over x so far
      obtain ⟨x', hx'⟩ : ∃ x' : List Int, x' = (List.range x.length).map fun (i : Nat) => if (i : Int) ∈ a.2 then z.getD i 0 else x.getD i 0 := ⟨_, rfl⟩
      have hlx : x'.length = x.length := by rw [hx']; simp
      have hgx : ∀ i, i < x.length → x'.getD i 0 = if (i : Int) ∈ a.2 then z.getD i 0 else x.getD i 0 := fun i hi => by
        rw [hx', getDl _ _ (by simpa using hi)]; simp
      have e : fitX x a.2 (pickL z a.2) = some x' := by
        rw [fitX_iff (by simp [pickL]) hv (fun y hy => by have := (rowV_iff.1 h1.2 y hy).1; omega)]
        refine ⟨⟨hlx, fun i hi hx => ?_⟩, ?_, fun i hi hx hm => ?_⟩
        · rw [hgx i hi]; split
          · exact o2 i hi hx
          · rfl
        · unfold pickL
          refine List.map_congr_left fun v hvm => ?_
          have hb := hv v hvm
          rw [hgx _ (by omega), if_pos (by rw [Int.toNat_of_nonneg hb.1]; exact hvm)]
        · rw [hgx i hi, if_neg hm]; exact hx
      rw [e]
      rw [walkL_iff (fun b hb => by rw [hlx]; exact h b (by simp [hb]))]
      refine ⟨⟨by omega, fun i hi hx => ?_⟩, fun b hb => hH b (by simp [hb]), fun i hi hx hm => ?_⟩
      · rw [hlx] at hi
        rw [hgx i hi] at hx ⊢
        split
        · rfl
        · rename_i k
          rw [if_neg k] at hx
          exact o2 i hi hx
      · rw [hlx] at hi
        by_cases k : (i : Int) ∈ a.2
        · rw [hgx i hi, if_pos k] at hx; exact hx
        · rw [hgx i hi, if_neg k] at hx
          exact u1 i hi hx fun b hb => by
            rcases List.mem_cons.1 hb with e | e
            · subst e; exact k
            · exact hm b e

/-- what is known of a query that fits a database -/
structure QOk (d : Dbd) (q : Qd) : Prop where
  n1 : 1 ≤ q.1
  n5 : q.1 ≤ 5
  db : dbB d = true
  at1 : 1 ≤ q.2.1.length
  at4 : q.2.1.length ≤ 4
  fit : ∀ a ∈ q.2.1, atFit d a = true
  vars : ∀ a ∈ q.2.1, ∀ v ∈ a.2, 0 ≤ v ∧ v < q.1
  cov : ∀ v : Int, 0 ≤ v → v < q.1 → ∃ a ∈ q.2.1, v ∈ a.2
  out : ∀ v ∈ q.2.2, 0 ≤ v ∧ v < q.1
theorem mem_allB {d : Dbd} {q : Qd} (h : QOk d q) {z : List Int} : z ∈ allB d q ↔ (z.length : Int) = q.1 ∧ Holds d q.2.1 z := by
  have h1 := h.n1
  unfold allB
  rw [mem_sortR, walkL_iff (fun a ha => ⟨h.fit a ha, fun v hv => by have := h.vars a ha v hv; simp; omega⟩)]
  simp only [List.length_replicate]
  constructor
  · rintro ⟨⟨o1, _⟩, h2, _⟩
    rw [List.length_replicate] at o1
    exact ⟨by omega, h2⟩
  · rintro ⟨h2, h3⟩
    refine ⟨⟨by rw [List.length_replicate]; omega, fun i hi hx => ?_⟩, h3, fun i hi _ hm => ?_⟩
    · rw [List.length_replicate] at hi
      rw [getDl _ _ (by simpa using hi), List.getElem_replicate] at hx
      exact absurd rfl hx
    · obtain ⟨a, ha, hv⟩ := h.cov (i : Int) (by omega) (by omega)
      exact absurd hv (hm a ha)
def idV (n : Int) : List Int := (List.range n.toNat).map fun (i : Nat) => (i : Int)
theorem mem_idV {n v : Int} : v ∈ idV n ↔ 0 ≤ v ∧ v < n := by
  unfold idV
  rw [List.mem_map]
  constructor
  · rintro ⟨i, hi, rfl⟩
    have := List.mem_range.1 hi
    omega
  · rintro ⟨h1, h2⟩
    exact ⟨v.toNat, List.mem_range.2 (by omega), by omega⟩
theorem asc_idV (n : Int) : Asc (idV n) := List.pairwise_map.2 (List.Pairwise.imp (fun {a b} h => by omega) List.pairwise_lt_range)
theorem idV_get {n : Int} {g : Int → Int} {v : Int} (h : 0 ≤ v ∧ v < n) : ((idV n).map g).getD v.toNat 0 = g v := by
  unfold idV
  rw [List.map_map, getDl _ _ (by simp; omega)]
  simp [Int.toNat_of_nonneg h.1]
theorem pick_idV {n : Int} {g : Int → Int} {l : List Int} (h : ∀ v ∈ l, 0 ≤ v ∧ v < n) : pickL ((idV n).map g) l = l.map g := List.map_congr_left fun v hv => idV_get (h v hv)
theorem holds_map {d : Dbd} {q : Qd} (h : QOk d q) {g : Int → Int} : Holds d q.2.1 ((idV q.1).map g) ↔ ∀ a ∈ q.2.1, a.2.map g ∈ (relOf d a).2 := by
  unfold Holds
  constructor
  · intro hh a ha
    have := hh a ha
    rwa [pick_idV (h.vars a ha)] at this
  · intro hh a ha
    rw [pick_idV (h.vars a ha)]
    exact hh a ha
theorem row_map {n : Int} {z : List Int} (h : (z.length : Int) = n) : (idV n).map (fun v => z.getD v.toNat 0) = z := by
  subst h
  apply List.ext_getElem
  · simp [idV]
  · intro i h1 h2
    simp only [idV, List.map_map, List.getElem_map, List.getElem_range, Function.comp, Int.toNat_natCast]
    exact getDl _ _ h2
theorem allB_g {d : Dbd} {q : Qd} (h : QOk d q) {z : List Int} : z ∈ allB d q ↔ ∃ g : Int → Int, (idV q.1).map g = z ∧ ∀ a ∈ q.2.1, a.2.map g ∈ (relOf d a).2 := by
  rw [mem_allB h]
  constructor
  · rintro ⟨h1, h2⟩
    refine ⟨_, row_map h1, ?_⟩
    rw [← holds_map h, row_map h1]
    exact h2
  · rintro ⟨g, rfl, hg⟩
    have := h.n1
    exact ⟨by simp [idV]; omega, (holds_map h).2 hg⟩
theorem snoc_ind {α : Type} {P : List α → Prop} (h0 : P []) (h1 : ∀ l a, P l → P (l ++ [a])) (l : List α) : P l := by
  rw [← List.reverse_reverse l]
  induction l.reverse with
  | nil => exact h0
  | cons a l ih => rw [List.reverse_cons]; exact h1 _ _ ih
/-- the program's fold -/
theorem foldB_iff {d : Dbd} : ∀ {ats : List At}, (∀ a ∈ ats, atFit d a = true ∧ ∀ v ∈ a.2, 0 ≤ v ∧ v ≤ 4) →
    Asc (foldB d ats).1 ∧ (∀ v, v ∈ (foldB d ats).1 ↔ ∃ a ∈ ats, v ∈ a.2) ∧ ∀ t, t ∈ (foldB d ats).2 ↔ ∃ g : Int → Int, (foldB d ats).1.map g = t ∧ ∀ a ∈ ats, a.2.map g ∈ (relOf d a).2 := by
  intro ats
  induction ats using snoc_ind with
  | h0 =>
    intro _
    refine ⟨asc_nil, by simp [foldB], fun t => ?_⟩
    simp [foldB, eq_comm]
  | h1 ats a ih =>
    intro h
    obtain ⟨i1, i2, i3⟩ := ih fun b hb => h b (by simp [hb])
    obtain ⟨hf, hv⟩ := h a (by simp)
    have e : foldB d (ats ++ [a]) = stepB d (foldB d ats) a := by simp [foldB]
    obtain ⟨s, hs⟩ : ∃ s, foldB d ats = s := ⟨_, rfl⟩
    rw [hs] at i1 i2 i3 e
    rw [e]
    have hok := atomBd_ok (d := d) (a := a)
    have hm : ∀ v, v ∈ uniL s.1 (avars 5 0 a.2) ↔ ∃ b ∈ ats ++ [a], v ∈ b.2 := fun v => by
      rw [mem_uniL, i2, mem_av5 hv]
      simp only [List.mem_append, List.mem_singleton]
      constructor
      · rintro (⟨b, hb, k⟩ | k)
        · exact ⟨b, .inl hb, k⟩
        · exact ⟨a, .inr rfl, k⟩
      · rintro ⟨b, hb | rfl, k⟩
        · exact .inl ⟨b, hb, k⟩
        · exact .inr k
    refine ⟨asc_uniL i1, hm, fun t => ?_⟩
    unfold stepB
    simp only
    rw [mem_joinL (va := s.1) (ra := s.2) (vb := avars 5 0 a.2) (rb := (atomBd d a).2) (asc_nodup i1) (asc_nodup hok.asc) (fun r hr => by obtain ⟨g, rfl, _⟩ := (i3 r).1 hr; simp) (fun r hr => hok.rl r hr) (fun v hv => mem_uniL.1 hv)]
    constructor
    · rintro ⟨g, rfl, h1, h2⟩
      refine ⟨g, rfl, fun b hb => ?_⟩
      rcases List.mem_append.1 hb with hb | hb
      · obtain ⟨g', e', h3⟩ := (i3 _).1 h1
        have := map_at' e'
        rw [List.map_congr_left (g := g') fun v hvm => (this v ((i2 v).2 ⟨b, hb, hvm⟩)).symm]
        exact h3 b hb
      · obtain rfl := List.mem_singleton.1 hb
        obtain ⟨g', e', h3⟩ := (mem_atom hf hv).1 h2
        have := map_at' e'
        rw [List.map_congr_left (g := g') fun v hvm => (this v ((mem_av5 hv).2 hvm)).symm]
        exact h3
    · rintro ⟨g, rfl, hg⟩
      exact ⟨g, rfl, (i3 _).2 ⟨g, rfl, fun b hb => hg b (by simp [hb])⟩, (mem_atom hf hv).2 ⟨g, rfl, hg a (by simp)⟩⟩
theorem foldB_all {d : Dbd} {q : Qd} (h : QOk d q) : (foldB d q.2.1).1 = idV q.1 ∧ sortR (foldB d q.2.1).2 = allB d q := by
  have h5 := h.n5
  obtain ⟨h1, h2, h3⟩ := foldB_iff (d := d) (ats := q.2.1) fun a ha => ⟨h.fit a ha, fun v hv => by have := h.vars a ha v hv; omega⟩
  have e : (foldB d q.2.1).1 = idV q.1 := asc_ext h1 (asc_idV _) fun v => by
    rw [h2, mem_idV]
    constructor
    · rintro ⟨a, ha, hv⟩; exact h.vars a ha v hv
    · rintro ⟨k1, k2⟩; exact h.cov v k1 k2
  refine ⟨e, ?_⟩
  refine ascR_ext (asc_sortR _) (asc_sortR _) fun t => ?_
  rw [mem_sortR, h3, e]
  exact (allB_g h).symm
end Go.Proofs.Ytfigcfajkilhiaa

/- Small relations have few bindings. No program in it. -/
namespace Go.Proofs.Ytfigcfajkilhiaa
open Go.RowKit
/-- all lists whose k-th number is one of the k-th row's -/
def prodL : List (List Int) → List (List Int)
  | [] => [[]]
  | vs :: L => vs.flatMap fun v => (prodL L).map (v :: ·)
theorem flat_len {α β : Type} {f : α → List β} {n : Nat} : ∀ {l : List α}, (∀ x ∈ l, (f x).length = n) → (l.flatMap f).length = l.length * n
  | [], _ => by simp
  | x :: l, h => by
    rw [List.flatMap_cons, List.length_append, h x (by simp), flat_len (l := l) fun y hy => h y (by simp [hy]), List.length_cons, Nat.succ_mul]
    omega
theorem prodL_len : ∀ (L : List (List Int)), (prodL L).length = (L.map List.length).foldr (· * ·) 1
  | [] => rfl
  | vs :: L => by
    rw [prodL, flat_len (n := (prodL L).length) (fun v _ => by simp), prodL_len L]
    rfl
theorem mem_prodL : ∀ {L : List (List Int)} {z : List Int}, z.length = L.length → (∀ i, i < z.length → z.getD i 0 ∈ L.getD i []) → z ∈ prodL L
  | [], z, h, _ => by simp [prodL, List.eq_nil_of_length_eq_zero h]
  | vs :: L, [], h, _ => by simp at h
  | vs :: L, x :: z, h, hm => by
    rw [prodL, List.mem_flatMap]
    refine ⟨x, by simpa using hm 0 (by simp), List.mem_map.2 ⟨z, mem_prodL (by simpa using h) fun i hi => by simpa using hm (i + 1) (by simpa using hi), rfl⟩⟩
theorem sub_len {α : Type} [DecidableEq α] : ∀ {l A : List α}, l.Nodup → (∀ x ∈ l, x ∈ A) → l.length ≤ A.length
  | [], _, _, _ => by simp
  | x :: l, A, h, hs => by
    rw [List.nodup_cons] at h
    have hx := hs x (by simp)
    have := sub_len (l := l) (A := A.erase x) h.2 fun y hy => (List.mem_erase_of_ne (fun (e : y = x) => h.1 (e ▸ hy))).2 (hs y (by simp [hy]))
    rw [List.length_erase_of_mem hx] at this
    have := List.length_pos_of_mem hx
    simp only [List.length_cons]
    omega
/-- a small relation: nine rows, few values -/
def FewR (r : Rd) : Prop := r.2.length ≤ 9 ∧ ((∀ row ∈ r.2, ∀ v ∈ row, 0 ≤ v ∧ v < 6) ∨ r.2.length ≤ 7)
def colV (r : Rd) (c : Nat) : List Int := if r.2.length ≤ 7 then r.2.map (fun row => row.getD c 0) else [0, 1, 2, 3, 4, 5]
theorem FewR.col {r : Rd} (h : FewR r) (c : Nat) : (colV r c).length ≤ 7 ∧ ∀ row ∈ r.2, c < row.length → row.getD c 0 ∈ colV r c := by
  unfold colV
  split
  · rename_i hl
    exact ⟨by simpa using hl, fun row hr _ => List.mem_map.2 ⟨row, hr, rfl⟩⟩
  · rename_i hl
    refine ⟨by simp, fun row hr hc => ?_⟩
    rcases h.2 with k | k
    · have := k row hr (row.getD c 0) (by rw [getDl _ _ hc]; exact List.getElem_mem _)
      obtain ⟨x, hx⟩ : ∃ x, row.getD c 0 = x := ⟨_, rfl⟩
      rw [hx] at this ⊢
      have : x = 0 ∨ x = 1 ∨ x = 2 ∨ x = 3 ∨ x = 4 ∨ x = 5 := by omega
      simp only [List.mem_cons, List.not_mem_nil, or_false]
      exact this
    · exact absurd k hl
def FewD (d : Dbd) : Prop := ∀ t ∈ d, FewR t.2
theorem atFit_look1 {d : Dbd} {a : At} (h : atFit d a = true) : lookD d a.1 = some (relOf d a) := by
  unfold atFit at h
  unfold relOf
  cases e : lookD d a.1 with
  | none => rw [e] at h; cases h
  | some r => rfl
theorem FewD.rel {d : Dbd} (h : FewD d) {a : At} (hf : atFit d a = true) : FewR (relOf d a) := by
  have e := atFit_look1 hf
  unfold lookD at e
  split at e
  · exact h _ (fndD_mem e)
  · cases e
/-- a query whose bindings are few: four variables, or a pair of atoms that tell four of five -/
def FewQ (q : Qd) : Prop := q.1 ≤ 4 ∨ ∃ a ∈ q.2.1, ∃ b ∈ q.2.1, a.2 = [0, 1] ∧ b.2 = [2, 3]
theorem hold_at {d : Dbd} {q : Qd} (h : QOk d q) {z : List Int} (hz : z ∈ allB d q) {a : At} (ha : a ∈ q.2.1) : pickL z a.2 ∈ (relOf d a).2 := ((mem_allB h).1 hz).2 a ha
theorem mem_ix {l : List Int} {v : Int} (h : v ∈ l) : ∃ c, c < l.length ∧ l.getD c 0 = v := by
  obtain ⟨c, hc, rfl⟩ := List.getElem_of_mem h
  exact ⟨c, hc, getDl _ _ hc⟩
theorem var_vals {d : Dbd} {q : Qd} (h : QOk d q) (hd : FewD d) {v : Int} (h0 : 0 ≤ v) (h1 : v < q.1) : ∃ L : List Int, L.length ≤ 7 ∧ ∀ z ∈ allB d q, z.getD v.toNat 0 ∈ L := by
  obtain ⟨a, ha, hv⟩ := h.cov v h0 h1
  obtain ⟨c, hc, e⟩ := mem_ix hv
  obtain ⟨k1, k2⟩ := (hd.rel (h.fit a ha)).col c
  refine ⟨_, k1, fun z hz => ?_⟩
  have := k2 _ (hold_at h hz ha) (by rw [pickL_length]; exact hc)
  have e2 : (pickL z a.2).getD c 0 = z.getD v.toNat 0 := by
    rw [getDl _ _ (by rw [pickL_length]; exact hc)]
    unfold pickL
    rw [List.getElem_map, ← getDl _ 0 hc, e]
  rwa [e2] at this
theorem allB_nodup {d : Dbd} {q : Qd} : (allB d q).Nodup := ascR_nodup (asc_sortR _)
theorem few_bindings {d : Dbd} {q : Qd} (h : QOk d q) (hd : FewD d) (hq : FewQ q) : (allB d q).length ≤ 4000 := by
  have hn1 := h.n1
  have hn5 := h.n5
  have hvals : ∀ v : Nat, (v : Int) < q.1 → ∃ L : List Int, L.length ≤ 7 ∧ ∀ z ∈ allB d q, z.getD v 0 ∈ L := fun v hv => by
    have := var_vals h hd (v := v) (by omega) hv
    simpa using this
  have hlen : ∀ z ∈ allB d q, (z.length : Int) = q.1 := fun z hz => ((mem_allB h).1 hz).1
  have hgo : ∀ A : List (List Int), (∀ z ∈ allB d q, z ∈ A) → A.length ≤ 4000 → (allB d q).length ≤ 4000 := fun A h1 h2 => Nat.le_trans (sub_len allB_nodup h1) h2
  have m7 : ∀ {a b c e : Nat}, a ≤ 7 → b ≤ 7 → c ≤ 7 → e ≤ 7 → a * (b * (c * (e * 1))) ≤ 4000 := fun {a b c e} h1 h2 h3 h4 => Nat.le_trans (Nat.mul_le_mul h1 (Nat.mul_le_mul h2 (Nat.mul_le_mul h3 (Nat.mul_le_mul h4 (Nat.le_refl 1))))) (by decide)
  have small : q.1 ≤ 4 → (allB d q).length ≤ 4000 := fun h4 => by
    have hn : q.1 = 1 ∨ q.1 = 2 ∨ q.1 = 3 ∨ q.1 = 4 := by omega
    rcases hn with hn | hn | hn | hn
    · obtain ⟨L0, l0, m0⟩ := hvals 0 (by omega)
      refine hgo (prodL [L0]) (fun z hz => mem_prodL (by have := hlen z hz; simp; omega) fun i hi => ?_) (by rw [prodL_len]; have := m7 l0 (show 1 ≤ 7 by omega) (show 1 ≤ 7 by omega) (show 1 ≤ 7 by omega); simpa using this)
      have := hlen z hz
      have hi : i = 0 := by omega
      subst hi; exact m0 z hz
    · obtain ⟨L0, l0, m0⟩ := hvals 0 (by omega)
      obtain ⟨L1, l1, m1⟩ := hvals 1 (by omega)
      refine hgo (prodL [L0, L1]) (fun z hz => mem_prodL (by have := hlen z hz; simp; omega) fun i hi => ?_) (by rw [prodL_len]; have := m7 l0 l1 (show 1 ≤ 7 by omega) (show 1 ≤ 7 by omega); simpa using this)
      have := hlen z hz
      have hi : i = 0 ∨ i = 1 := by omega
      rcases hi with rfl | rfl
      · exact m0 z hz
      · exact m1 z hz
    · obtain ⟨L0, l0, m0⟩ := hvals 0 (by omega)
      obtain ⟨L1, l1, m1⟩ := hvals 1 (by omega)
      obtain ⟨L2, l2, m2⟩ := hvals 2 (by omega)
      refine hgo (prodL [L0, L1, L2]) (fun z hz => mem_prodL (by have := hlen z hz; simp; omega) fun i hi => ?_) (by rw [prodL_len]; have := m7 l0 l1 l2 (show 1 ≤ 7 by omega); simpa using this)
      have := hlen z hz
      have hi : i = 0 ∨ i = 1 ∨ i = 2 := by omega
      rcases hi with rfl | rfl | rfl
      · exact m0 z hz
      · exact m1 z hz
      · exact m2 z hz
    · obtain ⟨L0, l0, m0⟩ := hvals 0 (by omega)
      obtain ⟨L1, l1, m1⟩ := hvals 1 (by omega)
      obtain ⟨L2, l2, m2⟩ := hvals 2 (by omega)
      obtain ⟨L3, l3, m3⟩ := hvals 3 (by omega)
      refine hgo (prodL [L0, L1, L2, L3]) (fun z hz => mem_prodL (by have := hlen z hz; simp; omega) fun i hi => ?_) (by rw [prodL_len]; have := m7 l0 l1 l2 l3; simpa using this)
      have := hlen z hz
      have hi : i = 0 ∨ i = 1 ∨ i = 2 ∨ i = 3 := by omega
      rcases hi with rfl | rfl | rfl | rfl
      · exact m0 z hz
      · exact m1 z hz
      · exact m2 z hz
      · exact m3 z hz
  by_cases h4 : q.1 ≤ 4
  · exact small h4
  · rcases hq with h4' | ⟨a, ha, b, hb, ea, eb⟩
    · exact absurd h4' h4
    · obtain ⟨L4, l4, m4⟩ := hvals 4 (by omega)
      have fa := (hd.rel (h.fit a ha)).1
      have fb := (hd.rel (h.fit b hb)).1
      refine hgo ((relOf d a).2.flatMap fun r => (relOf d b).2.flatMap fun s => L4.map fun v => r ++ s ++ [v]) (fun z hz => ?_) ?_
      · rw [List.mem_flatMap]
        refine ⟨_, hold_at h hz ha, List.mem_flatMap.2 ⟨_, hold_at h hz hb, List.mem_map.2 ⟨_, m4 z hz, ?_⟩⟩⟩
        have hl := hlen z hz
        rw [ea, eb]
        match z, hl with
        | [x0, x1, x2, x3, x4], _ => rfl
        | [], hl => simp at hl; omega
        | [_], hl => simp at hl; omega
        | [_, _], hl => simp at hl; omega
        | [_, _, _], hl => simp at hl; omega
        | [_, _, _, _], hl => simp at hl; omega
        | _ :: _ :: _ :: _ :: _ :: _ :: _, hl => simp at hl; omega
      · rw [flat_len (n := (relOf d b).2.length * L4.length) (fun r _ => flat_len fun s _ => by simp)]
        exact Nat.le_trans (Nat.mul_le_mul fa (Nat.mul_le_mul fb l4)) (by decide)
end Go.Proofs.Ytfigcfajkilhiaa

/- The reference's draws of databases. -/
namespace Go.Proofs.Ytfigcfajkilhiaa
open Go.RowKit
/-- a small database drawn -/
def TbD (t : Td) : Prop := t.1.size ≤ 5 ∧ BRel t.2 ∧ FewR t.2
structure DrD (d : Dbd) : Prop where
  n : d.length ≤ 6
  t : ∀ t ∈ d, TbD t
theorem anyR_few {r : Rd} (h : AnyR r) : BRel r ∧ FewR r := ⟨by
  refine ⟨h.a, ?_, ?_⟩
  · have := h.n; omega
  · have h1 := h.n
    have h2 := sum_len (m := 10) h.l
    omega, by have := h.n; omega, .inr h.n⟩
theorem relD_few {r : Rd} {a m : Nat} {val : Int} (h : RelD r a m val) (hm : m ≤ 9) (hv : val ≤ 6) : BRel r ∧ FewR r := by
  have hn := h.n
  have hz := rowsB_sz h.ok
  refine ⟨⟨⟨?_, ?_⟩, ?_, ?_⟩, by omega, .inl fun row hr v hv' => ?_⟩
  · have := (rowsB_iff.1 h.ok).1; omega
  · have := (rowsB_iff.1 h.ok).2.1; omega
  · omega
  · have h2 := sum_len (m := 10) (l := r.2) fun x hx => by have := hz.rl x hx; omega
    omega
  · have := h.v row hr v hv'; omega
theorem DrD.w {d : Dbd} (h : DrD d) : WDb d := by
  refine ⟨by have := h.n; omega, fun x hx => ?_, fun x hx => ?_, fun x hx => ?_⟩
  · have := (h.t x hx).1; omega
  · have := (h.t x hx).2.1.2.1; omega
  · exact (h.t x hx).2.1.2.big
theorem DrD.few {d : Dbd} (h : DrD d) : FewD d := fun t ht => (h.t t ht).2.2
def DbDP (w0 : World) (g : Nat) (w : World) (e : Ending) (w' : World) : Prop := ∃ v F d, e = .returned (.agg #[v]) ∧ SV 108 3 sTb w' v d F ∧ F.Nodup ∧ (∀ b ∈ F, w.heap.size ≤ b) ∧ d.length = 5 ∧ DrD d ∧ Cur w0 w' g ∧ Chg [g] w w'
set_option maxRecDepth 100000 in
set_option maxHeartbeats 40000000 in
theorem l6Db_any {g : Nat} {w0 w : World} (hc : Cur w0 w g) : Calls Try.prog 142 #[.pointer (some ⟨g, 0, none⟩)] w (DbDP w0 g w) := by
  have hgw := hc.lt
  have hw0w := size_of_ext hc.2.1
  have Hc0 := Lib.hid hc
  clear hc
  go_enter Try.func142, Try.ntmps142
  go_upto_region 1 with fail
  refine wp_name ?_
  intro W hW
  have xW : ∃ y, W = ext w y := by rw [hW.out]; exact (by refine x'z ?_; repeat (with_reducible (first | exact x'a _ _ | exact x'b _ | exact x'c (by assumption) | refine x'd ?_ (by assumption) | refine x'e ?_ _ | refine x'f ?_ _ | refine x'g ?_ | refine x'h ?_ ?_ _ | refine x'i ?_ _ | refine x'j ?_ | refine x'k ?_ _ | refine x'l ?_ _ _ | refine x'm ?_ | assumption | (refine x'n ?_; omega) | omega)))
  have BW0 : BoxAt W (w.heap.size) #[.slice none 0 0] := by rw [hW.out]; refine ⟨?_, fun j => ?_, fun j => ?_⟩ <;> go_simp
  obtain ⟨lW0, bW0, fW0⟩ := BW0
  have cW0_0 : W.cell? ⟨w.heap.size, 0, none⟩ = some (.slice none 0 0) := bW0 0
  clear hW
  have HR := Lib.hid (show BoxAt W w.heap.size #[.slice none 0 0] from ⟨lW0, bW0, fW0⟩)
  clear bW0 fW0 cW0_0
  have hzW := size_of_ext xW
  go_wp2_with fail
  refine (l1PickInt_any (Hc0.out.toExt (trans_ext xW (alloc_ext _ _))) (m := 4) (by omega) (by omega) (BoxAt.new _ _ _) (by intro j hj; rcases j with _ | _ | _ | _ | j <;> first | exact ⟨_, rfl⟩ | omega) (by omega)).mono ?_
  rintro e w1 ⟨val, j, rfl, hj, hz, hc1, hC1⟩
  have hval : 2 ≤ val ∧ val ≤ 6 := by
    rcases j with _ | _ | _ | _ | j <;> first | omega | (simp at hz; omega)
  obtain ⟨hval1, hval2⟩ := hval
  have HC1 := Lib.hid (((Chg.ofExt (F := [g]) xW).alloc (.cells #[.int .i64 2, .int .i64 3, .int .i64 4, .int .i64 6] 3)).trans hC1 (fun x hx => .inl hx))
  have HR1 := Lib.hid ((HR.out.alloc (.cells #[.int .i64 2, .int .i64 3, .int .i64 4, .int .i64 6] 3)).chg hC1 (by simp; omega))
  have hz1 := hC1.size
  rw [World.size_alloc] at hz1
  have Hc1 := Lib.hid hc1
  clear hz hj hC1 hc1
  go_upto_region 3 with fail
  refine wp_name ?_
  intro W3 hW3
  have x3 : ∃ y, W3 = ext w1 y := by rw [hW3.out]; exact (by refine x'z ?_; repeat (with_reducible (first | exact x'a _ _ | exact x'b _ | exact x'c (by assumption) | refine x'd ?_ (by assumption) | refine x'e ?_ _ | refine x'f ?_ _ | refine x'g ?_ | refine x'h ?_ ?_ _ | refine x'i ?_ _ | refine x'j ?_ | refine x'k ?_ _ | refine x'l ?_ _ _ | refine x'm ?_ | assumption | (refine x'n ?_; omega) | omega)))
  have B3 : BoxAt W3 w1.heap.size #[.slice none 0 0] := by rw [hW3.out]; exact (by repeat (with_reducible (first | assumption | exact BoxAt.new _ _ _ | apply BoxAt.set10 | apply BoxAt.set2 | refine BoxAt.set2' ?_ (by omega) | apply BoxAt.setP0 | apply BoxAt.setP1 | refine BoxAt.setO ?_ (by omega) | refine BoxAt.alloc ?_ _ | refine BoxAt.drew ?_ | refine BoxAt.toExt ?_ (by assumption))))
  have HR3 := Lib.hid (HR1.out.toExt x3)
  have HC3 := Lib.hid (HC1.out.trans0 x3)
  have Hc3 := Lib.hid (Hc1.out.toExt x3)
  have hz3 := size_of_ext x3
  obtain ⟨b4, q4⟩ : ∃ b, w1.heap.size = b := ⟨_, rfl⟩
  rw [q4] at B3 hz1 ⊢
  have hb4 : b4 < W3.heap.size := B3.1
  have n4g : b4 ≠ g := by omega
  have HB3 := Lib.hid B3
  clear hW3 B3 q4
  go_wp2_with fail
  go_loopw [15] (fun i wr => ∃ (k : Nat) (A : Option Addr) (c : Nat) (d : Dbd) (F : List Nat), i = .int .i64 k ∧ k ≤ 5 ∧ Hid (d.length = k) ∧ BoxAt wr b4 #[.slice A d.length c] ∧ SV 108 3 sTb wr (.slice A d.length c) d F ∧ Hid F.Nodup ∧ Hid (∀ b ∈ F, W3.heap.size < b) ∧ Hid (∀ t ∈ d, TbD t) ∧ Cur w0 wr g ∧ Chg [g, b4] (W3.alloc (.cells #[.string ⟨#[114]⟩, .string ⟨#[115]⟩, .string ⟨#[116]⟩, .string ⟨#[117]⟩, .string ⟨#[118]⟩] 9)) wr) (fun i _ => 5 - (intOf i).toNat)
  case atStart => exact ⟨0, none, 0, [], [], rfl, by omega, Lib.hid rfl, HB3.out.alloc _, SV.nil, Lib.hid (by simp), Lib.hid (by simp), Lib.hid (by simp), Hc3.out.toExt (alloc_ext _ _), Chg.refl _ _⟩
  case round => as_aux_lemma =>
    obtain ⟨k, A, c, d, F, rfl, hk, HL, hB, hS, HN, HF, HT, hcr, hC⟩ := hrel
    have HB := Lib.hid hB
    have HS := Lib.hid hS
    have HC := Lib.hid hC
    have Hcr := Lib.hid hcr
    have hzr := hC.size
    rw [World.size_alloc] at hzr
    have hdl : d.length ≤ 5 := by rw [HL.out]; exact hk
    clear hB hS hC hcr
    by_cases hlt : k < 5
    · obtain ⟨s, hs, hs1⟩ : ∃ s, wr.cell? ⟨W3.heap.size, k, none⟩ = some (.string s) ∧ s.size ≤ 5 := by
        have hb := (BoxAt.new W3 #[.string ⟨#[114]⟩, .string ⟨#[115]⟩, .string ⟨#[116]⟩, .string ⟨#[117]⟩, .string ⟨#[118]⟩] 9).chg HC.out (by simp; omega)
        rw [hb.2.1 k]
        rcases k with _ | _ | _ | _ | _ | k
        · exact ⟨_, rfl, by decide⟩
        · exact ⟨_, rfl, by decide⟩
        · exact ⟨_, rfl, by decide⟩
        · exact ⟨_, rfl, by decide⟩
        · exact ⟨_, rfl, by decide⟩
        · omega
      have hsl : W3.heap.size < wr.heap.size := by omega
      obtain ⟨tt, hbb⟩ : ∃ tt, (s.toList == [(118 : UInt8)]) = tt := ⟨_, rfl⟩
      have HBB := Lib.hid hbb
      clear hbb
      obtain ⟨ar, har, ha5⟩ : ∃ ar : Nat, (if tt = true then 3 else 2) = ar ∧ ar ≤ 5 := ⟨_, rfl, by split <;> omega⟩
      have HAR := Lib.hid har
      clear har
      go_upto_region 7 with fail
      go_cut [20] (fun v wx => v = .bool tt ∧ wx = wr)
      case first =>
        go_wp2_with fail
        go_meet
        exact ⟨by rw [← HBB.out], rfl⟩
      obtain ⟨rfl, eW⟩ := hcut
      have eW := eW.symm
      subst eW
      go_upto_if 20 with fail
      go_cut [7] (fun v wx => v = .int .i64 (ar : Int) ∧ wx = wr)
      case first =>
        cases tt with
        | true =>
          have HE := Lib.hid (show ar = 3 by rw [← HAR.out]; rfl)
          go_wp2_with fail
          go_meet
          exact ⟨by rw [HE.out]; rfl, rfl⟩
        | false =>
          have HE := Lib.hid (show ar = 2 by rw [← HAR.out]; rfl)
          go_wp2_with fail
          go_meet
          exact ⟨by rw [HE.out]; rfl, rfl⟩
      obtain ⟨rfl, eW⟩ := hcut
      have eW := eW.symm
      subst eW
      go_wp2_with fail
      refine (l1PickInt_any (Hcr.out.toExt (by refine x'z ?_; repeat (with_reducible (first | exact x'a _ _ | exact x'b _ | exact x'c (by assumption) | refine x'd ?_ (by assumption) | refine x'e ?_ _ | refine x'f ?_ _ | refine x'g ?_ | refine x'h ?_ ?_ _ | refine x'i ?_ _ | refine x'j ?_ | refine x'k ?_ _ | refine x'l ?_ _ _ | refine x'm ?_ | assumption | (refine x'n ?_; omega) | omega)))) (m := 3) (by omega) (by omega) (BoxAt.new _ _ _) (by intro j hj; rcases j with _ | _ | _ | j <;> first | exact ⟨_, rfl⟩ | omega) (by omega)).mono ?_
      rintro e w5 ⟨z, j, rfl, hj, hz, hc5, hC5⟩
      obtain ⟨mm, rfl, hmm⟩ : ∃ mm : Nat, z = mm ∧ mm ≤ 9 := ⟨z.toNat, by rcases j with _ | _ | _ | j <;> first | omega | (simp at hz; omega), by rcases j with _ | _ | _ | j <;> first | omega | (simp at hz; omega)⟩
      have HC5 := Lib.hid ((HC.out.alloc (.cells #[.int .i64 3, .int .i64 6, .int .i64 9] 3)).trans hC5 (fun x hx => .inl (by rw [List.mem_singleton.1 hx]; simp)))
      have HB5 := Lib.hid ((HB.out.alloc (.cells #[.int .i64 3, .int .i64 6, .int .i64 9] 3)).chg hC5 (by simpa using n4g))
      have HS5 := Lib.hid ((HS.out.toExt (alloc_ext wr (.cells #[.int .i64 3, .int .i64 6, .int .i64 9] 3))).chg hC5 (fun b hb h => by have := HF.out b hb; rw [List.mem_singleton.1 h] at this; omega))
      have Hc5 := Lib.hid hc5
      have hz5 := HC5.out.size
      rw [World.size_alloc] at hz5
      clear hz hj hC5 hc5
      go_wp2_with fail
      refine (l5Rel_any (a := ar) Hc5.out ha5 (by omega) (by omega) (by omega)).mono ?_
      rintro e w6 ⟨u0, u1, F6, r, rfl, hS6, hN6, hF6, hD6, hc6, hC6⟩
      obtain ⟨A6, c6, rfl, rfl, _⟩ := sRel_form hS6
      have HC6 := Lib.hid (HC5.out.trans hC6 (fun x hx => .inl (by rw [List.mem_singleton.1 hx]; simp)))
      have HB6 := Lib.hid (HB5.out.chg hC6 (by simpa using n4g))
      have HO6 := Lib.hid (HS5.out.chg hC6 (fun b hb h => by have := HF.out b hb; rw [List.mem_singleton.1 h] at this; omega))
      have HS6 := Lib.hid hS6
      have HN6 := Lib.hid (nodup_more HN.out hN6 HS5.out.lt hF6)
      have HF6 := Lib.hid (show ∀ b ∈ F6, W3.heap.size < b from fun b hb => by have := hF6 b hb; omega)
      have HD6 := Lib.hid (relD_few hD6 hmm (by omega))
      have Hc6 := Lib.hid hc6
      have hz6 := HC6.out.size
      rw [World.size_alloc] at hz6
      clear hS6 hN6 hF6 hD6 hC6 hc6
      go_upto_region 10 with fail
      refine wp_name ?_
      intro W7 hW7
      have x7 : ∃ y, W7 = ext w6 y := by rw [hW7.out]; exact (by refine x'z ?_; repeat (with_reducible (first | exact x'a _ _ | exact x'b _ | exact x'c (by assumption) | refine x'd ?_ (by assumption) | refine x'e ?_ _ | refine x'f ?_ _ | refine x'g ?_ | refine x'h ?_ ?_ _ | refine x'i ?_ _ | refine x'j ?_ | refine x'k ?_ _ | refine x'l ?_ _ _ | refine x'm ?_ | assumption | (refine x'n ?_; omega) | omega)))
      have T7 : BoxAt W7 w6.heap.size #[.int .i64 r.1, .slice A6 r.2.length c6] := by rw [hW7.out]; exact (by repeat (with_reducible (first | assumption | exact BoxAt.new _ _ _ | apply BoxAt.set2 | refine BoxAt.set2' ?_ (by omega) | apply BoxAt.setP0 | apply BoxAt.setP1 | refine BoxAt.setO ?_ (by omega) | refine BoxAt.alloc ?_ _ | refine BoxAt.drew ?_ | refine BoxAt.toExt ?_ (by assumption))))
      have HS7 := Lib.hid (HO6.out.toExt x7)
      have HR7 : Hid (sRel W7 [.int .i64 r.1, .slice A6 r.2.length c6] r F6) := Lib.hid (OD.toExt HS6.out x7)
      have HB7 := Lib.hid (HB6.out.toExt x7)
      have HC7 := Lib.hid (HC6.out.trans0 x7)
      have Hc7 := Lib.hid (Hc6.out.toExt x7)
      have hz7 := HC7.out.size
      rw [World.size_alloc] at hz7
      obtain ⟨l7, t70, t71, f7⟩ := bx2 T7
      obtain ⟨lb7, kb7, fb7⟩ := bx1 HB7.out
      clear hW7 T7
      go_wp2_with (at_builtin; refine wpList_appN (E := sTb) (d := (s, r)) (G := F6) rfl _ _ _ rfl tTb rfl rfl rfl (by simp) (sTb_mk HR7.out) rfl (by simp [Value.oneCell']) HS7.out HN6.out (by omega) (by omega) ?_; intro v8 w8 F8 hS8 hC8 hN8 hF8; obtain ⟨A8, c8, rfl, _, _⟩ := hS8.form; have B8 := HB7.out.chg hC8 (fun h => by have := HF.out _ h; omega); obtain ⟨l8, k8, f8⟩ := bx1 B8)
      have hl8 : (d ++ [(s, r)]).length = d.length + 1 := by simp
      have hF8n : ∀ b ∈ F8, W3.heap.size < b := fun b hb => by
        rcases hF8 b hb with h | h | h
        · exact HF.out b h
        · exact HF6.out b h
        · omega
      (try rw [hl8] at hS8)
      have hsC := (Chg.refl [b4] w8).setCell (p := ⟨b4, 0, none⟩) (.inl (by simp)) (.slice A8 (d.length + 1) c8)
      have hz8 := hC8.size
      exact ⟨⟨k + 1, A8, c8, d ++ [(s, r)], F8, by go_num, by omega, Lib.hid (by rw [hl8, HL.out]), by rw [hl8]; exact B8.set10, by rw [hl8]; exact hS8.chg hsC (fun b hb h => by have := hF8n b hb; rw [List.mem_singleton.1 h] at this; omega), Lib.hid hN8, Lib.hid hF8n, Lib.hid (fun t ht => by
        rcases List.mem_append.1 ht with h | h
        · exact HT.out t h
        · rw [List.mem_singleton.1 h]; exact ⟨by dsimp only; omega, HD6.out⟩), (Hc7.out.chg hC8 (fun h => by have := HF.out _ h; omega) (fun b hb => by have := HF.out b hb; omega)).chg hsC (by simpa using fun h => n4g h.symm) (by simp; omega), (HC7.out.trans hC8 (fun x hx => .inr (by rw [World.size_alloc]; exact HF.out x hx))).trans hsC (fun x hx => .inl (by rw [List.mem_singleton.1 hx]; simp))⟩, by simp [intOf]; omega⟩
    · have HL5 := Lib.hid (show d.length = 5 by rw [HL.out]; omega)
      have HD := Lib.hid (DrD.mk (by omega) HT.out)
      have HCW := Lib.hid (show Chg [g] w wr from ((HC3.out.alloc (.cells #[.string ⟨#[114]⟩, .string ⟨#[115]⟩, .string ⟨#[116]⟩, .string ⟨#[117]⟩, .string ⟨#[118]⟩] 9)).trans HC.out (fun x hx => by
        rcases List.mem_cons.1 hx with h | h
        · exact .inl (by rw [h]; simp)
        · exact .inr (by rw [List.mem_singleton.1 h]; omega))))
      have HRr := Lib.hid ((HR3.out.alloc (.cells #[.string ⟨#[114]⟩, .string ⟨#[115]⟩, .string ⟨#[116]⟩, .string ⟨#[117]⟩, .string ⟨#[118]⟩] 9)).chg HC.out (by simp; omega))
      go_wp2_with fail
      refine (l1Once_any Hcr.out (by omega) (by omega)).mono ?_
      rintro e w5 ⟨t, rfl, hc5, hC5⟩
      have HS5 := Lib.hid (HS.out.chg hC5 (fun b hb h => by have := HF.out b hb; rw [List.mem_singleton.1 h] at this; omega))
      have HB5 := Lib.hid (HB.out.chg hC5 (by simpa using n4g))
      have HR5 := Lib.hid (HRr.out.chg hC5 (by simp; omega))
      have HC5 := Lib.hid (HCW.out.trans hC5 (fun x hx => .inl hx))
      have Hc5 := Lib.hid hc5
      have hz5 := hC5.size
      clear hc5 hC5
      cases t with
      | false =>
        have HB9 := HB5
        have HR9 := HR5
        have HS9 := HS5
        have HF9 := Lib.hid (show ∀ b ∈ F, W3.heap.size < b from HF.out)
        have HN9 := HN
        have HL9 := HL5
        have HD9 := HD
        have Hc9 := Hc5
        have HC9 := HC5
        go_upto_region 14 with fail
        obtain ⟨lf1, kf1, ff1⟩ := bx1 HB9.out
        obtain ⟨lf2, kf2, ff2⟩ := bx1 HR9.out
        go_wp2_with fail
        refine bodyPost_ret (v := .agg #[.slice A d.length c]) (by simp [results, Try.results142, go_sem, *]) rfl ?_
        show DbDP w0 g w _ _
        have hC9 := (Chg.refl [w.heap.size] w5).setCell (p := ⟨w.heap.size, 0, none⟩) (.inl (by simp)) (.slice A d.length c)
        exact ⟨_, F, d, rfl, HS9.out.chg hC9 (fun b hb h => by have := HF9.out b hb; rw [List.mem_singleton.1 h] at this; omega), HN9.out, fun b hb => by have := HF9.out b hb; omega, HL9.out, HD9.out, Hc9.out.chg hC9 (by simp; omega) (by simp; omega), HC9.out.trans hC9 (fun x hx => .inr (by rw [List.mem_singleton.1 hx]; omega))⟩
      | true =>
        obtain ⟨g2, cap2, hA, hg2F, _, _⟩ := HS5.out.block (by intro e; have := HL5.out; rw [e] at this; simp at this)
        injection hA with hA _ hcp
        subst hA hcp
        have hg2 := HF.out g2 hg2F
        have ng2 : g2 ≠ g := by omega
        have n24 : b4 ≠ g2 := by omega
        have hd5 : d.length * 3 = 15 := by rw [HL5.out]
        have hd50 : (5 : Int) ≤ (d.length : Int) := by have := HL5.out; omega
        obtain ⟨l5, k5, f5⟩ := bx1 HB5.out
        go_upto_region 13 with fail
        go_region_law (first
          | (rw [if_pos (by simp [Region.wanted])]; go_wp2_with (go_at_call 136; refine (l1Below_any (Hc5.out.toExt (by refine x'z ?_; repeat (with_reducible (first | exact x'a _ _ | exact x'b _ | exact x'c (by assumption) | refine x'd ?_ (by assumption) | refine x'e ?_ _ | refine x'f ?_ _ | refine x'g ?_ | refine x'h ?_ ?_ _ | refine x'i ?_ _ | refine x'j ?_ | refine x'k ?_ _ | refine x'l ?_ _ _ | refine x'm ?_ | assumption | (refine x'n ?_; omega) | omega)))) (by omega) (by omega)).mono ?_; rintro e w6 ⟨x, rfl, hx0, hx1, hc6, hC6⟩; obtain ⟨k0, rfl⟩ : ∃ k : Nat, x = k := ⟨x.toNat, by omega⟩; have hk0 : k0 < d.length := (by omega); have hS6 := (HS5.out.toExt (by refine x'z ?_; repeat (with_reducible (first | exact x'a _ _ | exact x'b _ | exact x'c (by assumption) | refine x'd ?_ (by assumption) | refine x'e ?_ _ | refine x'f ?_ _ | refine x'g ?_ | refine x'h ?_ ?_ _ | refine x'i ?_ _ | refine x'j ?_ | refine x'k ?_ _ | refine x'l ?_ _ _ | refine x'm ?_ | assumption | (refine x'n ?_; omega) | omega)))).chg hC6 (fun b hb h => by have := HF.out b hb; rw [List.mem_singleton.1 h] at this; omega); obtain ⟨⟨u1, i3⟩, i4, i5⟩ := hS6.cell rfl (j := k0 * 3 + 2) (by omega); have HS6 := Lib.hid hS6; have HC6 := Lib.hid (show Chg [g] w w6 from (HC5.out.trans0 (by refine x'z ?_; repeat (with_reducible (first | exact x'a _ _ | exact x'b _ | exact x'c (by assumption) | refine x'd ?_ (by assumption) | refine x'e ?_ _ | refine x'f ?_ _ | refine x'g ?_ | refine x'h ?_ ?_ _ | refine x'i ?_ _ | refine x'j ?_ | refine x'k ?_ _ | refine x'l ?_ _ _ | refine x'm ?_ | assumption | (refine x'n ?_; omega) | omega)))).trans hC6 (fun x hx => .inl hx)); have Hc6 := Lib.hid hc6; have HB6 := Lib.hid ((HB5.out.toExt (by refine x'z ?_; repeat (with_reducible (first | exact x'a _ _ | exact x'b _ | exact x'c (by assumption) | refine x'd ?_ (by assumption) | refine x'e ?_ _ | refine x'f ?_ _ | refine x'g ?_ | refine x'h ?_ ?_ _ | refine x'i ?_ _ | refine x'j ?_ | refine x'k ?_ _ | refine x'l ?_ _ _ | refine x'm ?_ | assumption | (refine x'n ?_; omega) | omega)))).chg hC6 (by simpa using n4g)); have HR6 := Lib.hid ((HR5.out.toExt (by refine x'z ?_; repeat (with_reducible (first | exact x'a _ _ | exact x'b _ | exact x'c (by assumption) | refine x'd ?_ (by assumption) | refine x'e ?_ _ | refine x'f ?_ _ | refine x'g ?_ | refine x'h ?_ ?_ _ | refine x'i ?_ _ | refine x'j ?_ | refine x'k ?_ _ | refine x'l ?_ _ _ | refine x'm ?_ | assumption | (refine x'n ?_; omega) | omega)))).chg hC6 (by simp; omega)); have hz6 := hC6.size; obtain ⟨l6, k6, f6⟩ := bx1 HB6.out; clear hc6 hC6 hS6)))
        all_goals
          have hsC := (Chg.refl [g2] w6).setCell (p := ⟨g2, k0 * 3 + 2, none⟩) (.inl (by simp)) (.slice none 0 0)
          obtain ⟨F9, hS9, hN9, hF9⟩ := HS6.out.setG (G := []) (by simpa using HN.out) hk0 ⟨_, _, rfl⟩ (j := 2) (u := .slice none 0 0) (d' := (d[k0].1, d[k0].2.1, [])) (by omega) (fun c Fk hcl hE _ => by
            obtain ⟨A, n, rfl⟩ := sTb_list hE
            exact sTb_mk (F := []) (sRel_mk (F := []) ⟨_, rfl, SV.nil⟩))
          have HB9 := Lib.hid (HB6.out.chg hsC (by simpa using n24))
          have HR9 := Lib.hid (HR6.out.chg hsC (by simp; omega))
          have HS9 := Lib.hid hS9
          have HF9 := Lib.hid (show ∀ b ∈ F9, W3.heap.size < b from fun b hb => by
            rcases hF9 b hb with h | h
            · exact HF.out b h
            · simp at h)
          have HN9 := Lib.hid hN9
          have HL9 := Lib.hid (show (d.set k0 (d[k0].1, d[k0].2.1, [])).length = 5 by rw [List.length_set]; exact HL5.out)
          have HD9 : Hid (DrD (d.set k0 (d[k0].1, d[k0].2.1, []))) := Lib.hid ⟨by rw [List.length_set]; exact HD.out.n, fun t ht => by
            rcases List.mem_or_eq_of_mem_set ht with h | h
            · exact HD.out.t t h
            · have := HD.out.t _ (List.getElem_mem hk0)
              rw [h]
              exact ⟨this.1, ⟨this.2.1.1, by simp, by simp⟩, by simp, .inr (by simp)⟩⟩
          have Hc9 := Lib.hid (Hc6.out.chg hsC (by simpa using fun h => ng2 h.symm) (by simp; omega))
          have HC9 := Lib.hid (HC6.out.trans hsC (fun x hx => .inr (by rw [List.mem_singleton.1 hx]; omega)))
          clear hS9 hN9 hF9 hsC
          go_upto_region 14 with fail
          refine wp_name ?_
          intro WX hWX
          rw [← hWX.out] at HB9 HR9 HS9 Hc9 HC9
          clear hWX l6 k6 f6
          obtain ⟨lf1, kf1, ff1⟩ := bx1 HB9.out
          obtain ⟨lf2, kf2, ff2⟩ := bx1 HR9.out
          go_wp2_with fail
          refine bodyPost_ret (v := .agg #[.slice (some ⟨g2, 0, none⟩) d.length c]) (by simp [results, Try.results142, go_sem, *]) rfl ?_
          show DbDP w0 g w _ _
          have hC9 := (Chg.refl [w.heap.size] WX).setCell (p := ⟨w.heap.size, 0, none⟩) (.inl (by simp)) (.slice (some ⟨g2, 0, none⟩) d.length c)
          exact ⟨_, F9, (d.set k0 (d[k0].1, d[k0].2.1, [])), rfl, HS9.out.chg hC9 (fun b hb h => by have := HF9.out b hb; rw [List.mem_singleton.1 h] at this; omega), HN9.out, fun b hb => by have := HF9.out b hb; omega, HL9.out, HD9.out, Hc9.out.chg hC9 (by simp; omega) (by simp; omega), HC9.out.trans hC9 (fun x hx => .inr (by rw [List.mem_singleton.1 hx]; omega))⟩
end Go.Proofs.Ytfigcfajkilhiaa

/- The reference's draws of databases that may be out of form. -/
namespace Go.Proofs.Ytfigcfajkilhiaa
open Go.RowKit
theorem SV.pers {α : Type} {te size : Nat} {E : SE α} [SMono E] {V : VE α} {w : World} {A : Option Addr} {n c : Nat} {ds : List α} {F G : List Nat} (h : SV te size E w (.slice A n c) ds F) (hV : ∀ w c d F, E w c d F → V w c d) (hF : ∀ b ∈ F, b ∉ G) : ∀ w2, Chg G w w2 → RV size V w2 A ds := fun w2 hC => (h.chg hC hF).toView (hV w2)
theorem Db.setRel {te : Nat} {w : World} {d : Dbd} {F G : List Nat} {g2 n cap k : Nat} {A : Option Addr} {c : Nat} {r : Rd} (h : SV te 3 sTb w (.slice (some ⟨g2, 0, none⟩) n cap) d F) (hN : (F ++ G).Nodup) (hk : k < d.length) (hr : sRel w [.int .i64 r.1, .slice A r.2.length c] r G) :
    ∃ F', SV te 3 sTb ((w.setCell ⟨g2, k * 3 + 1, none⟩ (.int .i64 r.1)).setCell ⟨g2, k * 3 + 2, none⟩ (.slice A r.2.length c)) (.slice (some ⟨g2, 0, none⟩) n cap) (d.set k (d[k].1, r)) F' ∧ F'.Nodup ∧ ∀ b ∈ F', b ∈ F ∨ b ∈ G := by
  have hN1 := (List.nodup_append.1 hN).1
  have hGF : ∀ b ∈ G, b ∉ F := fun b hb hf => (List.nodup_append.1 hN).2.2 b hf b hb rfl
  obtain ⟨g, cap', cl, Fk, hv, hg, hgF, hgk, hFk, hNk, hcl, hcells, _, hE, _, hset⟩ := h.at hN1 hk
  injection hv with hv _ hcp
  injection hv with hv
  injection hv with hv
  subst hv
  obtain ⟨A9, n9, rfl⟩ := sTb_list hE
  obtain ⟨A0, c0, _, _, e2, hR⟩ := sTb_form hE
  injection e2 with e2a e2b e2c
  subst e2a e2c
  obtain ⟨_, _, _, _, hI⟩ := sRel_form hR
  obtain ⟨h1, hC1⟩ := hset 1 (.int .i64 r.1) (d[k].1, r.1, d[k].2.2) (by omega) (sTb_mk (sRel_mk hI))
  have hr1 := OD.chg hr hC1 (fun b hb h => hGF b hb (by rw [List.mem_singleton.1 h]; exact hgF))
  obtain ⟨F', h2, h3, h4⟩ := h1.setG (G := G) hN (k := k) (by rw [List.length_set]; exact hk) ⟨_, _, rfl⟩ (j := 2) (u := .slice A r.2.length c) (d' := (d[k].1, r)) (by omega) (fun c9 Fk9 hc9 hE9 hcell9 => by
    obtain ⟨A8, n8, rfl⟩ := sTb_list hE9
    simp only [List.getElem_set_self]
    exact sTb_mk hr1)
  rw [List.set_set] at h2
  exact ⟨F', h2, h3, h4⟩
def AnyDP (w0 : World) (g : Nat) (w : World) (e : Ending) (w' : World) : Prop := ∃ A c d, e = .returned (.agg #[.slice A d.length c]) ∧ (∀ GG w2, (∀ x ∈ GG, x < w.heap.size) → Chg GG w' w2 → RV 3 vTb w2 A d) ∧ d.length ≤ c ∧ DrD d ∧ Cur w0 w' g ∧ Chg [g] w w'
set_option maxRecDepth 100000 in
set_option maxHeartbeats 40000000 in
theorem l6Any_any {g : Nat} {w0 w : World} (hc : Cur w0 w g) : Calls Try.prog 141 #[.pointer (some ⟨g, 0, none⟩)] w (AnyDP w0 g w) := by
  have hgw := hc.lt
  have hw0w := size_of_ext hc.2.1
  have Hc0 := Lib.hid hc
  clear hc
  go_enter Try.func141, Try.ntmps141
  go_upto_region 1 with fail
  refine wp_name ?_
  intro W hW
  have xW : ∃ y, W = ext w y := by rw [hW.out]; exact (by refine x'z ?_; repeat (with_reducible (first | exact x'a _ _ | exact x'b _ | exact x'c (by assumption) | refine x'd ?_ (by assumption) | refine x'e ?_ _ | refine x'f ?_ _ | refine x'g ?_ | refine x'h ?_ ?_ _ | refine x'i ?_ _ | refine x'j ?_ | refine x'k ?_ _ | refine x'l ?_ _ _ | refine x'm ?_ | assumption | (refine x'n ?_; omega) | omega)))
  have BW0 : BoxAt W (w.heap.size) #[.slice none 0 0] := by rw [hW.out]; refine ⟨?_, fun j => ?_, fun j => ?_⟩ <;> go_simp
  obtain ⟨lW0, bW0, fW0⟩ := BW0
  have cW0_0 : W.cell? ⟨w.heap.size, 0, none⟩ = some (.slice none 0 0) := bW0 0
  clear hW
  have HR := Lib.hid (show BoxAt W w.heap.size #[.slice none 0 0] from ⟨lW0, bW0, fW0⟩)
  clear bW0 fW0 cW0_0
  have hzW := size_of_ext xW
  go_wp2_with fail
  refine (l6Db_any (Hc0.out.toExt xW)).mono ?_
  rintro e w1 ⟨v1, F, d, rfl, hS1, hN, hF1, hL, hD, hc1, hC1⟩
  obtain ⟨g2, cap, rfl, hg2F, hcap, _⟩ := hS1.block (by intro e; rw [e] at hL; simp at hL)
  have HC1 := Lib.hid ((Chg.ofExt (F := [g]) xW).trans hC1 (fun x hx => .inl hx))
  have HR1 := Lib.hid (HR.out.chg hC1 (by simp; omega))
  have hz1 := hC1.size
  have HS1 := Lib.hid hS1
  have HN := Lib.hid hN
  have HD := Lib.hid hD
  have HL := Lib.hid hL
  have Hc1 := Lib.hid hc1
  have HF1 := Lib.hid hF1
  have hd5 : (d.length : Int) ≤ 5 := by omega
  have hd50 : (5 : Int) ≤ (d.length : Int) := by omega
  clear hS1 hN hD hL hc1 hC1 hF1
  go_upto_region 2 with fail
  refine wp_name ?_
  intro W3 hW3
  have x3 : ∃ y, W3 = ext w1 y := by rw [hW3.out]; exact (by refine x'z ?_; repeat (with_reducible (first | exact x'a _ _ | exact x'b _ | exact x'c (by assumption) | refine x'd ?_ (by assumption) | refine x'e ?_ _ | refine x'f ?_ _ | refine x'g ?_ | refine x'h ?_ ?_ _ | refine x'i ?_ _ | refine x'j ?_ | refine x'k ?_ _ | refine x'l ?_ _ _ | refine x'm ?_ | assumption | (refine x'n ?_; omega) | omega)))
  have B3 : BoxAt W3 w1.heap.size #[.slice (some ⟨g2, 0, none⟩) d.length cap] := by rw [hW3.out]; exact (by repeat (with_reducible (first | assumption | exact BoxAt.new _ _ _ | apply BoxAt.set10 | apply BoxAt.set2 | refine BoxAt.set2' ?_ (by omega) | apply BoxAt.setP0 | apply BoxAt.setP1 | refine BoxAt.setO ?_ (by omega) | refine BoxAt.alloc ?_ _ | refine BoxAt.drew ?_ | refine BoxAt.toExt ?_ (by assumption))))
  have HR3 := Lib.hid (HR1.out.toExt x3)
  have HC3 := Lib.hid (HC1.out.trans0 x3)
  have Hc3 := Lib.hid (Hc1.out.toExt x3)
  have HS3 := Lib.hid (HS1.out.toExt x3)
  have hz3 := size_of_ext x3
  have hFl := HS1.out.lt
  obtain ⟨b4, q4⟩ : ∃ b, w1.heap.size = b := ⟨_, rfl⟩
  have HF := Lib.hid (show ∀ b ∈ F, W.heap.size ≤ b ∧ b < b4 from fun b hb => ⟨HF1.out b hb, by have := hFl b hb; omega⟩)
  rw [q4] at B3 hz1 ⊢
  have hb4 : b4 < W3.heap.size := B3.1
  have n4g : b4 ≠ g := by omega
  have HB3 := Lib.hid B3
  have hg2 := HF.out g2 hg2F
  have ng2 : g2 ≠ g := by omega
  have n24 : b4 ≠ g2 := by omega
  clear hW3 B3 q4 hFl HS1 HF1 HR1 HC1 Hc1
  go_wp2_with fail
  refine (l1Below_any Hc3.out (by omega) (by omega)).mono ?_
  rintro e w4 ⟨x, rfl, hx0, hx1, hc4, hC4⟩
  obtain ⟨k, rfl⟩ : ∃ k : Nat, x = k := ⟨x.toNat, by omega⟩
  have hk : k < d.length := by omega
  have HB4 := Lib.hid (HB3.out.chg hC4 (by simpa using n4g))
  have HR4 := Lib.hid (HR3.out.chg hC4 (by simp; omega))
  have HC4 := Lib.hid (HC3.out.trans hC4 (fun x hx => .inl hx))
  have HS4 := Lib.hid (HS3.out.chg hC4 (fun b hb h => by have := HF.out b hb; rw [List.mem_singleton.1 h] at this; omega))
  have hz4 := hC4.size
  have Hc4 := Lib.hid hc4
  clear hc4 hC4
  go_wp2_with fail
  refine (l1Below_any Hc4.out (by omega) (by omega)).mono ?_
  rintro e w5 ⟨x, rfl, hy0, hy1, hc5, hC5⟩
  have HB5 := Lib.hid (HB4.out.chg hC5 (by simpa using n4g))
  have HR5 := Lib.hid (HR4.out.chg hC5 (by simp; omega))
  have HC5 := Lib.hid (HC4.out.trans hC5 (fun x hx => .inl hx))
  have HS5 := Lib.hid (HS4.out.chg hC5 (fun b hb h => by have := HF.out b hb; rw [List.mem_singleton.1 h] at this; omega))
  have hz5 := hC5.size
  have Hc5 := Lib.hid hc5
  have hg5 := Hc5.out.lt
  clear hc5 hC5 HB3 HR3 HC3 Hc3 HS3 HB4 HR4 HC4 Hc4 HS4
  obtain ⟨l5, k5, f5⟩ := bx1 HB5.out
  by_cases e0 : x = 0
  · have q0 : (x == 0) = true := by simp [e0]
    have q1 : (x == 1) = false := by simp [e0]
    have q2 : (x == 2) = false := by simp [e0]
    have q3 : (x == 3) = false := by simp [e0]
    clear e0
    go_upto_region 5 with fail
    go_region_law (first
      | (rw [if_pos (by simp [Region.wanted])]; go_wp2_with (go_at_call 138; refine (l1Pick_any (m := 5) (cs := #[.string ⟨#[]⟩, .string ⟨#[82]⟩, .string ⟨#[97, 98, 99, 100, 101]⟩, .string ⟨#[97]⟩, .string ⟨#[122]⟩]) (Hc5.out.toExt (by refine x'z ?_; repeat (with_reducible (first | exact x'a _ _ | exact x'b _ | exact x'c (by assumption) | refine x'd ?_ (by assumption) | refine x'e ?_ _ | refine x'f ?_ _ | refine x'g ?_ | refine x'h ?_ ?_ _ | refine x'i ?_ _ | refine x'j ?_ | refine x'k ?_ _ | refine x'l ?_ _ _ | refine x'm ?_ | assumption | (refine x'n ?_; omega) | omega)))) (by omega) (by omega) (by first | exact BoxAt.new _ _ _ | exact (BoxAt.new _ _ _).drew) (by intro j hj; rcases j with _ | _ | _ | _ | _ | j <;> first | exact ⟨_, rfl⟩ | omega) (by simp; omega)).mono ?_; rintro e w6 ⟨z, j, rfl, hj, hz, hc6, hC6⟩; have hS6 := (HS5.out.toExt (by refine x'z ?_; repeat (with_reducible (first | exact x'a _ _ | exact x'b _ | exact x'c (by assumption) | refine x'd ?_ (by assumption) | refine x'e ?_ _ | refine x'f ?_ _ | refine x'g ?_ | refine x'h ?_ ?_ _ | refine x'i ?_ _ | refine x'j ?_ | refine x'k ?_ _ | refine x'l ?_ _ _ | refine x'm ?_ | assumption | (refine x'n ?_; omega) | omega)))).chg hC6 (fun b hb h => by have := HF.out b hb; rw [List.mem_singleton.1 h] at this; omega); obtain ⟨⟨u1, i3⟩, i4, i5⟩ := hS6.cell rfl (j := k * 3) (by omega); have HS6 := Lib.hid hS6; have HC6 := Lib.hid (show Chg [g] w w6 from (HC5.out.trans0 (by refine x'z ?_; repeat (with_reducible (first | exact x'a _ _ | exact x'b _ | exact x'c (by assumption) | refine x'd ?_ (by assumption) | refine x'e ?_ _ | refine x'f ?_ _ | refine x'g ?_ | refine x'h ?_ ?_ _ | refine x'i ?_ _ | refine x'j ?_ | refine x'k ?_ _ | refine x'l ?_ _ _ | refine x'm ?_ | assumption | (refine x'n ?_; omega) | omega)))).trans hC6 (fun x hx => .inl hx)); have Hc6 := Lib.hid hc6; have HB6 := Lib.hid ((HB5.out.toExt (by refine x'z ?_; repeat (with_reducible (first | exact x'a _ _ | exact x'b _ | exact x'c (by assumption) | refine x'd ?_ (by assumption) | refine x'e ?_ _ | refine x'f ?_ _ | refine x'g ?_ | refine x'h ?_ ?_ _ | refine x'i ?_ _ | refine x'j ?_ | refine x'k ?_ _ | refine x'l ?_ _ _ | refine x'm ?_ | assumption | (refine x'n ?_; omega) | omega)))).chg hC6 (by simpa using n4g)); have HR6 := Lib.hid ((HR5.out.toExt (by refine x'z ?_; repeat (with_reducible (first | exact x'a _ _ | exact x'b _ | exact x'c (by assumption) | refine x'd ?_ (by assumption) | refine x'e ?_ _ | refine x'f ?_ _ | refine x'g ?_ | refine x'h ?_ ?_ _ | refine x'i ?_ _ | refine x'j ?_ | refine x'k ?_ _ | refine x'l ?_ _ _ | refine x'm ?_ | assumption | (refine x'n ?_; omega) | omega)))).chg hC6 (by simp; omega)); have hz6 := hC6.size; have HZ6 := Lib.hid hz; obtain ⟨l6, k6, f6⟩ := bx1 HB6.out; clear hc6 hC6 hS6 hz)))
    all_goals
      have hzs : z.size ≤ 5 := by
        have h := HZ6.out
        rcases j with _ | _ | _ | _ | _ | j
        · injection h with h; injection h with h; rw [← h]; decide
        · injection h with h; injection h with h; rw [← h]; decide
        · injection h with h; injection h with h; rw [← h]; decide
        · injection h with h; injection h with h; rw [← h]; decide
        · injection h with h; injection h with h; rw [← h]; decide
        · omega
      have hsC := (Chg.refl [g2] w6).setCell (p := ⟨g2, k * 3, none⟩) (.inl (by simp)) (.string z)
      obtain ⟨g', cap', cl, Fk, hv, _, _, _, _, _, _, _, _, hE, _, hset⟩ := HS6.out.at HN.out hk
      injection hv with hv _ hvc
      injection hv with hv
      injection hv with hv
      subst hv hvc
      obtain ⟨A9, n9, rfl⟩ := sTb_list hE
      obtain ⟨_, _, _, _, _, hR⟩ := sTb_form hE
      have hS9 := (hset 0 (.string z) (z, d[k].2) (by omega) (sTb_mk hR)).1
      have HB9 := Lib.hid (HB6.out.chg hsC (by simpa using n24))
      have HR9 := Lib.hid (HR6.out.chg hsC (by simp; omega))
      have Hc9 := Lib.hid (Hc6.out.chg hsC (by simpa using fun h => ng2 h.symm) (by simp; omega))
      have HC9 := Lib.hid (HC6.out.trans hsC (fun x hx => .inr (by rw [List.mem_singleton.1 hx]; omega)))
      have HD9 : Hid (DrD (d.set k (z, d[k].2))) := Lib.hid ⟨by rw [List.length_set]; exact HD.out.n, fun t ht => by
        rcases List.mem_or_eq_of_mem_set ht with h | h
        · exact HD.out.t t h
        · have := HD.out.t _ (List.getElem_mem hk)
          rw [h]
          exact ⟨hzs, this.2⟩⟩
      have HLN := Lib.hid (show d.length = (d.set k (z, d[k].2)).length by rw [List.length_set])
      have HCP := Lib.hid (show (d.set k (z, d[k].2)).length ≤ cap by rw [List.length_set]; exact hcap)
      have HV9 := Lib.hid (show ∀ (GG : List Nat) w2, (∀ x ∈ GG, x < w.heap.size) → Chg (w.heap.size :: GG) _ w2 → RV 3 vTb w2 (some ⟨g2, 0, none⟩) (d.set k (z, d[k].2)) from fun GG w2 hG => hS9.pers (V := vTb) (G := w.heap.size :: GG) (fun _ => sTb_v) (fun b hb h => by
        have := HF.out b hb
        rcases List.mem_cons.1 h with h | h
        · omega
        · have := hG b h; omega) w2)
      clear hS9 hsC hset hE hR
      go_upto_region 12 with fail
      refine wp_name ?_
      intro WX hWX
      have eW : w6.setCell ⟨g2, k * 3 + 0, none⟩ (.string z) = WX := by rw [hWX.out]; rfl
      rw [← hWX.out] at HB9 HR9 Hc9 HC9
      rw [eW] at HV9
      clear hWX l6 k6 f6 l5 k5 f5 eW
      obtain ⟨lf1, kf1, ff1⟩ := bx1 HB9.out
      obtain ⟨lf2, kf2, ff2⟩ := bx1 HR9.out
      go_wp2_with fail
      refine bodyPost_ret (v := .agg #[.slice (some ⟨g2, 0, none⟩) d.length cap]) (by simp [results, Try.results141, go_sem, *]) rfl ?_
      show AnyDP w0 g w _ _
      have hC9 := (Chg.refl [w.heap.size] WX).setCell (p := ⟨w.heap.size, 0, none⟩) (.inl (by simp)) (.slice (some ⟨g2, 0, none⟩) d.length cap)
      exact ⟨(some ⟨g2, 0, none⟩), cap, (d.set k (z, d[k].2)), by first | rfl | rw [← HLN.out], fun GG w2 hG hC2 => HV9.out GG w2 hG ((hC9.mono (G := w.heap.size :: GG) (fun x hx => .inl (by rw [List.mem_singleton.1 hx]; simp))).trans hC2 (fun x hx => .inl (List.mem_cons_of_mem _ hx))), HCP.out, HD9.out, Hc9.out.chg hC9 (by simp; omega) (by simp; omega), HC9.out.trans hC9 (fun x hx => .inr (by rw [List.mem_singleton.1 hx]; omega))⟩
  · have q0 : (x == 0) = false := by simp [e0]
    by_cases e1 : x = 1
    · have q1 : (x == 1) = true := by simp [e1]
      have q2 : (x == 2) = false := by simp [e1]
      have q3 : (x == 3) = false := by simp [e1]
      clear e0 e1
      go_upto_region 7 with fail
      go_region_law (first
        | (rw [if_pos (by simp [Region.wanted])]; go_wp2_with (go_at_call 129; refine (l5Any_any (Hc5.out.toExt (by refine x'z ?_; repeat (with_reducible (first | exact x'a _ _ | exact x'b _ | exact x'c (by assumption) | refine x'd ?_ (by assumption) | refine x'e ?_ _ | refine x'f ?_ _ | refine x'g ?_ | refine x'h ?_ ?_ _ | refine x'i ?_ _ | refine x'j ?_ | refine x'k ?_ _ | refine x'l ?_ _ _ | refine x'm ?_ | assumption | (refine x'n ?_; omega) | omega))))).mono ?_; rintro e w6 ⟨u0, u1, F6, r, rfl, hS6, hN6, hF6, hA6, hc6, hC6⟩; obtain ⟨A6, c6, rfl, rfl, _⟩ := sRel_form hS6; have hO6 := (HS5.out.toExt (by refine x'z ?_; repeat (with_reducible (first | exact x'a _ _ | exact x'b _ | exact x'c (by assumption) | refine x'd ?_ (by assumption) | refine x'e ?_ _ | refine x'f ?_ _ | refine x'g ?_ | refine x'h ?_ ?_ _ | refine x'i ?_ _ | refine x'j ?_ | refine x'k ?_ _ | refine x'l ?_ _ _ | refine x'm ?_ | assumption | (refine x'n ?_; omega) | omega)))).chg hC6 (fun b hb h => by have := HF.out b hb; rw [List.mem_singleton.1 h] at this; omega); obtain ⟨⟨u1, i3⟩, i4, i5⟩ := hO6.cell rfl (j := k * 3 + 1) (by omega); obtain ⟨⟨u2, i6⟩, i7, i8⟩ := hO6.cell rfl (j := k * 3 + 2) (by omega); have HO6 := Lib.hid hO6; have HS6 := Lib.hid hS6; have HN6 := Lib.hid hN6; have HF6 := Lib.hid (show ∀ b ∈ F6, w5.heap.size ≤ b from fun b hb => by have := hF6 b hb; simpa using this); have HA6 := Lib.hid hA6; have HC6 := Lib.hid (show Chg [g] w w6 from (HC5.out.trans0 (by refine x'z ?_; repeat (with_reducible (first | exact x'a _ _ | exact x'b _ | exact x'c (by assumption) | refine x'd ?_ (by assumption) | refine x'e ?_ _ | refine x'f ?_ _ | refine x'g ?_ | refine x'h ?_ ?_ _ | refine x'i ?_ _ | refine x'j ?_ | refine x'k ?_ _ | refine x'l ?_ _ _ | refine x'm ?_ | assumption | (refine x'n ?_; omega) | omega)))).trans hC6 (fun x hx => .inl hx)); have Hc6 := Lib.hid hc6; have HB6 := Lib.hid ((HB5.out.toExt (by refine x'z ?_; repeat (with_reducible (first | exact x'a _ _ | exact x'b _ | exact x'c (by assumption) | refine x'd ?_ (by assumption) | refine x'e ?_ _ | refine x'f ?_ _ | refine x'g ?_ | refine x'h ?_ ?_ _ | refine x'i ?_ _ | refine x'j ?_ | refine x'k ?_ _ | refine x'l ?_ _ _ | refine x'm ?_ | assumption | (refine x'n ?_; omega) | omega)))).chg hC6 (by simpa using n4g)); have HR6 := Lib.hid ((HR5.out.toExt (by refine x'z ?_; repeat (with_reducible (first | exact x'a _ _ | exact x'b _ | exact x'c (by assumption) | refine x'd ?_ (by assumption) | refine x'e ?_ _ | refine x'f ?_ _ | refine x'g ?_ | refine x'h ?_ ?_ _ | refine x'i ?_ _ | refine x'j ?_ | refine x'k ?_ _ | refine x'l ?_ _ _ | refine x'm ?_ | assumption | (refine x'n ?_; omega) | omega)))).chg hC6 (by simp; omega)); have hz6 := hC6.size; obtain ⟨l6, k6, f6⟩ := bx1 HB6.out; clear hc6 hC6 hO6 hS6 hN6 hF6 hA6)))
      all_goals
        have hsC := ((Chg.refl [g2] w6).setCell (p := ⟨g2, k * 3 + 1, none⟩) (.inl (by simp)) (.int .i64 r.1)).setCell (p := ⟨g2, k * 3 + 2, none⟩) (.inl (by simp)) (.slice A6 r.2.length c6)
        obtain ⟨F9, hS9, _, hF9⟩ := Db.setRel HO6.out (nodup_more HN.out HN6.out HS5.out.lt HF6.out) hk HS6.out
        have HB9 := Lib.hid (HB6.out.chg hsC (by simpa using n24))
        have HR9 := Lib.hid (HR6.out.chg hsC (by simp; omega))
        have Hc9 := Lib.hid (Hc6.out.chg hsC (by simpa using fun h => ng2 h.symm) (by simp; omega))
        have HC9 := Lib.hid (HC6.out.trans hsC (fun x hx => .inr (by rw [List.mem_singleton.1 hx]; omega)))
        have HD9 : Hid (DrD (d.set k (d[k].1, r))) := Lib.hid ⟨by rw [List.length_set]; exact HD.out.n, fun t ht => by
          rcases List.mem_or_eq_of_mem_set ht with h | h
          · exact HD.out.t t h
          · have := HD.out.t _ (List.getElem_mem hk)
            rw [h]
            exact ⟨this.1, anyR_few HA6.out⟩⟩
        have HLN := Lib.hid (show d.length = (d.set k (d[k].1, r)).length by rw [List.length_set])
        have HCP := Lib.hid (show (d.set k (d[k].1, r)).length ≤ cap by rw [List.length_set]; exact hcap)
        have HV9 := Lib.hid (show ∀ (GG : List Nat) w2, (∀ x ∈ GG, x < w.heap.size) → Chg (w.heap.size :: GG) _ w2 → RV 3 vTb w2 (some ⟨g2, 0, none⟩) (d.set k (d[k].1, r)) from fun GG w2 hG => hS9.pers (V := vTb) (G := w.heap.size :: GG) (fun _ => sTb_v) (fun b hb h => by
          have hb9 : W.heap.size ≤ b := by
            rcases hF9 b hb with h1 | h1
            · have := HF.out b h1; omega
            · have := HF6.out b h1; omega
          rcases List.mem_cons.1 h with h | h
          · omega
          · have := hG b h; omega) w2)
        clear hS9 hsC hF9
        go_upto_region 12 with fail
        refine wp_name ?_
        intro WX hWX
        rw [← hWX.out] at HB9 HR9 Hc9 HC9 HV9
        clear hWX l6 k6 f6 l5 k5 f5
        obtain ⟨lf1, kf1, ff1⟩ := bx1 HB9.out
        obtain ⟨lf2, kf2, ff2⟩ := bx1 HR9.out
        go_wp2_with fail
        refine bodyPost_ret (v := .agg #[.slice (some ⟨g2, 0, none⟩) d.length cap]) (by simp [results, Try.results141, go_sem, *]) rfl ?_
        show AnyDP w0 g w _ _
        have hC9 := (Chg.refl [w.heap.size] WX).setCell (p := ⟨w.heap.size, 0, none⟩) (.inl (by simp)) (.slice (some ⟨g2, 0, none⟩) d.length cap)
        exact ⟨(some ⟨g2, 0, none⟩), cap, (d.set k (d[k].1, r)), by first | rfl | rw [← HLN.out], fun GG w2 hG hC2 => HV9.out GG w2 hG ((hC9.mono (G := w.heap.size :: GG) (fun x hx => .inl (by rw [List.mem_singleton.1 hx]; simp))).trans hC2 (fun x hx => .inl (List.mem_cons_of_mem _ hx))), HCP.out, HD9.out, Hc9.out.chg hC9 (by simp; omega) (by simp; omega), HC9.out.trans hC9 (fun x hx => .inr (by rw [List.mem_singleton.1 hx]; omega))⟩
    · have q1 : (x == 1) = false := by simp [e1]
      by_cases e2 : x = 2
      · have q2 : (x == 2) = true := by simp [e2]
        have q3 : (x == 3) = false := by simp [e2]
        clear e0 e1 e2
        obtain ⟨G, hSK, hGF, hvF, hel⟩ := HS5.out.kept HN.out
        obtain ⟨g', n', cap', cl, hv, hcl, hcells, hK⟩ := hel k hk
        injection hv with hv hvn hvc
        injection hv with hv
        injection hv with hv
        subst hv hvn hvc
        obtain ⟨_, Fk, hEk, _⟩ := hK w5
        obtain ⟨A9, n9, rfl⟩ := sTb_list hEk
        have i0 := hcells 0 (by simp)
        have i1 := hcells 1 (by simp)
        have i2 := hcells 2 (by simp)
        simp only [Nat.add_zero, List.getElem_cons_zero, List.getElem_cons_succ] at i0 i1 i2
        have HSK := Lib.hid hSK
        have HGF := Lib.hid hGF
        have HVF := Lib.hid hvF
        have HK := Lib.hid hK
        have lg5 : g2 < w5.heap.size := by omega
        clear hSK hGF hvF hel hcells hEk hK hcl
        go_upto_region 9 with fail
        go_region_law (first
          | (refine step_app1 (E := sKept sTb w5 G) (d := d[k]) (by rfl) _ _ _ (by rfl) tTb (by rfl) (by rfl) (by rfl) (by rfl) (fun w => HK.out w) (by rfl) (by simp [Value.oneCell']) (HSK.out.toExt (drew_ext _)) (by omega) (by omega) ?_; intro v7 w7 F7 hS7 hC7 hF7; obtain ⟨A7, c7, rfl, hcap7, _⟩ := hS7.form; have B7 := (HB5.out.drew).chg hC7 (fun h => by have := HF.out b4 (HVF.out b4 h).1; omega); obtain ⟨l7, k7, f7⟩ := bx1 B7))
        all_goals
          have hl8 : (d ++ [d[k]]).length = d.length + 1 := by simp
          (try rw [hl8] at hS7)
          (try rw [hl8] at hcap7)
          have hz7 := hC7.size
          have hCd : Chg [g] w w7 := HC5.out.drew.trans hC7 (fun x hx => .inr (by have := HF.out x (HVF.out x hx).1; omega))
          have hR7 : BoxAt w7 w.heap.size #[.slice none 0 0] := HR5.out.drew.chg hC7 (fun h => by have := HF.out _ (HVF.out _ h).1; omega)
          have hc7 : Cur w0 w7 g := (Hc5.out.toExt (drew_ext _)).chg hC7 (fun h => by have := HF.out _ (HVF.out _ h).1; omega) (fun b hb => by have := HF.out b (HVF.out b hb).1; omega)
          have hsC := (Chg.refl [b4] w7).setCell (p := ⟨b4, 0, none⟩) (.inl (by simp)) (.slice A7 (d.length + 1) c7)
          have HB9 := Lib.hid (B7.set10 (u := .slice A7 (d.length + 1) c7))
          have HR9 := Lib.hid (hR7.chg hsC (by simp; omega))
          have Hc9 := Lib.hid (hc7.chg hsC (by simpa using fun h => n4g h.symm) (by simp; omega))
          have HC9 := Lib.hid (hCd.trans hsC (fun x hx => .inr (by rw [List.mem_singleton.1 hx]; omega)))
          have HD9 : Hid (DrD (d ++ [d[k]])) := Lib.hid ⟨by rw [hl8]; have := HL.out; omega, fun t ht => by
            rcases List.mem_append.1 ht with h | h
            · exact HD.out.t t h
            · rw [List.mem_singleton.1 h]; exact HD.out.t _ (List.getElem_mem hk)⟩
          have HLN := Lib.hid (show d.length + 1 = (d ++ [d[k]]).length by rw [hl8])
          have HCP := Lib.hid (show (d ++ [d[k]]).length ≤ c7 by rw [hl8]; exact hcap7)
          have hCK : Chg (fpOf (.slice (some ⟨g2, 0, none⟩) d.length cap) ++ [b4]) w5 (w7.setCell ⟨b4, 0, none⟩ (.slice A7 (d.length + 1) c7)) := (((Chg.refl _ w5).drew.trans hC7 (fun x hx => .inl hx)).mono (fun x hx => .inl (by simp [hx]))).trans hsC (fun x hx => .inl (by rw [List.mem_singleton.1 hx]; simp))
          have hS9 := hS7.chg hsC (fun b hb h => by
            rw [List.mem_singleton.1 h] at hb
            rcases hF7 _ hb with h | h
            · have := HF.out _ (HVF.out _ h).1; omega
            · have : b4 < w5.heap.size := l5
              rw [show w5.drew.heap.size = w5.heap.size from rfl] at h; omega)
          have HV9 : Hid (∀ (GG : List Nat) w2, (∀ x ∈ GG, x < w.heap.size) → Chg (w.heap.size :: GG) (w7.setCell ⟨b4, 0, none⟩ (.slice A7 (d.length + 1) c7)) w2 → RV 3 vTb w2 A7 (d ++ [d[k]])) := Lib.hid fun GG w2 hG hC2 => by
            have h9 : SV 108 3 (sKept sTb w5 G) w2 _ _ F7 := hS9.chg hC2 (fun b hb h => by
              have hb9 : W.heap.size ≤ b := by
                rcases hF7 b hb with h1 | h1
                · have := HF.out b (HVF.out b h1).1; omega
                · rw [show w5.drew.heap.size = w5.heap.size from rfl] at h1; omega
              rcases List.mem_cons.1 h with h | h
              · omega
              · have := hG b h; omega)
            have hCH : Chg (fpOf (.slice (some ⟨g2, 0, none⟩) d.length cap) ++ [b4] ++ (w.heap.size :: GG)) w5 w2 := (hCK.mono (fun x hx => .inl (List.mem_append_left _ hx))).trans hC2 (fun x hx => .inl (List.mem_append_right _ hx))
            refine h9.toView (sKept_v (fun _ => sTb_v) hCH fun b hb h => ?_)
            have h1 := HF.out b (HGF.out b hb)
            rcases List.mem_append.1 h with h | h
            · rcases List.mem_append.1 h with h | h
              · exact (HVF.out b h).2 hb
              · rw [List.mem_singleton.1 h] at h1; omega
            · rcases List.mem_cons.1 h with h | h
              · omega
              · have := hG b h; omega
          clear hS9 hsC hCK hS7 hC7 hF7 hCd hR7 hc7 B7 i0 i1 i2
          go_upto_region 12 with fail
          refine wp_name ?_
          intro WX hWX
          rw [← hWX.out] at HB9 HR9 Hc9 HC9 HV9
          clear hWX l7 k7 f7 l5 k5 f5
          obtain ⟨lf1, kf1, ff1⟩ := bx1 HB9.out
          obtain ⟨lf2, kf2, ff2⟩ := bx1 HR9.out
          go_wp2_with fail
          refine bodyPost_ret (v := .agg #[.slice A7 (d.length + 1) c7]) (by simp [results, Try.results141, go_sem, *]) rfl ?_
          show AnyDP w0 g w _ _
          have hC9 := (Chg.refl [w.heap.size] WX).setCell (p := ⟨w.heap.size, 0, none⟩) (.inl (by simp)) (.slice A7 (d.length + 1) c7)
          exact ⟨A7, c7, (d ++ [d[k]]), by first | rfl | rw [← HLN.out], fun GG w2 hG hC2 => HV9.out GG w2 hG ((hC9.mono (G := w.heap.size :: GG) (fun x hx => .inl (by rw [List.mem_singleton.1 hx]; simp))).trans hC2 (fun x hx => .inl (List.mem_cons_of_mem _ hx))), HCP.out, HD9.out, Hc9.out.chg hC9 (by simp; omega) (by simp; omega), HC9.out.trans hC9 (fun x hx => .inr (by rw [List.mem_singleton.1 hx]; omega))⟩
      · have q2 : (x == 2) = false := by simp [e2]
        by_cases e3 : x = 3
        · have q3 : (x == 3) = true := by simp [e3]
          clear e0 e1 e2 e3
          have i0 : (0 : Int) ≤ (k : Int) := by omega
          have i1 : (k : Int) ≤ (d.length : Int) := by omega
          have i2 : (k : Int) ≤ (cap : Int) := by omega
          have hB9 := HB5.out.set10 (u := .slice (some ⟨g2, 0, none⟩) k cap)
          have hsC := (Chg.refl [b4] w5).setCell (p := ⟨b4, 0, none⟩) (.inl (by simp)) (.slice (some ⟨g2, 0, none⟩) k cap)
          have HB9 := Lib.hid hB9
          have HR9 := Lib.hid (HR5.out.chg hsC (by simp; omega))
          have Hc9 := Lib.hid (Hc5.out.chg hsC (by simpa using fun h => n4g h.symm) (by simp; omega))
          have HC9 := Lib.hid (HC5.out.trans hsC (fun x hx => .inr (by rw [List.mem_singleton.1 hx]; omega)))
          have HD9 : Hid (DrD (d.take k)) := Lib.hid ⟨by rw [List.length_take]; have := HL.out; omega, fun t ht => HD.out.t t (List.mem_of_mem_take ht)⟩
          have HLN := Lib.hid (show k = (d.take k).length by rw [List.length_take]; omega)
          have HCP := Lib.hid (show (d.take k).length ≤ cap by rw [List.length_take]; omega)
          have hS9 := HS5.out.chg hsC (fun b hb h => by have := HF.out b hb; rw [List.mem_singleton.1 h] at this; omega)
          have HV9 : Hid (∀ (GG : List Nat) w2, (∀ x ∈ GG, x < w.heap.size) → Chg (w.heap.size :: GG) (w5.setCell ⟨b4, 0, none⟩ (.slice (some ⟨g2, 0, none⟩) k cap)) w2 → RV 3 vTb w2 (some ⟨g2, 0, none⟩) (d.take k)) := Lib.hid fun GG w2 hG hC2 => by
            have h := (hS9.pers (V := vTb) (G := w.heap.size :: GG) (fun _ => sTb_v) (fun b hb h => by
              have := HF.out b hb
              rcases List.mem_cons.1 h with h | h
              · omega
              · have := hG b h; omega) w2 hC2).cut (lo := 0) (hi := k) (by omega) (by omega) (A' := some ⟨g2, 0, none⟩) (fun b o e _ => by injection e with e; injection e with e1 e2; subst e1 e2; simp)
            simpa using h
          clear hB9 hsC hS9
          go_upto_region 12 with fail
          refine wp_name ?_
          intro WX hWX
          rw [← hWX.out] at HB9 HR9 Hc9 HC9 HV9
          clear hWX l5 k5 f5
          obtain ⟨lf1, kf1, ff1⟩ := bx1 HB9.out
          obtain ⟨lf2, kf2, ff2⟩ := bx1 HR9.out
          go_wp2_with fail
          refine bodyPost_ret (v := .agg #[.slice (some ⟨g2, 0, none⟩) k cap]) (by simp [results, Try.results141, go_sem, *]) rfl ?_
          show AnyDP w0 g w _ _
          have hC9 := (Chg.refl [w.heap.size] WX).setCell (p := ⟨w.heap.size, 0, none⟩) (.inl (by simp)) (.slice (some ⟨g2, 0, none⟩) k cap)
          exact ⟨(some ⟨g2, 0, none⟩), cap, (d.take k), by first | rfl | rw [← HLN.out], fun GG w2 hG hC2 => HV9.out GG w2 hG ((hC9.mono (G := w.heap.size :: GG) (fun x hx => .inl (by rw [List.mem_singleton.1 hx]; simp))).trans hC2 (fun x hx => .inl (List.mem_cons_of_mem _ hx))), HCP.out, HD9.out, Hc9.out.chg hC9 (by simp; omega) (by simp; omega), HC9.out.trans hC9 (fun x hx => .inr (by rw [List.mem_singleton.1 hx]; omega))⟩
        · have q3 : (x == 3) = false := by simp [e3]
          clear e0 e1 e2 e3
          go_upto_region 12 with fail
          clear l5 k5 f5
          have HB9 := HB5
          have HR9 := HR5
          have HC9 := HC5
          have Hc9 := Hc5
          have HD9 := HD
          have HLN := Lib.hid (show d.length = d.length from rfl)
          have HCP := Lib.hid hcap
          have HV9 : Hid (∀ (GG : List Nat) w2, (∀ x ∈ GG, x < w.heap.size) → Chg (w.heap.size :: GG) w5 w2 → RV 3 vTb w2 (some ⟨g2, 0, none⟩) d) := Lib.hid (fun GG w2 hG => HS5.out.pers (G := w.heap.size :: GG) (fun _ => sTb_v) (fun b hb h => by
            have := HF.out b hb
            rcases List.mem_cons.1 h with h | h
            · omega
            · have := hG b h; omega) w2)
          obtain ⟨lf1, kf1, ff1⟩ := bx1 HB9.out
          obtain ⟨lf2, kf2, ff2⟩ := bx1 HR9.out
          go_wp2_with fail
          refine bodyPost_ret (v := .agg #[.slice (some ⟨g2, 0, none⟩) d.length cap]) (by simp [results, Try.results141, go_sem, *]) rfl ?_
          show AnyDP w0 g w _ _
          have hC9 := (Chg.refl [w.heap.size] w5).setCell (p := ⟨w.heap.size, 0, none⟩) (.inl (by simp)) (.slice (some ⟨g2, 0, none⟩) d.length cap)
          exact ⟨(some ⟨g2, 0, none⟩), cap, d, by first | rfl | rw [← HLN.out], fun GG w2 hG hC2 => HV9.out GG w2 hG ((hC9.mono (G := w.heap.size :: GG) (fun x hx => .inl (by rw [List.mem_singleton.1 hx]; simp))).trans hC2 (fun x hx => .inl (List.mem_cons_of_mem _ hx))), HCP.out, HD9.out, Hc9.out.chg hC9 (by simp; omega) (by simp; omega), HC9.out.trans hC9 (fun x hx => .inr (by rw [List.mem_singleton.1 hx]; omega))⟩
end Go.Proofs.Ytfigcfajkilhiaa
