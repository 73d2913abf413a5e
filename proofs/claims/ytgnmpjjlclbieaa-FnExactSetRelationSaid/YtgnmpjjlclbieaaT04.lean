/- Contracts of functions that the statement reaches. -/
import Derived.Test.YtgnmpjjlclbieaaT02
import Derived.Test.YtgnmpjjlclbieaaT03
namespace Go.Proofs.Ytgnmpjjlclbieaa
open Go.RowKit
structure WDb (d : Dbd) : Prop where
  n : d.length ≤ 1000000000
  nm : ∀ x ∈ d, x.1.size ≤ 1000000000
  rn : ∀ x ∈ d, x.2.2.length ≤ 1000000000
  rl : ∀ x ∈ d, ∀ r ∈ x.2.2, r.length ≤ 1000000000
theorem BDb.w {d : Dbd} (h : BDb d) : WDb d :=
  ⟨Nat.le_trans h.1.1 (by omega), fun x hx => Nat.le_trans (h.each x hx).1 (by omega), fun x hx => Nat.le_trans (h.each x hx).2.2.1 (by omega), fun x hx => (h.each x hx).2.2.big⟩
theorem db_f {d : Dbd} (h : allN (tOk d) d.length 0 = false) : dbB d = false := by unfold dbB; rw [h, Bool.and_false]
theorem tOk_eq {d : Dbd} {k : Nat} (h : k < d.length) : tOk d k = (nameB d[k].1 && (decide (k = 0) || sLt (d.getD (k - 1) zT).1 d[k].1) && rowsB d[k].2.1 d[k].2.2 && decide (1 ≤ d[k].2.1) && decide (d[k].2.2.length ≤ 16)) := by
  unfold tOk
  rw [getDl _ _ h]
set_option maxRecDepth 100000 in
set_option maxHeartbeats 16000000 in
theorem IsValidDatabase_w {A : Option Addr} {c : Nat} {d : Dbd} {w : World} (hd : WDb d) (h1 : RV 3 vTb w A d) :
    Calls Try.prog 21 #[.agg #[.slice A d.length c]] w fun e w' => e = .returned (.bool (dbB d)) ∧ ∃ y, w' = ext w y := by
  have HD := Lib.hid hd
  have hn := hd.n
  clear hd
  go_enter Try.func21, Try.ntmps21
  go_upto_region 1 with fail
  refine wp_name ?_
  intro W hW
  have xW : ∃ y, W = ext w y := by rw [hW.out]; exact (by refine x'z ?_; repeat (with_reducible (first | exact x'a _ _ | exact x'b _ | exact x'c (by assumption) | refine x'd ?_ (by assumption) | refine x'e ?_ _ | refine x'f ?_ _ | refine x'g ?_ | refine x'h ?_ ?_ _ | refine x'i ?_ _ | refine x'j ?_ | refine x'k ?_ _ | refine x'l ?_ _ _ | refine x'm ?_ | assumption | (refine x'n ?_; omega) | omega)))
  have PW : BoxAt W w.heap.size #[.slice A d.length c] := by rw [hW.out]; exact (by repeat (with_reducible (first | assumption | exact BoxAt.new _ _ _ | apply BoxAt.set10 | apply BoxAt.set2 | refine BoxAt.set2' ?_ (by omega) | apply BoxAt.setP0 | apply BoxAt.setP1 | refine BoxAt.setO ?_ (by omega) | refine BoxAt.alloc ?_ _ | refine BoxAt.drew ?_ | refine BoxAt.toExt ?_ (by assumption))))
  obtain ⟨lp, p0, fp⟩ := bx1 PW
  clear hW
  by_cases h6 : d.length ≤ 6
  · have HE2 := Lib.hid (show dbB d = allN (tOk d) d.length 0 by unfold dbB; rw [decide_eq_true h6, Bool.true_and])
    have h7 : ¬ 6 < d.length := by omega
    go_wp2_with fail
    clear lp p0 fp
    go_loopw [12] (fun i wr => ∃ k : Nat, i = .int .i64 k ∧ k ≤ d.length ∧ (∃ y, wr = ext W y) ∧ Hid (allN (tOk d) (d.length - k) k = allN (tOk d) d.length 0)) (fun i _ => d.length - (intOf i).toNat)
    case atStart => exact ⟨0, rfl, by omega, refl_ext W, Lib.hid rfl⟩
    case round =>
      obtain ⟨k, rfl, hk, hy, Hj⟩ := hrel
      have hyw := trans_ext xW hy
      obtain ⟨l1, a1, f1⟩ := bx1 (PW.toExt hy)
      by_cases hlt : k < d.length
      · obtain ⟨b, o, A1, c1, rfl, hb, hc, hc1, hc2, hvx⟩ := (h1.toExt hyw).atT hlt
        have lx1 := HD.out.nm _ (List.getElem_mem hlt)
        have lx2 := HD.out.rn _ (List.getElem_mem hlt)
        have HXL := Lib.hid (HD.out.rl _ (List.getElem_mem hlt))
        have e := Hj.out
        rw [allN_step hlt, tOk_eq hlt] at e
        have hvr0 := (vII_get (vRel_get hvx).2).2
        obtain ⟨x, hx⟩ : ∃ x, d[k] = x := ⟨_, rfl⟩
        rw [hx] at e hc hc1 hc2 lx1 lx2 HXL hvr0
        obtain ⟨t3, ht3⟩ : ∃ t, nameB x.1 = t := ⟨_, rfl⟩
        obtain ⟨t4, ht4⟩ : ∃ t, rowsB x.2.1 x.2.2 = t := ⟨_, rfl⟩
        rw [ht3, ht4] at e
        have N3 := Lib.hid ht3
        have N4 := Lib.hid ht4
        have HPV : Hid (∀ _ : 0 < k, ∃ pn, (d.getD (k - 1) zT).1 = pn ∧ wr.cell? ⟨b, o + (k - 1) * 3, none⟩ = some (.string pn)) := Lib.hid (fun h0 => by
          obtain ⟨b', o', _, _, e1, _, h2, _⟩ := (h1.toExt hyw).atT (k := k - 1) (by omega)
          injection e1 with e1
          injection e1 with e1 e2 _
          subst e1 e2
          exact ⟨_, by rw [getDl _ _ (show k - 1 < d.length by omega)], h2⟩)
        clear hx hvx ht3 ht4
        go_upto_region 6 with fail
        refine wp_name ?_
        intro W2 hW2
        have xW2 : ∃ y, W2 = ext wr y := by rw [hW2.out]; exact (by refine x'z ?_; repeat (with_reducible (first | exact x'a _ _ | exact x'b _ | exact x'c (by assumption) | refine x'd ?_ (by assumption) | refine x'e ?_ _ | refine x'f ?_ _ | refine x'g ?_ | refine x'h ?_ ?_ _ | refine x'i ?_ _ | refine x'j ?_ | refine x'k ?_ _ | refine x'l ?_ _ _ | refine x'm ?_ | assumption | (refine x'n ?_; omega) | omega)))
        have T2 : BoxAt W2 wr.heap.size #[.string x.1, .int .i64 x.2.1, .slice A1 x.2.2.length c1] := by rw [hW2.out]; exact (by repeat (with_reducible (first | assumption | exact BoxAt.new _ _ _ | apply BoxAt.set3 | refine BoxAt.set3' ?_ (by omega) | apply BoxAt.set30 | apply BoxAt.set31 | apply BoxAt.set32 | apply BoxAt.set2 | refine BoxAt.set2' ?_ (by omega) | apply BoxAt.setP0 | apply BoxAt.setP1 | refine BoxAt.setO ?_ (by omega) | refine BoxAt.alloc ?_ _ | refine BoxAt.drew ?_ | refine BoxAt.toExt ?_ (by assumption))))
        have hy2 := trans_ext hy xW2
        have hw2 := trans_ext hyw xW2
        have hvr := hvr0.toExt xW2
        obtain ⟨l2, a2, a3, a4, f2⟩ := box3 T2
        obtain ⟨lp2, p2, fp2⟩ := bx1 (PW.toExt hy2)
        have hb2 := ltW xW2 hb
        clear hW2 hc hc1 hc2 l1 a1 f1
        cases t3 with
        | false =>
          have HF := Lib.hid (db_f (d := d) (by rw [← e]; simp))
          clear e
          refine wp_region_ext (by kernel_rfl) (by kernel_rfl) ?_
          repeat (go_big_quiet_step (first
            | (go_at_call 36; exact quietSb (IsValidName_any lx1) N3.out)
            | (go_at_call 37; exact quietEb (IsValidRelation_w lx2 HXL.out hvr.ext) N4.out)))
          refine wpQuiet_nil ?_
          rintro _ ⟨zz, rfl⟩
          go_wp2
          go_ret
          exact ⟨by rw [HF.out]; rfl, trans_ext hw2 ⟨_, rfl⟩⟩
        | true =>
          by_cases hk0 : 0 < k
          · obtain ⟨pn, hpn, hcp⟩ := HPV.out hk0
            have hcp2 := cellW xW2 hb hcp
            rw [hpn, decide_eq_false (show ¬ k = 0 by omega)] at e
            unfold sLt at e
            have k1 : (0 : Int) < (k : Int) := by omega
            have s0 : (0 : Int) ≤ (k : Int) - 1 := by omega
            have s1 : IntKind.i64.wrap ((k : Int) - 1) = (k : Int) - 1 := IntWalk.i64_in _ (by omega)
            have s2 : ((k : Int) - 1).toNat = k - 1 := by omega
            have s3 : (k : Int) - 1 < (d.length : Int) := by omega
            obtain ⟨t5, ht5⟩ : ∃ t, Op.bytesLess pn.toList x.1.toList = t := ⟨_, rfl⟩
            rw [ht5] at e
            clear hpn hcp
            cases t5 with
            | false =>
              have HF := Lib.hid (db_f (d := d) (by rw [← e]; simp))
              clear e
              refine wp_region_ext (by kernel_rfl) (by kernel_rfl) ?_
              repeat (go_big_quiet_step (first
                | (go_at_call 36; exact quietSb (IsValidName_any lx1) N3.out)
                | (go_at_call 37; exact quietEb (IsValidRelation_w lx2 HXL.out hvr.ext) N4.out)))
              refine wpQuiet_nil ?_
              rintro _ ⟨zz, rfl⟩
              go_wp2
              go_ret
              exact ⟨by rw [HF.out]; rfl, trans_ext hw2 ⟨_, rfl⟩⟩
            | true =>
              cases t4 with
              | false =>
                have HF := Lib.hid (db_f (d := d) (by rw [← e]; simp))
                clear e
                refine wp_region_ext (by kernel_rfl) (by kernel_rfl) ?_
                repeat (go_big_quiet_step (first
                  | (go_at_call 36; exact quietSb (IsValidName_any lx1) N3.out)
                  | (go_at_call 37; exact quietEb (IsValidRelation_w lx2 HXL.out hvr.ext) N4.out)))
                refine wpQuiet_nil ?_
                rintro _ ⟨zz, rfl⟩
                go_wp2
                go_ret
                exact ⟨by rw [HF.out]; rfl, trans_ext hw2 ⟨_, rfl⟩⟩
              | true =>
                by_cases ha : 1 ≤ x.2.1
                · rw [decide_eq_true ha] at e
                  have ha2 : ¬ x.2.1 < 1 := by omega
                  by_cases h16 : x.2.2.length ≤ 16
                  · rw [decide_eq_true h16] at e
                    have h17 : ¬ (16 : Int) < (x.2.2.length : Int) := by omega
                    have HK := Lib.hid (show allN (tOk d) (d.length - (k + 1)) (k + 1) = allN (tOk d) d.length 0 by rw [← e]; simp)
                    clear e
                    refine wp_region_ext (by kernel_rfl) (by kernel_rfl) ?_
                    repeat (go_big_quiet_step (first
                      | (go_at_call 36; exact quietSb (IsValidName_any lx1) N3.out)
                      | (go_at_call 37; exact quietEb (IsValidRelation_w lx2 HXL.out hvr.ext) N4.out)))
                    refine wpQuiet_nil ?_
                    rintro _ ⟨zz, rfl⟩
                    go_wp2
                    exact ⟨⟨k + 1, by go_num, by omega, trans_ext hy2 ⟨_, rfl⟩, HK⟩, by simp [intOf]; omega⟩
                  · rw [decide_eq_false h16] at e
                    have h17 : (16 : Int) < (x.2.2.length : Int) := by omega
                    have HF := Lib.hid (db_f (d := d) (by rw [← e]; simp))
                    clear e
                    refine wp_region_ext (by kernel_rfl) (by kernel_rfl) ?_
                    repeat (go_big_quiet_step (first
                      | (go_at_call 36; exact quietSb (IsValidName_any lx1) N3.out)
                      | (go_at_call 37; exact quietEb (IsValidRelation_w lx2 HXL.out hvr.ext) N4.out)))
                    refine wpQuiet_nil ?_
                    rintro _ ⟨zz, rfl⟩
                    go_wp2
                    go_ret
                    exact ⟨by rw [HF.out]; rfl, trans_ext hw2 ⟨_, rfl⟩⟩
                · rw [decide_eq_false ha] at e
                  have ha2 : x.2.1 < 1 := by omega
                  by_cases h16 : x.2.2.length ≤ 16
                  · have h17 : ¬ (16 : Int) < (x.2.2.length : Int) := by omega
                    have HF := Lib.hid (db_f (d := d) (by rw [← e]; simp))
                    clear e
                    refine wp_region_ext (by kernel_rfl) (by kernel_rfl) ?_
                    repeat (go_big_quiet_step (first
                      | (go_at_call 36; exact quietSb (IsValidName_any lx1) N3.out)
                      | (go_at_call 37; exact quietEb (IsValidRelation_w lx2 HXL.out hvr.ext) N4.out)))
                    refine wpQuiet_nil ?_
                    rintro _ ⟨zz, rfl⟩
                    go_wp2
                    go_ret
                    exact ⟨by rw [HF.out]; rfl, trans_ext hw2 ⟨_, rfl⟩⟩
                  · have h17 : (16 : Int) < (x.2.2.length : Int) := by omega
                    have HF := Lib.hid (db_f (d := d) (by rw [← e]; simp))
                    clear e
                    refine wp_region_ext (by kernel_rfl) (by kernel_rfl) ?_
                    repeat (go_big_quiet_step (first
                      | (go_at_call 36; exact quietSb (IsValidName_any lx1) N3.out)
                      | (go_at_call 37; exact quietEb (IsValidRelation_w lx2 HXL.out hvr.ext) N4.out)))
                    refine wpQuiet_nil ?_
                    rintro _ ⟨zz, rfl⟩
                    go_wp2
                    go_ret
                    exact ⟨by rw [HF.out]; rfl, trans_ext hw2 ⟨_, rfl⟩⟩
          · have k1 : ¬ (0 : Int) < (k : Int) := by omega
            rw [decide_eq_true (show k = 0 by omega)] at e
            cases t4 with
            | false =>
              have HF := Lib.hid (db_f (d := d) (by rw [← e]; simp))
              clear e
              refine wp_region_ext (by kernel_rfl) (by kernel_rfl) ?_
              repeat (go_big_quiet_step (first
                | (go_at_call 36; exact quietSb (IsValidName_any lx1) N3.out)
                | (go_at_call 37; exact quietEb (IsValidRelation_w lx2 HXL.out hvr.ext) N4.out)))
              refine wpQuiet_nil ?_
              rintro _ ⟨zz, rfl⟩
              go_wp2
              go_ret
              exact ⟨by rw [HF.out]; rfl, trans_ext hw2 ⟨_, rfl⟩⟩
            | true =>
              by_cases ha : 1 ≤ x.2.1
              · rw [decide_eq_true ha] at e
                have ha2 : ¬ x.2.1 < 1 := by omega
                by_cases h16 : x.2.2.length ≤ 16
                · rw [decide_eq_true h16] at e
                  have h17 : ¬ (16 : Int) < (x.2.2.length : Int) := by omega
                  have HK := Lib.hid (show allN (tOk d) (d.length - (k + 1)) (k + 1) = allN (tOk d) d.length 0 by rw [← e]; simp)
                  clear e
                  refine wp_region_ext (by kernel_rfl) (by kernel_rfl) ?_
                  repeat (go_big_quiet_step (first
                    | (go_at_call 36; exact quietSb (IsValidName_any lx1) N3.out)
                    | (go_at_call 37; exact quietEb (IsValidRelation_w lx2 HXL.out hvr.ext) N4.out)))
                  refine wpQuiet_nil ?_
                  rintro _ ⟨zz, rfl⟩
                  go_wp2
                  exact ⟨⟨k + 1, by go_num, by omega, trans_ext hy2 ⟨_, rfl⟩, HK⟩, by simp [intOf]; omega⟩
                · rw [decide_eq_false h16] at e
                  have h17 : (16 : Int) < (x.2.2.length : Int) := by omega
                  have HF := Lib.hid (db_f (d := d) (by rw [← e]; simp))
                  clear e
                  refine wp_region_ext (by kernel_rfl) (by kernel_rfl) ?_
                  repeat (go_big_quiet_step (first
                    | (go_at_call 36; exact quietSb (IsValidName_any lx1) N3.out)
                    | (go_at_call 37; exact quietEb (IsValidRelation_w lx2 HXL.out hvr.ext) N4.out)))
                  refine wpQuiet_nil ?_
                  rintro _ ⟨zz, rfl⟩
                  go_wp2
                  go_ret
                  exact ⟨by rw [HF.out]; rfl, trans_ext hw2 ⟨_, rfl⟩⟩
              · rw [decide_eq_false ha] at e
                have ha2 : x.2.1 < 1 := by omega
                by_cases h16 : x.2.2.length ≤ 16
                · have h17 : ¬ (16 : Int) < (x.2.2.length : Int) := by omega
                  have HF := Lib.hid (db_f (d := d) (by rw [← e]; simp))
                  clear e
                  refine wp_region_ext (by kernel_rfl) (by kernel_rfl) ?_
                  repeat (go_big_quiet_step (first
                    | (go_at_call 36; exact quietSb (IsValidName_any lx1) N3.out)
                    | (go_at_call 37; exact quietEb (IsValidRelation_w lx2 HXL.out hvr.ext) N4.out)))
                  refine wpQuiet_nil ?_
                  rintro _ ⟨zz, rfl⟩
                  go_wp2
                  go_ret
                  exact ⟨by rw [HF.out]; rfl, trans_ext hw2 ⟨_, rfl⟩⟩
                · have h17 : (16 : Int) < (x.2.2.length : Int) := by omega
                  have HF := Lib.hid (db_f (d := d) (by rw [← e]; simp))
                  clear e
                  refine wp_region_ext (by kernel_rfl) (by kernel_rfl) ?_
                  repeat (go_big_quiet_step (first
                    | (go_at_call 36; exact quietSb (IsValidName_any lx1) N3.out)
                    | (go_at_call 37; exact quietEb (IsValidRelation_w lx2 HXL.out hvr.ext) N4.out)))
                  refine wpQuiet_nil ?_
                  rintro _ ⟨zz, rfl⟩
                  go_wp2
                  go_ret
                  exact ⟨by rw [HF.out]; rfl, trans_ext hw2 ⟨_, rfl⟩⟩
      · have e := Hj.out
        rw [allN_end hlt] at e
        have HK := Lib.hid (show dbB d = true by rw [HE2.out, ← e])
        clear e Hj
        go_wp2
        go_ret
        exact ⟨by rw [HK.out]; rfl, hyw⟩
  · have HE2 := Lib.hid (show dbB d = false by unfold dbB; rw [decide_eq_false h6, Bool.false_and])
    have h7 : 6 < d.length := by omega
    go_wp2_with fail
    go_ret
    exact ⟨by rw [HE2.out]; rfl, xW⟩
set_option maxRecDepth 100000 in
set_option maxHeartbeats 16000000 in
theorem specIsValidDatabase_w {A : Option Addr} {c : Nat} {d : Dbd} {w : World} (hd : WDb d) (h1 : RV 3 vTb w A d) :
    Calls Try.prog 17 #[.agg #[.slice A d.length c]] w fun e w' => e = .returned (.bool (dbB d)) ∧ ∃ y, w' = ext w y := by
  have HD := Lib.hid hd
  have hn := hd.n
  clear hd
  go_enter Try.func17, Try.ntmps17
  go_upto_region 1 with fail
  refine wp_name ?_
  intro W hW
  have xW : ∃ y, W = ext w y := by rw [hW.out]; exact (by refine x'z ?_; repeat (with_reducible (first | exact x'a _ _ | exact x'b _ | exact x'c (by assumption) | refine x'd ?_ (by assumption) | refine x'e ?_ _ | refine x'f ?_ _ | refine x'g ?_ | refine x'h ?_ ?_ _ | refine x'i ?_ _ | refine x'j ?_ | refine x'k ?_ _ | refine x'l ?_ _ _ | refine x'm ?_ | assumption | (refine x'n ?_; omega) | omega)))
  have PW : BoxAt W w.heap.size #[.slice A d.length c] := by rw [hW.out]; exact (by repeat (with_reducible (first | assumption | exact BoxAt.new _ _ _ | apply BoxAt.set10 | apply BoxAt.set2 | refine BoxAt.set2' ?_ (by omega) | apply BoxAt.setP0 | apply BoxAt.setP1 | refine BoxAt.setO ?_ (by omega) | refine BoxAt.alloc ?_ _ | refine BoxAt.drew ?_ | refine BoxAt.toExt ?_ (by assumption))))
  clear hW
  go_wp2_with fail
  go_loopw [3] (fun i wr => ∃ k : Nat, i = .int .i64 k ∧ k ≤ d.length ∧ (∃ y, wr = ext W y) ∧ Hid (allN (tOk d) (d.length - k) k = allN (tOk d) d.length 0)) (fun i _ => d.length - (intOf i).toNat)
  case atStart => exact ⟨0, rfl, by omega, refl_ext W, Lib.hid rfl⟩
  case round =>
    obtain ⟨k, rfl, hk, hy, Hj⟩ := hrel
    have hyw := trans_ext xW hy
    obtain ⟨l1, a1, f1⟩ := bx1 (PW.toExt hy)
    by_cases hlt : k < d.length
    · obtain ⟨b, o, A1, c1, rfl, hb, hc, hc1, hc2, hvx⟩ := (h1.toExt hyw).atT hlt
      have lx1 := HD.out.nm _ (List.getElem_mem hlt)
      have lx2 := HD.out.rn _ (List.getElem_mem hlt)
      have HXL := Lib.hid (HD.out.rl _ (List.getElem_mem hlt))
      have e := Hj.out
      rw [allN_step hlt, tOk_eq hlt] at e
      have hvr0 := (vII_get (vRel_get hvx).2).2
      obtain ⟨x, hx⟩ : ∃ x, d[k] = x := ⟨_, rfl⟩
      rw [hx] at e hc hc1 hc2 lx1 lx2 HXL hvr0
      obtain ⟨t3, ht3⟩ : ∃ t, nameB x.1 = t := ⟨_, rfl⟩
      obtain ⟨t4, ht4⟩ : ∃ t, rowsB x.2.1 x.2.2 = t := ⟨_, rfl⟩
      rw [ht3, ht4] at e
      have N3 := Lib.hid ht3
      have N4 := Lib.hid ht4
      have HPV : Hid (∀ _ : 0 < k, ∃ pn, (d.getD (k - 1) zT).1 = pn ∧ wr.cell? ⟨b, o + (k - 1) * 3, none⟩ = some (.string pn)) := Lib.hid (fun h0 => by
        obtain ⟨b', o', _, _, e1, _, h2, _⟩ := (h1.toExt hyw).atT (k := k - 1) (by omega)
        injection e1 with e1
        injection e1 with e1 e2 _
        subst e1 e2
        exact ⟨_, by rw [getDl _ _ (show k - 1 < d.length by omega)], h2⟩)
      clear hx hvx ht3 ht4
      go_upto_region 5 with fail
      refine wp_name ?_
      intro W2 hW2
      have xW2 : ∃ y, W2 = ext wr y := by rw [hW2.out]; exact (by refine x'z ?_; repeat (with_reducible (first | exact x'a _ _ | exact x'b _ | exact x'c (by assumption) | refine x'd ?_ (by assumption) | refine x'e ?_ _ | refine x'f ?_ _ | refine x'g ?_ | refine x'h ?_ ?_ _ | refine x'i ?_ _ | refine x'j ?_ | refine x'k ?_ _ | refine x'l ?_ _ _ | refine x'm ?_ | assumption | (refine x'n ?_; omega) | omega)))
      have T2 : BoxAt W2 wr.heap.size #[.string x.1, .int .i64 x.2.1, .slice A1 x.2.2.length c1] := by rw [hW2.out]; exact (by repeat (with_reducible (first | assumption | exact BoxAt.new _ _ _ | apply BoxAt.set3 | refine BoxAt.set3' ?_ (by omega) | apply BoxAt.set30 | apply BoxAt.set31 | apply BoxAt.set32 | apply BoxAt.set2 | refine BoxAt.set2' ?_ (by omega) | apply BoxAt.setP0 | apply BoxAt.setP1 | refine BoxAt.setO ?_ (by omega) | refine BoxAt.alloc ?_ _ | refine BoxAt.drew ?_ | refine BoxAt.toExt ?_ (by assumption))))
      have hy2 := trans_ext hy xW2
      have hw2 := trans_ext hyw xW2
      have hvr := hvr0.toExt xW2
      obtain ⟨l2, a2, a3, a4, f2⟩ := box3 T2
      obtain ⟨lp2, p2, fp2⟩ := bx1 (PW.toExt hy2)
      have hb2 := ltW xW2 hb
      clear hW2 hc hc1 hc2 l1 a1 f1
      cases t3 with
      | false =>
        have HF := Lib.hid (db_f (d := d) (by rw [← e]; simp))
        clear e
        refine wp_region_ext (by kernel_rfl) (by kernel_rfl) ?_
        repeat (go_big_quiet_step (first
          | (go_at_call 31; exact quietSb (specIsValidName_any lx1) N3.out)
          | (go_at_call 32; exact quietEb (specIsValidRelation_w lx2 HXL.out hvr.ext) N4.out)))
        refine wpQuiet_nil ?_
        rintro _ ⟨zz, rfl⟩
        go_wp2
        go_ret
        exact ⟨by rw [HF.out]; rfl, trans_ext hw2 ⟨_, rfl⟩⟩
      | true =>
        by_cases hk0 : 0 < k
        · obtain ⟨pn, hpn, hcp⟩ := HPV.out hk0
          have hcp2 := cellW xW2 hb hcp
          rw [hpn, decide_eq_false (show ¬ k = 0 by omega)] at e
          unfold sLt at e
          have k1 : (0 : Int) < (k : Int) := by omega
          have s0 : (0 : Int) ≤ (k : Int) - 1 := by omega
          have s1 : IntKind.i64.wrap ((k : Int) - 1) = (k : Int) - 1 := IntWalk.i64_in _ (by omega)
          have s2 : ((k : Int) - 1).toNat = k - 1 := by omega
          have s3 : (k : Int) - 1 < (d.length : Int) := by omega
          obtain ⟨t5, ht5⟩ : ∃ t, Op.bytesLess pn.toList x.1.toList = t := ⟨_, rfl⟩
          rw [ht5] at e
          clear hpn hcp
          cases t5 with
          | false =>
            have HF := Lib.hid (db_f (d := d) (by rw [← e]; simp))
            clear e
            refine wp_region_ext (by kernel_rfl) (by kernel_rfl) ?_
            repeat (go_big_quiet_step (first
              | (go_at_call 31; exact quietSb (specIsValidName_any lx1) N3.out)
              | (go_at_call 32; exact quietEb (specIsValidRelation_w lx2 HXL.out hvr.ext) N4.out)))
            refine wpQuiet_nil ?_
            rintro _ ⟨zz, rfl⟩
            go_wp2
            go_ret
            exact ⟨by rw [HF.out]; rfl, trans_ext hw2 ⟨_, rfl⟩⟩
          | true =>
            cases t4 with
            | false =>
              have HF := Lib.hid (db_f (d := d) (by rw [← e]; simp))
              clear e
              refine wp_region_ext (by kernel_rfl) (by kernel_rfl) ?_
              repeat (go_big_quiet_step (first
                | (go_at_call 31; exact quietSb (specIsValidName_any lx1) N3.out)
                | (go_at_call 32; exact quietEb (specIsValidRelation_w lx2 HXL.out hvr.ext) N4.out)))
              refine wpQuiet_nil ?_
              rintro _ ⟨zz, rfl⟩
              go_wp2
              go_ret
              exact ⟨by rw [HF.out]; rfl, trans_ext hw2 ⟨_, rfl⟩⟩
            | true =>
              by_cases ha : 1 ≤ x.2.1
              · rw [decide_eq_true ha] at e
                have ha2 : ¬ x.2.1 < 1 := by omega
                by_cases h16 : x.2.2.length ≤ 16
                · rw [decide_eq_true h16] at e
                  have h17 : ¬ (16 : Int) < (x.2.2.length : Int) := by omega
                  have HK := Lib.hid (show allN (tOk d) (d.length - (k + 1)) (k + 1) = allN (tOk d) d.length 0 by rw [← e]; simp)
                  clear e
                  refine wp_region_ext (by kernel_rfl) (by kernel_rfl) ?_
                  repeat (go_big_quiet_step (first
                    | (go_at_call 31; exact quietSb (specIsValidName_any lx1) N3.out)
                    | (go_at_call 32; exact quietEb (specIsValidRelation_w lx2 HXL.out hvr.ext) N4.out)))
                  refine wpQuiet_nil ?_
                  rintro _ ⟨zz, rfl⟩
                  go_wp2
                  exact ⟨⟨k + 1, by go_num, by omega, trans_ext hy2 ⟨_, rfl⟩, HK⟩, by simp [intOf]; omega⟩
                · rw [decide_eq_false h16] at e
                  have h17 : (16 : Int) < (x.2.2.length : Int) := by omega
                  have HF := Lib.hid (db_f (d := d) (by rw [← e]; simp))
                  clear e
                  refine wp_region_ext (by kernel_rfl) (by kernel_rfl) ?_
                  repeat (go_big_quiet_step (first
                    | (go_at_call 31; exact quietSb (specIsValidName_any lx1) N3.out)
                    | (go_at_call 32; exact quietEb (specIsValidRelation_w lx2 HXL.out hvr.ext) N4.out)))
                  refine wpQuiet_nil ?_
                  rintro _ ⟨zz, rfl⟩
                  go_wp2
                  go_ret
                  exact ⟨by rw [HF.out]; rfl, trans_ext hw2 ⟨_, rfl⟩⟩
              · rw [decide_eq_false ha] at e
                have ha2 : x.2.1 < 1 := by omega
                by_cases h16 : x.2.2.length ≤ 16
                · have h17 : ¬ (16 : Int) < (x.2.2.length : Int) := by omega
                  have HF := Lib.hid (db_f (d := d) (by rw [← e]; simp))
                  clear e
                  refine wp_region_ext (by kernel_rfl) (by kernel_rfl) ?_
                  repeat (go_big_quiet_step (first
                    | (go_at_call 31; exact quietSb (specIsValidName_any lx1) N3.out)
                    | (go_at_call 32; exact quietEb (specIsValidRelation_w lx2 HXL.out hvr.ext) N4.out)))
                  refine wpQuiet_nil ?_
                  rintro _ ⟨zz, rfl⟩
                  go_wp2
                  go_ret
                  exact ⟨by rw [HF.out]; rfl, trans_ext hw2 ⟨_, rfl⟩⟩
                · have h17 : (16 : Int) < (x.2.2.length : Int) := by omega
                  have HF := Lib.hid (db_f (d := d) (by rw [← e]; simp))
                  clear e
                  refine wp_region_ext (by kernel_rfl) (by kernel_rfl) ?_
                  repeat (go_big_quiet_step (first
                    | (go_at_call 31; exact quietSb (specIsValidName_any lx1) N3.out)
                    | (go_at_call 32; exact quietEb (specIsValidRelation_w lx2 HXL.out hvr.ext) N4.out)))
                  refine wpQuiet_nil ?_
                  rintro _ ⟨zz, rfl⟩
                  go_wp2
                  go_ret
                  exact ⟨by rw [HF.out]; rfl, trans_ext hw2 ⟨_, rfl⟩⟩
        · have k1 : ¬ (0 : Int) < (k : Int) := by omega
          rw [decide_eq_true (show k = 0 by omega)] at e
          cases t4 with
          | false =>
            have HF := Lib.hid (db_f (d := d) (by rw [← e]; simp))
            clear e
            refine wp_region_ext (by kernel_rfl) (by kernel_rfl) ?_
            repeat (go_big_quiet_step (first
              | (go_at_call 31; exact quietSb (specIsValidName_any lx1) N3.out)
              | (go_at_call 32; exact quietEb (specIsValidRelation_w lx2 HXL.out hvr.ext) N4.out)))
            refine wpQuiet_nil ?_
            rintro _ ⟨zz, rfl⟩
            go_wp2
            go_ret
            exact ⟨by rw [HF.out]; rfl, trans_ext hw2 ⟨_, rfl⟩⟩
          | true =>
            by_cases ha : 1 ≤ x.2.1
            · rw [decide_eq_true ha] at e
              have ha2 : ¬ x.2.1 < 1 := by omega
              by_cases h16 : x.2.2.length ≤ 16
              · rw [decide_eq_true h16] at e
                have h17 : ¬ (16 : Int) < (x.2.2.length : Int) := by omega
                have HK := Lib.hid (show allN (tOk d) (d.length - (k + 1)) (k + 1) = allN (tOk d) d.length 0 by rw [← e]; simp)
                clear e
                refine wp_region_ext (by kernel_rfl) (by kernel_rfl) ?_
                repeat (go_big_quiet_step (first
                  | (go_at_call 31; exact quietSb (specIsValidName_any lx1) N3.out)
                  | (go_at_call 32; exact quietEb (specIsValidRelation_w lx2 HXL.out hvr.ext) N4.out)))
                refine wpQuiet_nil ?_
                rintro _ ⟨zz, rfl⟩
                go_wp2
                exact ⟨⟨k + 1, by go_num, by omega, trans_ext hy2 ⟨_, rfl⟩, HK⟩, by simp [intOf]; omega⟩
              · rw [decide_eq_false h16] at e
                have h17 : (16 : Int) < (x.2.2.length : Int) := by omega
                have HF := Lib.hid (db_f (d := d) (by rw [← e]; simp))
                clear e
                refine wp_region_ext (by kernel_rfl) (by kernel_rfl) ?_
                repeat (go_big_quiet_step (first
                  | (go_at_call 31; exact quietSb (specIsValidName_any lx1) N3.out)
                  | (go_at_call 32; exact quietEb (specIsValidRelation_w lx2 HXL.out hvr.ext) N4.out)))
                refine wpQuiet_nil ?_
                rintro _ ⟨zz, rfl⟩
                go_wp2
                go_ret
                exact ⟨by rw [HF.out]; rfl, trans_ext hw2 ⟨_, rfl⟩⟩
            · rw [decide_eq_false ha] at e
              have ha2 : x.2.1 < 1 := by omega
              by_cases h16 : x.2.2.length ≤ 16
              · have h17 : ¬ (16 : Int) < (x.2.2.length : Int) := by omega
                have HF := Lib.hid (db_f (d := d) (by rw [← e]; simp))
                clear e
                refine wp_region_ext (by kernel_rfl) (by kernel_rfl) ?_
                repeat (go_big_quiet_step (first
                  | (go_at_call 31; exact quietSb (specIsValidName_any lx1) N3.out)
                  | (go_at_call 32; exact quietEb (specIsValidRelation_w lx2 HXL.out hvr.ext) N4.out)))
                refine wpQuiet_nil ?_
                rintro _ ⟨zz, rfl⟩
                go_wp2
                go_ret
                exact ⟨by rw [HF.out]; rfl, trans_ext hw2 ⟨_, rfl⟩⟩
              · have h17 : (16 : Int) < (x.2.2.length : Int) := by omega
                have HF := Lib.hid (db_f (d := d) (by rw [← e]; simp))
                clear e
                refine wp_region_ext (by kernel_rfl) (by kernel_rfl) ?_
                repeat (go_big_quiet_step (first
                  | (go_at_call 31; exact quietSb (specIsValidName_any lx1) N3.out)
                  | (go_at_call 32; exact quietEb (specIsValidRelation_w lx2 HXL.out hvr.ext) N4.out)))
                refine wpQuiet_nil ?_
                rintro _ ⟨zz, rfl⟩
                go_wp2
                go_ret
                exact ⟨by rw [HF.out]; rfl, trans_ext hw2 ⟨_, rfl⟩⟩
    · have e := Hj.out
      rw [allN_end hlt] at e
      by_cases h6 : d.length ≤ 6
      · have HK := Lib.hid (show dbB d = true by unfold dbB; rw [decide_eq_true h6, ← e]; rfl)
        clear e Hj
        go_wp2
        go_ret
        exact ⟨by rw [HK.out]; show Ending.returned (.bool (decide ((d.length : Int) ≤ 6))) = _; rw [decide_eq_true (by omega)], hyw⟩
      · have HK := Lib.hid (show dbB d = false by unfold dbB; rw [decide_eq_false h6, Bool.false_and])
        clear e Hj
        go_wp2
        go_ret
        exact ⟨by rw [HK.out]; show Ending.returned (.bool (decide ((d.length : Int) ≤ 6))) = _; rw [decide_eq_false (by omega)], hyw⟩
end Go.Proofs.Ytgnmpjjlclbieaa
