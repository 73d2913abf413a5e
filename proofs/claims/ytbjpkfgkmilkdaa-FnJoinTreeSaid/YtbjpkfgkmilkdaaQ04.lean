/- Contracts of functions that the statements reach, joined from several texts: EqQ, Carry, DrawQ3, Forest, Gyo, JTree, Ear, SEar, Reduce, SRun, Remov, GyoTree, Acyc, BJTree, VJT. -/
import Derived.Test.YtbjpkfgkmilkdaaQ02
import Derived.Test.YtbjpkfgkmilkdaaQ01
import Derived.Test.YtbjpkfgkmilkdaaQ03
import Derived.Deep.DrawnRows
/- Queries compared; the program's way and the reference's. -/
namespace Go.Proofs.Ytbjpkfgkmilkdaa
open Go.RowKit

theorem int_bnef {a b : Nat} (h : ¬ a = b) : ((a : Int) != (b : Int)) = true := by simp; omega
theorem int_bnet {a b : Nat} (h : a = b) : ((a : Int) != (b : Int)) = false := by simp; omega
theorem quietEi {P : Program} {f : FuncId} {args : Array Value} {w y : World} {m n : Int}
    (h : Calls P f args (ext w y) fun e w' => e = .returned (.int .i64 m) ∧ ∃ z, w' = ext (ext w y) z) (hc : m = n) : Calls P f args (ext w y) fun e w' => e = .returned (.int .i64 n) ∧ ∃ z, w' = ext w z := by
  subst hc; exact quietE h
theorem same_t {xs ys : List Int} (h : xs = ys) : decide (xs = ys) = true := decide_eq_true h
theorem same_f {xs ys : List Int} (h : ¬ xs = ys) : decide (xs = ys) = false := decide_eq_false h
theorem cmp_t {xs ys : List Int} (h : xs = ys) : cmpL xs ys = 0 := cmpL_zero.2 h
set_option maxHeartbeats 2000000 in
theorem EqualQueries_any {A B A' B' : Option Addr} {c e1 c' e1' : Nat} {d d' : Qd} {w : World} (hb : BQ d) (h : vQ w [.int .i64 d.1, .slice A d.2.1.length c, .slice B d.2.2.length e1] d) (hb' : BQ d') (h' : vQ w [.int .i64 d'.1, .slice A' d'.2.1.length c', .slice B' d'.2.2.length e1'] d') :
    Calls Try.prog 31 #[.agg #[.int .i64 d.1, .slice A d.2.1.length c, .slice B d.2.2.length e1], .agg #[.int .i64 d'.1, .slice A' d'.2.1.length c', .slice B' d'.2.2.length e1']] w fun e w' => e = .returned (.bool (decide (d = d'))) ∧ ∃ y, w' = ext w y := by
  obtain ⟨r1, r2, _⟩ := vQ_get h
  obtain ⟨_, b1, b2⟩ := hb
  obtain ⟨s1, s2, _⟩ := vQ_get h'
  obtain ⟨_, p1, p2⟩ := hb'
  have r1 := (vAts_get r1).2
  have s1 := (vAts_get s1).2
  have m2 : d.2.2.length ≤ 1000000000 := by omega
  have n2 : d'.2.2.length ≤ 1000000000 := by omega
  have b4 := b1.1
  have p4 := p1.1
  have Hx := Lib.hid b1.each
  have Hy := Lib.hid p1.each
  clear h h' b1 p1
  by_cases h1 : d.1 = d'.1
  · have hq1 : (d.1 != d'.1) = false := by simp [h1]
    by_cases h2 : d.2.1.length = d'.2.1.length
    · have hq2 := int_bnet h2
      by_cases h3 : d.2.2 = d'.2.2
      · have H3 := Lib.hid (same_t h3)
        have HL := Lib.hid h2
        have k1 : d.2.1.length ≤ d'.2.1.length := by omega
        have k2 : d'.2.1.length ≤ d.2.1.length := by omega
        have HF := Lib.hid (show d.2.1 ≠ d'.2.1 → decide (d = d') = false from fun h => decide_eq_false fun e => h (by rw [e]))
        have HT := Lib.hid (show d.2.1 = d'.2.1 → decide (d = d') = true from fun h => decide_eq_true (Prod.ext h1 (Prod.ext h h3)))
        clear h1 h2 h3
        go_enter Try.func31, Try.ntmps31
        go_upto_region 1 with fail
        refine wp_name ?_
        intro W hW
        have xW : ∃ y, W = ext w y := by rw [hW.out]; exact (by refine Chg.isExt (F := []) ?_ (refl_ext _) (by simp); repeat (with_reducible (first | exact Chg.refl _ _ | exact Nat.le_refl _ | exact Chg.ofExt (by assumption) | refine Chg.trans0 ?_ (by assumption) | refine Chg.extS ?_ _ | refine Chg.alloc ?_ _ | refine Chg.drew ?_ | refine Chg.setCellE ?_ ?_ _ | refine le_addk ?_ _ | refine le_ext ?_ | refine le_alloc ?_ _ | refine le_setC ?_ _ _ | refine le_drew ?_ | assumption | (refine Nat.le_of_lt ?_; omega) | omega)))
        have BW0 : BoxAt W (w.heap.size) #[.int .i64 d.1, .slice A d.2.1.length c, .slice B d.2.2.length e1] := by rw [hW.out]; refine ⟨?_, fun j => ?_, fun j => ?_⟩ <;> go_simp
        obtain ⟨lW0, bW0, fW0⟩ := BW0
        have cW0_0 : W.cell? ⟨w.heap.size, 0, none⟩ = some (.int .i64 d.1) := bW0 0
        have cW0_1 : W.cell? ⟨w.heap.size, 1, none⟩ = some (.slice A d.2.1.length c) := bW0 1
        have cW0_2 : W.cell? ⟨w.heap.size, 2, none⟩ = some (.slice B d.2.2.length e1) := bW0 2
        have BW1 : BoxAt W (w.heap.size + 1) #[.int .i64 d'.1, .slice A' d'.2.1.length c', .slice B' d'.2.2.length e1'] := by rw [hW.out]; refine ⟨?_, fun j => ?_, fun j => ?_⟩ <;> go_simp
        obtain ⟨lW1, bW1, fW1⟩ := BW1
        have cW1_0 : W.cell? ⟨w.heap.size + 1, 0, none⟩ = some (.int .i64 d'.1) := bW1 0
        have cW1_1 : W.cell? ⟨w.heap.size + 1, 1, none⟩ = some (.slice A' d'.2.1.length c') := bW1 1
        have cW1_2 : W.cell? ⟨w.heap.size + 1, 2, none⟩ = some (.slice B' d'.2.2.length e1') := bW1 2
        clear hW
        go_wp2_with (go_at_call 80; refine (sameInts_any m2 (r2.toExt (by refine Chg.isExt (F := []) ?_ (refl_ext _) (by simp); repeat (with_reducible (first | exact Chg.refl _ _ | exact Nat.le_refl _ | exact Chg.ofExt (by assumption) | refine Chg.trans0 ?_ (by assumption) | refine Chg.extS ?_ _ | refine Chg.alloc ?_ _ | refine Chg.drew ?_ | refine Chg.setCellE ?_ ?_ _ | refine le_addk ?_ _ | refine le_ext ?_ | refine le_alloc ?_ _ | refine le_setC ?_ _ _ | refine le_drew ?_ | assumption | (refine Nat.le_of_lt ?_; omega) | omega)))) n2 (s2.toExt (by refine Chg.isExt (F := []) ?_ (refl_ext _) (by simp); repeat (with_reducible (first | exact Chg.refl _ _ | exact Nat.le_refl _ | exact Chg.ofExt (by assumption) | refine Chg.trans0 ?_ (by assumption) | refine Chg.extS ?_ _ | refine Chg.alloc ?_ _ | refine Chg.drew ?_ | refine Chg.setCellE ?_ ?_ _ | refine le_addk ?_ _ | refine le_ext ?_ | refine le_alloc ?_ _ | refine le_setC ?_ _ _ | refine le_drew ?_ | assumption | (refine Nat.le_of_lt ?_; omega) | omega))))).mono ?_; rintro e w1 ⟨rfl, hx1⟩; rw [H3.out]; have P1 := BoxAt.toExt (cs := #[.int .i64 d.1, .slice A d.2.1.length c, .slice B d.2.2.length e1]) ⟨lW0, bW0, fW0⟩ hx1; have Q1 := BoxAt.toExt (cs := #[.int .i64 d'.1, .slice A' d'.2.1.length c', .slice B' d'.2.2.length e1']) ⟨lW1, bW1, fW1⟩ hx1; obtain ⟨l1, a1, a1', a1'', f1⟩ := box3 P1; obtain ⟨o1, z1, z1', z1'', g1⟩ := box3 Q1)
        go_loopw [31] (fun i wr => ∃ k : Nat, i = .int .i64 k ∧ k ≤ d.2.1.length ∧ d.2.1.take k = d'.2.1.take k ∧ ∃ y, wr = ext W y) (fun i _ => d.2.1.length - (intOf i).toNat)
        case atStart => exact ⟨0, rfl, by omega, by simp, hx1⟩
        case round =>
          obtain ⟨k, rfl, hk, ht, hy⟩ := hrel
          have Ht := Lib.hid ht
          clear ht
          have P1 := BoxAt.toExt (cs := #[.int .i64 d.1, .slice A d.2.1.length c, .slice B d.2.2.length e1]) ⟨lW0, bW0, fW0⟩ hy
          have Q1 := BoxAt.toExt (cs := #[.int .i64 d'.1, .slice A' d'.2.1.length c', .slice B' d'.2.2.length e1']) ⟨lW1, bW1, fW1⟩ hy
          obtain ⟨l1, a1, a1', a1'', f1⟩ := box3 P1
          obtain ⟨o1, z1, z1', z1'', g1⟩ := box3 Q1
          have hyw := trans_ext xW hy
          by_cases hlt : k < d.2.1.length
          · have hlt2 : k < d'.2.1.length := by omega
            obtain ⟨b, o, A1, c1, rfl, hb, hc, hd, hv⟩ := (r1.toExt hyw).atA hlt
            obtain ⟨b', o', A2, c2, rfl, hb', hc', hd', hv'⟩ := (s1.toExt hyw).atA hlt2
            have q1 : d.2.1[k].2.length ≤ 1000000000 := by have := (Hx.out d.2.1[k] (List.getElem_mem hlt)).2; omega
            have q2 : d'.2.1[k].2.length ≤ 1000000000 := by have := (Hy.out d'.2.1[k] (List.getElem_mem hlt2)).2; omega
            by_cases hs : d.2.1[k].1 = d'.2.1[k].1
            · have hs1 := str_bnet hs
              have hs2 := str_beqt hs
              by_cases he : d.2.1[k].2 = d'.2.1[k].2
              · have He := Lib.hid (show d.2.1[k] = d'.2.1[k] from Prod.ext hs he)
                have Hd := Lib.hid (same_t he)
                clear he hs
                go_wp2
                refine wp_region_ext (by kernel_rfl) (by kernel_rfl) ?_
                repeat (go_big_quiet_step ((go_at_call 80; exact quietEb (sameInts_any q1 hv.ext q2 hv'.ext) Hd.out)))
                refine wpQuiet_nil ?_
                rintro _ ⟨z, rfl⟩
                go_wp2
                exact ⟨⟨k + 1, by go_num, by omega, take_snoc_eq _ _ Ht.out He.out, (by refine Chg.isExt (F := []) ?_ (refl_ext _) (by simp); repeat (with_reducible (first | exact Chg.refl _ _ | exact Nat.le_refl _ | exact Chg.ofExt (by assumption) | refine Chg.trans0 ?_ (by assumption) | refine Chg.extS ?_ _ | refine Chg.alloc ?_ _ | refine Chg.drew ?_ | refine Chg.setCellE ?_ ?_ _ | refine le_addk ?_ _ | refine le_ext ?_ | refine le_alloc ?_ _ | refine le_setC ?_ _ _ | refine le_drew ?_ | assumption | (refine Nat.le_of_lt ?_; omega) | omega)))⟩, by simp [intOf]; omega⟩
              · have He := Lib.hid (show ¬ d.2.1[k] = d'.2.1[k] from fun e => he (by rw [e]))
                have Hd := Lib.hid (same_f he)
                clear he hs
                go_wp2
                refine wp_region_ext (by kernel_rfl) (by kernel_rfl) ?_
                repeat (go_big_quiet_step ((go_at_call 80; exact quietEb (sameInts_any q1 hv.ext q2 hv'.ext) Hd.out)))
                refine wpQuiet_nil ?_
                rintro _ ⟨z, rfl⟩
                go_wp2
                go_ret
                exact ⟨by rw [HF.out (fun e => ne_of_at hlt hlt2 He.out e)]; rfl, (by refine Chg.isExt (F := []) ?_ (refl_ext _) (by simp); repeat (with_reducible (first | exact Chg.refl _ _ | exact Nat.le_refl _ | exact Chg.ofExt (by assumption) | refine Chg.trans0 ?_ (by assumption) | refine Chg.extS ?_ _ | refine Chg.alloc ?_ _ | refine Chg.drew ?_ | refine Chg.setCellE ?_ ?_ _ | refine le_addk ?_ _ | refine le_ext ?_ | refine le_alloc ?_ _ | refine le_setC ?_ _ _ | refine le_drew ?_ | assumption | (refine Nat.le_of_lt ?_; omega) | omega)))⟩
            · have He := Lib.hid (show ¬ d.2.1[k] = d'.2.1[k] from fun e => hs (by rw [e]))
              have hs1 := str_bnef hs
              have hs2 := str_beqf hs
              clear hs
              go_wp2
              refine wp_region_ext (by kernel_rfl) (by kernel_rfl) ?_
              repeat (go_big_quiet_step (fail))
              refine wpQuiet_nil ?_
              rintro _ ⟨z, rfl⟩
              go_wp2
              go_ret
              exact ⟨by rw [HF.out (fun e => ne_of_at hlt hlt2 He.out e)]; rfl, (by refine Chg.isExt (F := []) ?_ (refl_ext _) (by simp); repeat (with_reducible (first | exact Chg.refl _ _ | exact Nat.le_refl _ | exact Chg.ofExt (by assumption) | refine Chg.trans0 ?_ (by assumption) | refine Chg.extS ?_ _ | refine Chg.alloc ?_ _ | refine Chg.drew ?_ | refine Chg.setCellE ?_ ?_ _ | refine le_addk ?_ _ | refine le_ext ?_ | refine le_alloc ?_ _ | refine le_setC ?_ _ _ | refine le_drew ?_ | assumption | (refine Nat.le_of_lt ?_; omega) | omega)))⟩
          · go_wp2
            go_ret
            exact ⟨by rw [HT.out (all_eq HL.out hlt Ht.out)]; rfl, hyw⟩
      · have H3 := Lib.hid (same_f h3)
        have HE := Lib.hid (show decide (d = d') = false from decide_eq_false fun e => h3 (by rw [e]))
        clear h1 h2 h3
        go_enter Try.func31, Try.ntmps31
        go_upto_region 1 with fail
        refine wp_name ?_
        intro W hW
        have xW : ∃ y, W = ext w y := by rw [hW.out]; exact (by refine Chg.isExt (F := []) ?_ (refl_ext _) (by simp); repeat (with_reducible (first | exact Chg.refl _ _ | exact Nat.le_refl _ | exact Chg.ofExt (by assumption) | refine Chg.trans0 ?_ (by assumption) | refine Chg.extS ?_ _ | refine Chg.alloc ?_ _ | refine Chg.drew ?_ | refine Chg.setCellE ?_ ?_ _ | refine le_addk ?_ _ | refine le_ext ?_ | refine le_alloc ?_ _ | refine le_setC ?_ _ _ | refine le_drew ?_ | assumption | (refine Nat.le_of_lt ?_; omega) | omega)))
        have BW0 : BoxAt W (w.heap.size) #[.int .i64 d.1, .slice A d.2.1.length c, .slice B d.2.2.length e1] := by rw [hW.out]; refine ⟨?_, fun j => ?_, fun j => ?_⟩ <;> go_simp
        obtain ⟨lW0, bW0, fW0⟩ := BW0
        have cW0_0 : W.cell? ⟨w.heap.size, 0, none⟩ = some (.int .i64 d.1) := bW0 0
        have cW0_1 : W.cell? ⟨w.heap.size, 1, none⟩ = some (.slice A d.2.1.length c) := bW0 1
        have cW0_2 : W.cell? ⟨w.heap.size, 2, none⟩ = some (.slice B d.2.2.length e1) := bW0 2
        have BW1 : BoxAt W (w.heap.size + 1) #[.int .i64 d'.1, .slice A' d'.2.1.length c', .slice B' d'.2.2.length e1'] := by rw [hW.out]; refine ⟨?_, fun j => ?_, fun j => ?_⟩ <;> go_simp
        obtain ⟨lW1, bW1, fW1⟩ := BW1
        have cW1_0 : W.cell? ⟨w.heap.size + 1, 0, none⟩ = some (.int .i64 d'.1) := bW1 0
        have cW1_1 : W.cell? ⟨w.heap.size + 1, 1, none⟩ = some (.slice A' d'.2.1.length c') := bW1 1
        have cW1_2 : W.cell? ⟨w.heap.size + 1, 2, none⟩ = some (.slice B' d'.2.2.length e1') := bW1 2
        clear hW
        go_wp2_with (go_at_call 80; refine (sameInts_any m2 (r2.toExt (by refine Chg.isExt (F := []) ?_ (refl_ext _) (by simp); repeat (with_reducible (first | exact Chg.refl _ _ | exact Nat.le_refl _ | exact Chg.ofExt (by assumption) | refine Chg.trans0 ?_ (by assumption) | refine Chg.extS ?_ _ | refine Chg.alloc ?_ _ | refine Chg.drew ?_ | refine Chg.setCellE ?_ ?_ _ | refine le_addk ?_ _ | refine le_ext ?_ | refine le_alloc ?_ _ | refine le_setC ?_ _ _ | refine le_drew ?_ | assumption | (refine Nat.le_of_lt ?_; omega) | omega)))) n2 (s2.toExt (by refine Chg.isExt (F := []) ?_ (refl_ext _) (by simp); repeat (with_reducible (first | exact Chg.refl _ _ | exact Nat.le_refl _ | exact Chg.ofExt (by assumption) | refine Chg.trans0 ?_ (by assumption) | refine Chg.extS ?_ _ | refine Chg.alloc ?_ _ | refine Chg.drew ?_ | refine Chg.setCellE ?_ ?_ _ | refine le_addk ?_ _ | refine le_ext ?_ | refine le_alloc ?_ _ | refine le_setC ?_ _ _ | refine le_drew ?_ | assumption | (refine Nat.le_of_lt ?_; omega) | omega))))).mono ?_; rintro e w1 ⟨rfl, hx1⟩; rw [H3.out]; have P1 := BoxAt.toExt (cs := #[.int .i64 d.1, .slice A d.2.1.length c, .slice B d.2.2.length e1]) ⟨lW0, bW0, fW0⟩ hx1; have Q1 := BoxAt.toExt (cs := #[.int .i64 d'.1, .slice A' d'.2.1.length c', .slice B' d'.2.2.length e1']) ⟨lW1, bW1, fW1⟩ hx1; obtain ⟨l1, a1, a1', a1'', f1⟩ := box3 P1; obtain ⟨o1, z1, z1', z1'', g1⟩ := box3 Q1)
        go_ret
        exact ⟨by rw [HE.out]; rfl, (by refine Chg.isExt (F := []) ?_ (refl_ext _) (by simp); repeat (with_reducible (first | exact Chg.refl _ _ | exact Nat.le_refl _ | exact Chg.ofExt (by assumption) | refine Chg.trans0 ?_ (by assumption) | refine Chg.extS ?_ _ | refine Chg.alloc ?_ _ | refine Chg.drew ?_ | refine Chg.setCellE ?_ ?_ _ | refine le_addk ?_ _ | refine le_ext ?_ | refine le_alloc ?_ _ | refine le_setC ?_ _ _ | refine le_drew ?_ | assumption | (refine Nat.le_of_lt ?_; omega) | omega)))⟩
    · have hq2 := int_bnef h2
      have HE := Lib.hid (show decide (d = d') = false from decide_eq_false fun e => h2 (by rw [e]))
      clear h1 h2
      go_enter Try.func31, Try.ntmps31
      go_wp2
      go_ret
      exact ⟨by rw [HE.out]; rfl, (by refine Chg.isExt (F := []) ?_ (refl_ext _) (by simp); repeat (with_reducible (first | exact Chg.refl _ _ | exact Nat.le_refl _ | exact Chg.ofExt (by assumption) | refine Chg.trans0 ?_ (by assumption) | refine Chg.extS ?_ _ | refine Chg.alloc ?_ _ | refine Chg.drew ?_ | refine Chg.setCellE ?_ ?_ _ | refine le_addk ?_ _ | refine le_ext ?_ | refine le_alloc ?_ _ | refine le_setC ?_ _ _ | refine le_drew ?_ | assumption | (refine Nat.le_of_lt ?_; omega) | omega)))⟩
  · have hq1 : (d.1 != d'.1) = true := by simp [h1]
    have HE := Lib.hid (show decide (d = d') = false from decide_eq_false fun e => h1 (by rw [e]))
    clear h1
    go_enter Try.func31, Try.ntmps31
    go_wp2
    go_ret
    exact ⟨by rw [HE.out]; rfl, (by refine Chg.isExt (F := []) ?_ (refl_ext _) (by simp); repeat (with_reducible (first | exact Chg.refl _ _ | exact Nat.le_refl _ | exact Chg.ofExt (by assumption) | refine Chg.trans0 ?_ (by assumption) | refine Chg.extS ?_ _ | refine Chg.alloc ?_ _ | refine Chg.drew ?_ | refine Chg.setCellE ?_ ?_ _ | refine le_addk ?_ _ | refine le_ext ?_ | refine le_alloc ?_ _ | refine le_setC ?_ _ _ | refine le_drew ?_ | assumption | (refine Nat.le_of_lt ?_; omega) | omega)))⟩
set_option maxHeartbeats 2000000 in
theorem specEqualQueries_any {A B A' B' : Option Addr} {c e1 c' e1' : Nat} {d d' : Qd} {w : World} (hb : BQ d) (h : vQ w [.int .i64 d.1, .slice A d.2.1.length c, .slice B d.2.2.length e1] d) (hb' : BQ d') (h' : vQ w [.int .i64 d'.1, .slice A' d'.2.1.length c', .slice B' d'.2.2.length e1'] d') :
    Calls Try.prog 30 #[.agg #[.int .i64 d.1, .slice A d.2.1.length c, .slice B d.2.2.length e1], .agg #[.int .i64 d'.1, .slice A' d'.2.1.length c', .slice B' d'.2.2.length e1']] w fun e w' => e = .returned (.bool (decide (d = d'))) ∧ ∃ y, w' = ext w y := by
  obtain ⟨r1, r2, _⟩ := vQ_get h
  obtain ⟨_, b1, b2⟩ := hb
  obtain ⟨s1, s2, _⟩ := vQ_get h'
  obtain ⟨_, p1, p2⟩ := hb'
  have r1 := (vAts_get r1).2
  have s1 := (vAts_get s1).2
  have m2 : d.2.2.length ≤ 1000000000 := by omega
  have n2 : d'.2.2.length ≤ 1000000000 := by omega
  have b4 := b1.1
  have p4 := p1.1
  have Hx := Lib.hid b1.each
  have Hy := Lib.hid p1.each
  clear h h' b1 p1
  by_cases h1 : d.1 = d'.1
  · have hq1 : (d.1 != d'.1) = false := by simp [h1]
    by_cases h2 : d.2.1.length = d'.2.1.length
    · have hq2 := int_bnet h2
      by_cases h3 : d.2.2 = d'.2.2
      · have H3 := Lib.hid (cmp_t h3)
        have HL := Lib.hid h2
        have k1 : d.2.1.length ≤ d'.2.1.length := by omega
        have k2 : d'.2.1.length ≤ d.2.1.length := by omega
        have HF := Lib.hid (show d.2.1 ≠ d'.2.1 → decide (d = d') = false from fun h => decide_eq_false fun e => h (by rw [e]))
        have HT := Lib.hid (show d.2.1 = d'.2.1 → decide (d = d') = true from fun h => decide_eq_true (Prod.ext h1 (Prod.ext h h3)))
        clear h1 h2 h3
        go_enter Try.func30, Try.ntmps30
        go_upto_region 1 with fail
        refine wp_name ?_
        intro W hW
        have xW : ∃ y, W = ext w y := by rw [hW.out]; exact (by refine Chg.isExt (F := []) ?_ (refl_ext _) (by simp); repeat (with_reducible (first | exact Chg.refl _ _ | exact Nat.le_refl _ | exact Chg.ofExt (by assumption) | refine Chg.trans0 ?_ (by assumption) | refine Chg.extS ?_ _ | refine Chg.alloc ?_ _ | refine Chg.drew ?_ | refine Chg.setCellE ?_ ?_ _ | refine le_addk ?_ _ | refine le_ext ?_ | refine le_alloc ?_ _ | refine le_setC ?_ _ _ | refine le_drew ?_ | assumption | (refine Nat.le_of_lt ?_; omega) | omega)))
        have BW0 : BoxAt W (w.heap.size) #[.int .i64 d.1, .slice A d.2.1.length c, .slice B d.2.2.length e1] := by rw [hW.out]; refine ⟨?_, fun j => ?_, fun j => ?_⟩ <;> go_simp
        obtain ⟨lW0, bW0, fW0⟩ := BW0
        have cW0_0 : W.cell? ⟨w.heap.size, 0, none⟩ = some (.int .i64 d.1) := bW0 0
        have cW0_1 : W.cell? ⟨w.heap.size, 1, none⟩ = some (.slice A d.2.1.length c) := bW0 1
        have cW0_2 : W.cell? ⟨w.heap.size, 2, none⟩ = some (.slice B d.2.2.length e1) := bW0 2
        have BW1 : BoxAt W (w.heap.size + 1) #[.int .i64 d'.1, .slice A' d'.2.1.length c', .slice B' d'.2.2.length e1'] := by rw [hW.out]; refine ⟨?_, fun j => ?_, fun j => ?_⟩ <;> go_simp
        obtain ⟨lW1, bW1, fW1⟩ := BW1
        have cW1_0 : W.cell? ⟨w.heap.size + 1, 0, none⟩ = some (.int .i64 d'.1) := bW1 0
        have cW1_1 : W.cell? ⟨w.heap.size + 1, 1, none⟩ = some (.slice A' d'.2.1.length c') := bW1 1
        have cW1_2 : W.cell? ⟨w.heap.size + 1, 2, none⟩ = some (.slice B' d'.2.2.length e1') := bW1 2
        clear hW
        go_wp2_with (go_at_call 79; refine (specCompareRows_any m2 (r2.toExt (by refine Chg.isExt (F := []) ?_ (refl_ext _) (by simp); repeat (with_reducible (first | exact Chg.refl _ _ | exact Nat.le_refl _ | exact Chg.ofExt (by assumption) | refine Chg.trans0 ?_ (by assumption) | refine Chg.extS ?_ _ | refine Chg.alloc ?_ _ | refine Chg.drew ?_ | refine Chg.setCellE ?_ ?_ _ | refine le_addk ?_ _ | refine le_ext ?_ | refine le_alloc ?_ _ | refine le_setC ?_ _ _ | refine le_drew ?_ | assumption | (refine Nat.le_of_lt ?_; omega) | omega)))) n2 (s2.toExt (by refine Chg.isExt (F := []) ?_ (refl_ext _) (by simp); repeat (with_reducible (first | exact Chg.refl _ _ | exact Nat.le_refl _ | exact Chg.ofExt (by assumption) | refine Chg.trans0 ?_ (by assumption) | refine Chg.extS ?_ _ | refine Chg.alloc ?_ _ | refine Chg.drew ?_ | refine Chg.setCellE ?_ ?_ _ | refine le_addk ?_ _ | refine le_ext ?_ | refine le_alloc ?_ _ | refine le_setC ?_ _ _ | refine le_drew ?_ | assumption | (refine Nat.le_of_lt ?_; omega) | omega))))).mono ?_; rintro e w1 ⟨rfl, hx1⟩; rw [H3.out]; have P1 := BoxAt.toExt (cs := #[.int .i64 d.1, .slice A d.2.1.length c, .slice B d.2.2.length e1]) ⟨lW0, bW0, fW0⟩ hx1; have Q1 := BoxAt.toExt (cs := #[.int .i64 d'.1, .slice A' d'.2.1.length c', .slice B' d'.2.2.length e1']) ⟨lW1, bW1, fW1⟩ hx1; obtain ⟨l1, a1, a1', a1'', f1⟩ := box3 P1; obtain ⟨o1, z1, z1', z1'', g1⟩ := box3 Q1)
        go_loopw [5] (fun i wr => ∃ k : Nat, i = .int .i64 k ∧ k ≤ d.2.1.length ∧ d.2.1.take k = d'.2.1.take k ∧ ∃ y, wr = ext W y) (fun i _ => d.2.1.length - (intOf i).toNat)
        case atStart => exact ⟨0, rfl, by omega, by simp, hx1⟩
        case round =>
          obtain ⟨k, rfl, hk, ht, hy⟩ := hrel
          have Ht := Lib.hid ht
          clear ht
          have P1 := BoxAt.toExt (cs := #[.int .i64 d.1, .slice A d.2.1.length c, .slice B d.2.2.length e1]) ⟨lW0, bW0, fW0⟩ hy
          have Q1 := BoxAt.toExt (cs := #[.int .i64 d'.1, .slice A' d'.2.1.length c', .slice B' d'.2.2.length e1']) ⟨lW1, bW1, fW1⟩ hy
          obtain ⟨l1, a1, a1', a1'', f1⟩ := box3 P1
          obtain ⟨o1, z1, z1', z1'', g1⟩ := box3 Q1
          have hyw := trans_ext xW hy
          by_cases hlt : k < d.2.1.length
          · have hlt2 : k < d'.2.1.length := by omega
            obtain ⟨b, o, A1, c1, rfl, hb, hc, hd, hv⟩ := (r1.toExt hyw).atA hlt
            obtain ⟨b', o', A2, c2, rfl, hb', hc', hd', hv'⟩ := (s1.toExt hyw).atA hlt2
            have q1 : d.2.1[k].2.length ≤ 1000000000 := by have := (Hx.out d.2.1[k] (List.getElem_mem hlt)).2; omega
            have q2 : d'.2.1[k].2.length ≤ 1000000000 := by have := (Hy.out d'.2.1[k] (List.getElem_mem hlt2)).2; omega
            by_cases hs : d.2.1[k].1 = d'.2.1[k].1
            · have hs1 := str_bnet hs
              have hs2 := str_beqt hs
              by_cases he : d.2.1[k].2 = d'.2.1[k].2
              · have He := Lib.hid (show d.2.1[k] = d'.2.1[k] from Prod.ext hs he)
                have Hd := Lib.hid (cmp_t he)
                clear he hs
                go_wp2
                refine wp_region_ext (by kernel_rfl) (by kernel_rfl) ?_
                repeat (go_big_quiet_step ((go_at_call 79; exact quietEi (specCompareRows_any q1 hv.ext q2 hv'.ext) Hd.out)))
                refine wpQuiet_nil ?_
                rintro _ ⟨z, rfl⟩
                go_wp2
                exact ⟨⟨k + 1, by go_num, by omega, take_snoc_eq _ _ Ht.out He.out, (by refine Chg.isExt (F := []) ?_ (refl_ext _) (by simp); repeat (with_reducible (first | exact Chg.refl _ _ | exact Nat.le_refl _ | exact Chg.ofExt (by assumption) | refine Chg.trans0 ?_ (by assumption) | refine Chg.extS ?_ _ | refine Chg.alloc ?_ _ | refine Chg.drew ?_ | refine Chg.setCellE ?_ ?_ _ | refine le_addk ?_ _ | refine le_ext ?_ | refine le_alloc ?_ _ | refine le_setC ?_ _ _ | refine le_drew ?_ | assumption | (refine Nat.le_of_lt ?_; omega) | omega)))⟩, by simp [intOf]; omega⟩
              · have He := Lib.hid (show ¬ d.2.1[k] = d'.2.1[k] from fun e => he (by rw [e]))
                obtain ⟨m, hm⟩ : ∃ m, cmpL d.2.1[k].2 d'.2.1[k].2 = m := ⟨_, rfl⟩
                have hm0 : (m != 0) = true := by rw [← hm]; simpa using fun h => he (cmpL_zero.1 h)
                have Hd := Lib.hid hm
                clear he hs hm
                go_wp2
                refine wp_region_ext (by kernel_rfl) (by kernel_rfl) ?_
                repeat (go_big_quiet_step ((go_at_call 79; exact quietEi (specCompareRows_any q1 hv.ext q2 hv'.ext) Hd.out)))
                refine wpQuiet_nil ?_
                rintro _ ⟨z, rfl⟩
                go_wp2
                go_ret
                exact ⟨by rw [HF.out (fun e => ne_of_at hlt hlt2 He.out e)]; rfl, (by refine Chg.isExt (F := []) ?_ (refl_ext _) (by simp); repeat (with_reducible (first | exact Chg.refl _ _ | exact Nat.le_refl _ | exact Chg.ofExt (by assumption) | refine Chg.trans0 ?_ (by assumption) | refine Chg.extS ?_ _ | refine Chg.alloc ?_ _ | refine Chg.drew ?_ | refine Chg.setCellE ?_ ?_ _ | refine le_addk ?_ _ | refine le_ext ?_ | refine le_alloc ?_ _ | refine le_setC ?_ _ _ | refine le_drew ?_ | assumption | (refine Nat.le_of_lt ?_; omega) | omega)))⟩
            · have He := Lib.hid (show ¬ d.2.1[k] = d'.2.1[k] from fun e => hs (by rw [e]))
              have hs1 := str_bnef hs
              have hs2 := str_beqf hs
              clear hs
              go_wp2
              refine wp_region_ext (by kernel_rfl) (by kernel_rfl) ?_
              repeat (go_big_quiet_step (fail))
              refine wpQuiet_nil ?_
              rintro _ ⟨z, rfl⟩
              go_wp2
              go_ret
              exact ⟨by rw [HF.out (fun e => ne_of_at hlt hlt2 He.out e)]; rfl, (by refine Chg.isExt (F := []) ?_ (refl_ext _) (by simp); repeat (with_reducible (first | exact Chg.refl _ _ | exact Nat.le_refl _ | exact Chg.ofExt (by assumption) | refine Chg.trans0 ?_ (by assumption) | refine Chg.extS ?_ _ | refine Chg.alloc ?_ _ | refine Chg.drew ?_ | refine Chg.setCellE ?_ ?_ _ | refine le_addk ?_ _ | refine le_ext ?_ | refine le_alloc ?_ _ | refine le_setC ?_ _ _ | refine le_drew ?_ | assumption | (refine Nat.le_of_lt ?_; omega) | omega)))⟩
          · go_wp2
            go_ret
            exact ⟨by rw [HT.out (all_eq HL.out hlt Ht.out)]; rfl, hyw⟩
      · obtain ⟨m, hm⟩ : ∃ m, cmpL d.2.2 d'.2.2 = m := ⟨_, rfl⟩
        have hm0 : (m != 0) = true := by rw [← hm]; simpa using fun h => h3 (cmpL_zero.1 h)
        have H3 := Lib.hid hm
        have HE := Lib.hid (show decide (d = d') = false from decide_eq_false fun e => h3 (by rw [e]))
        clear h1 h2 h3
        go_enter Try.func30, Try.ntmps30
        go_upto_region 1 with fail
        refine wp_name ?_
        intro W hW
        have xW : ∃ y, W = ext w y := by rw [hW.out]; exact (by refine Chg.isExt (F := []) ?_ (refl_ext _) (by simp); repeat (with_reducible (first | exact Chg.refl _ _ | exact Nat.le_refl _ | exact Chg.ofExt (by assumption) | refine Chg.trans0 ?_ (by assumption) | refine Chg.extS ?_ _ | refine Chg.alloc ?_ _ | refine Chg.drew ?_ | refine Chg.setCellE ?_ ?_ _ | refine le_addk ?_ _ | refine le_ext ?_ | refine le_alloc ?_ _ | refine le_setC ?_ _ _ | refine le_drew ?_ | assumption | (refine Nat.le_of_lt ?_; omega) | omega)))
        have BW0 : BoxAt W (w.heap.size) #[.int .i64 d.1, .slice A d.2.1.length c, .slice B d.2.2.length e1] := by rw [hW.out]; refine ⟨?_, fun j => ?_, fun j => ?_⟩ <;> go_simp
        obtain ⟨lW0, bW0, fW0⟩ := BW0
        have cW0_0 : W.cell? ⟨w.heap.size, 0, none⟩ = some (.int .i64 d.1) := bW0 0
        have cW0_1 : W.cell? ⟨w.heap.size, 1, none⟩ = some (.slice A d.2.1.length c) := bW0 1
        have cW0_2 : W.cell? ⟨w.heap.size, 2, none⟩ = some (.slice B d.2.2.length e1) := bW0 2
        have BW1 : BoxAt W (w.heap.size + 1) #[.int .i64 d'.1, .slice A' d'.2.1.length c', .slice B' d'.2.2.length e1'] := by rw [hW.out]; refine ⟨?_, fun j => ?_, fun j => ?_⟩ <;> go_simp
        obtain ⟨lW1, bW1, fW1⟩ := BW1
        have cW1_0 : W.cell? ⟨w.heap.size + 1, 0, none⟩ = some (.int .i64 d'.1) := bW1 0
        have cW1_1 : W.cell? ⟨w.heap.size + 1, 1, none⟩ = some (.slice A' d'.2.1.length c') := bW1 1
        have cW1_2 : W.cell? ⟨w.heap.size + 1, 2, none⟩ = some (.slice B' d'.2.2.length e1') := bW1 2
        clear hW
        go_wp2_with (go_at_call 79; refine (specCompareRows_any m2 (r2.toExt (by refine Chg.isExt (F := []) ?_ (refl_ext _) (by simp); repeat (with_reducible (first | exact Chg.refl _ _ | exact Nat.le_refl _ | exact Chg.ofExt (by assumption) | refine Chg.trans0 ?_ (by assumption) | refine Chg.extS ?_ _ | refine Chg.alloc ?_ _ | refine Chg.drew ?_ | refine Chg.setCellE ?_ ?_ _ | refine le_addk ?_ _ | refine le_ext ?_ | refine le_alloc ?_ _ | refine le_setC ?_ _ _ | refine le_drew ?_ | assumption | (refine Nat.le_of_lt ?_; omega) | omega)))) n2 (s2.toExt (by refine Chg.isExt (F := []) ?_ (refl_ext _) (by simp); repeat (with_reducible (first | exact Chg.refl _ _ | exact Nat.le_refl _ | exact Chg.ofExt (by assumption) | refine Chg.trans0 ?_ (by assumption) | refine Chg.extS ?_ _ | refine Chg.alloc ?_ _ | refine Chg.drew ?_ | refine Chg.setCellE ?_ ?_ _ | refine le_addk ?_ _ | refine le_ext ?_ | refine le_alloc ?_ _ | refine le_setC ?_ _ _ | refine le_drew ?_ | assumption | (refine Nat.le_of_lt ?_; omega) | omega))))).mono ?_; rintro e w1 ⟨rfl, hx1⟩; rw [H3.out]; have P1 := BoxAt.toExt (cs := #[.int .i64 d.1, .slice A d.2.1.length c, .slice B d.2.2.length e1]) ⟨lW0, bW0, fW0⟩ hx1; have Q1 := BoxAt.toExt (cs := #[.int .i64 d'.1, .slice A' d'.2.1.length c', .slice B' d'.2.2.length e1']) ⟨lW1, bW1, fW1⟩ hx1; obtain ⟨l1, a1, a1', a1'', f1⟩ := box3 P1; obtain ⟨o1, z1, z1', z1'', g1⟩ := box3 Q1)
        go_ret
        exact ⟨by rw [HE.out]; rfl, (by refine Chg.isExt (F := []) ?_ (refl_ext _) (by simp); repeat (with_reducible (first | exact Chg.refl _ _ | exact Nat.le_refl _ | exact Chg.ofExt (by assumption) | refine Chg.trans0 ?_ (by assumption) | refine Chg.extS ?_ _ | refine Chg.alloc ?_ _ | refine Chg.drew ?_ | refine Chg.setCellE ?_ ?_ _ | refine le_addk ?_ _ | refine le_ext ?_ | refine le_alloc ?_ _ | refine le_setC ?_ _ _ | refine le_drew ?_ | assumption | (refine Nat.le_of_lt ?_; omega) | omega)))⟩
    · have hq2 := int_bnef h2
      have HE := Lib.hid (show decide (d = d') = false from decide_eq_false fun e => h2 (by rw [e]))
      clear h1 h2
      by_cases h3 : d.2.2 = d'.2.2
      · have H3 := Lib.hid (cmp_t h3)
        clear h3
        go_enter Try.func30, Try.ntmps30
        go_upto_region 1 with fail
        refine wp_name ?_
        intro W hW
        have xW : ∃ y, W = ext w y := by rw [hW.out]; exact (by refine Chg.isExt (F := []) ?_ (refl_ext _) (by simp); repeat (with_reducible (first | exact Chg.refl _ _ | exact Nat.le_refl _ | exact Chg.ofExt (by assumption) | refine Chg.trans0 ?_ (by assumption) | refine Chg.extS ?_ _ | refine Chg.alloc ?_ _ | refine Chg.drew ?_ | refine Chg.setCellE ?_ ?_ _ | refine le_addk ?_ _ | refine le_ext ?_ | refine le_alloc ?_ _ | refine le_setC ?_ _ _ | refine le_drew ?_ | assumption | (refine Nat.le_of_lt ?_; omega) | omega)))
        have BW0 : BoxAt W (w.heap.size) #[.int .i64 d.1, .slice A d.2.1.length c, .slice B d.2.2.length e1] := by rw [hW.out]; refine ⟨?_, fun j => ?_, fun j => ?_⟩ <;> go_simp
        obtain ⟨lW0, bW0, fW0⟩ := BW0
        have cW0_0 : W.cell? ⟨w.heap.size, 0, none⟩ = some (.int .i64 d.1) := bW0 0
        have cW0_1 : W.cell? ⟨w.heap.size, 1, none⟩ = some (.slice A d.2.1.length c) := bW0 1
        have cW0_2 : W.cell? ⟨w.heap.size, 2, none⟩ = some (.slice B d.2.2.length e1) := bW0 2
        have BW1 : BoxAt W (w.heap.size + 1) #[.int .i64 d'.1, .slice A' d'.2.1.length c', .slice B' d'.2.2.length e1'] := by rw [hW.out]; refine ⟨?_, fun j => ?_, fun j => ?_⟩ <;> go_simp
        obtain ⟨lW1, bW1, fW1⟩ := BW1
        have cW1_0 : W.cell? ⟨w.heap.size + 1, 0, none⟩ = some (.int .i64 d'.1) := bW1 0
        have cW1_1 : W.cell? ⟨w.heap.size + 1, 1, none⟩ = some (.slice A' d'.2.1.length c') := bW1 1
        have cW1_2 : W.cell? ⟨w.heap.size + 1, 2, none⟩ = some (.slice B' d'.2.2.length e1') := bW1 2
        clear hW
        go_wp2_with (go_at_call 79; refine (specCompareRows_any m2 (r2.toExt (by refine Chg.isExt (F := []) ?_ (refl_ext _) (by simp); repeat (with_reducible (first | exact Chg.refl _ _ | exact Nat.le_refl _ | exact Chg.ofExt (by assumption) | refine Chg.trans0 ?_ (by assumption) | refine Chg.extS ?_ _ | refine Chg.alloc ?_ _ | refine Chg.drew ?_ | refine Chg.setCellE ?_ ?_ _ | refine le_addk ?_ _ | refine le_ext ?_ | refine le_alloc ?_ _ | refine le_setC ?_ _ _ | refine le_drew ?_ | assumption | (refine Nat.le_of_lt ?_; omega) | omega)))) n2 (s2.toExt (by refine Chg.isExt (F := []) ?_ (refl_ext _) (by simp); repeat (with_reducible (first | exact Chg.refl _ _ | exact Nat.le_refl _ | exact Chg.ofExt (by assumption) | refine Chg.trans0 ?_ (by assumption) | refine Chg.extS ?_ _ | refine Chg.alloc ?_ _ | refine Chg.drew ?_ | refine Chg.setCellE ?_ ?_ _ | refine le_addk ?_ _ | refine le_ext ?_ | refine le_alloc ?_ _ | refine le_setC ?_ _ _ | refine le_drew ?_ | assumption | (refine Nat.le_of_lt ?_; omega) | omega))))).mono ?_; rintro e w1 ⟨rfl, hx1⟩; rw [H3.out]; have P1 := BoxAt.toExt (cs := #[.int .i64 d.1, .slice A d.2.1.length c, .slice B d.2.2.length e1]) ⟨lW0, bW0, fW0⟩ hx1; have Q1 := BoxAt.toExt (cs := #[.int .i64 d'.1, .slice A' d'.2.1.length c', .slice B' d'.2.2.length e1']) ⟨lW1, bW1, fW1⟩ hx1; obtain ⟨l1, a1, a1', a1'', f1⟩ := box3 P1; obtain ⟨o1, z1, z1', z1'', g1⟩ := box3 Q1)
        go_ret
        exact ⟨by rw [HE.out]; rfl, (by refine Chg.isExt (F := []) ?_ (refl_ext _) (by simp); repeat (with_reducible (first | exact Chg.refl _ _ | exact Nat.le_refl _ | exact Chg.ofExt (by assumption) | refine Chg.trans0 ?_ (by assumption) | refine Chg.extS ?_ _ | refine Chg.alloc ?_ _ | refine Chg.drew ?_ | refine Chg.setCellE ?_ ?_ _ | refine le_addk ?_ _ | refine le_ext ?_ | refine le_alloc ?_ _ | refine le_setC ?_ _ _ | refine le_drew ?_ | assumption | (refine Nat.le_of_lt ?_; omega) | omega)))⟩
      · obtain ⟨m, hm⟩ : ∃ m, cmpL d.2.2 d'.2.2 = m := ⟨_, rfl⟩
        have hm0 : (m != 0) = true := by rw [← hm]; simpa using fun h => h3 (cmpL_zero.1 h)
        have H3 := Lib.hid hm
        clear h3
        go_enter Try.func30, Try.ntmps30
        go_upto_region 1 with fail
        refine wp_name ?_
        intro W hW
        have xW : ∃ y, W = ext w y := by rw [hW.out]; exact (by refine Chg.isExt (F := []) ?_ (refl_ext _) (by simp); repeat (with_reducible (first | exact Chg.refl _ _ | exact Nat.le_refl _ | exact Chg.ofExt (by assumption) | refine Chg.trans0 ?_ (by assumption) | refine Chg.extS ?_ _ | refine Chg.alloc ?_ _ | refine Chg.drew ?_ | refine Chg.setCellE ?_ ?_ _ | refine le_addk ?_ _ | refine le_ext ?_ | refine le_alloc ?_ _ | refine le_setC ?_ _ _ | refine le_drew ?_ | assumption | (refine Nat.le_of_lt ?_; omega) | omega)))
        have BW0 : BoxAt W (w.heap.size) #[.int .i64 d.1, .slice A d.2.1.length c, .slice B d.2.2.length e1] := by rw [hW.out]; refine ⟨?_, fun j => ?_, fun j => ?_⟩ <;> go_simp
        obtain ⟨lW0, bW0, fW0⟩ := BW0
        have cW0_0 : W.cell? ⟨w.heap.size, 0, none⟩ = some (.int .i64 d.1) := bW0 0
        have cW0_1 : W.cell? ⟨w.heap.size, 1, none⟩ = some (.slice A d.2.1.length c) := bW0 1
        have cW0_2 : W.cell? ⟨w.heap.size, 2, none⟩ = some (.slice B d.2.2.length e1) := bW0 2
        have BW1 : BoxAt W (w.heap.size + 1) #[.int .i64 d'.1, .slice A' d'.2.1.length c', .slice B' d'.2.2.length e1'] := by rw [hW.out]; refine ⟨?_, fun j => ?_, fun j => ?_⟩ <;> go_simp
        obtain ⟨lW1, bW1, fW1⟩ := BW1
        have cW1_0 : W.cell? ⟨w.heap.size + 1, 0, none⟩ = some (.int .i64 d'.1) := bW1 0
        have cW1_1 : W.cell? ⟨w.heap.size + 1, 1, none⟩ = some (.slice A' d'.2.1.length c') := bW1 1
        have cW1_2 : W.cell? ⟨w.heap.size + 1, 2, none⟩ = some (.slice B' d'.2.2.length e1') := bW1 2
        clear hW
        go_wp2_with (go_at_call 79; refine (specCompareRows_any m2 (r2.toExt (by refine Chg.isExt (F := []) ?_ (refl_ext _) (by simp); repeat (with_reducible (first | exact Chg.refl _ _ | exact Nat.le_refl _ | exact Chg.ofExt (by assumption) | refine Chg.trans0 ?_ (by assumption) | refine Chg.extS ?_ _ | refine Chg.alloc ?_ _ | refine Chg.drew ?_ | refine Chg.setCellE ?_ ?_ _ | refine le_addk ?_ _ | refine le_ext ?_ | refine le_alloc ?_ _ | refine le_setC ?_ _ _ | refine le_drew ?_ | assumption | (refine Nat.le_of_lt ?_; omega) | omega)))) n2 (s2.toExt (by refine Chg.isExt (F := []) ?_ (refl_ext _) (by simp); repeat (with_reducible (first | exact Chg.refl _ _ | exact Nat.le_refl _ | exact Chg.ofExt (by assumption) | refine Chg.trans0 ?_ (by assumption) | refine Chg.extS ?_ _ | refine Chg.alloc ?_ _ | refine Chg.drew ?_ | refine Chg.setCellE ?_ ?_ _ | refine le_addk ?_ _ | refine le_ext ?_ | refine le_alloc ?_ _ | refine le_setC ?_ _ _ | refine le_drew ?_ | assumption | (refine Nat.le_of_lt ?_; omega) | omega))))).mono ?_; rintro e w1 ⟨rfl, hx1⟩; rw [H3.out]; have P1 := BoxAt.toExt (cs := #[.int .i64 d.1, .slice A d.2.1.length c, .slice B d.2.2.length e1]) ⟨lW0, bW0, fW0⟩ hx1; have Q1 := BoxAt.toExt (cs := #[.int .i64 d'.1, .slice A' d'.2.1.length c', .slice B' d'.2.2.length e1']) ⟨lW1, bW1, fW1⟩ hx1; obtain ⟨l1, a1, a1', a1'', f1⟩ := box3 P1; obtain ⟨o1, z1, z1', z1'', g1⟩ := box3 Q1)
        go_ret
        exact ⟨by rw [HE.out]; rfl, (by refine Chg.isExt (F := []) ?_ (refl_ext _) (by simp); repeat (with_reducible (first | exact Chg.refl _ _ | exact Nat.le_refl _ | exact Chg.ofExt (by assumption) | refine Chg.trans0 ?_ (by assumption) | refine Chg.extS ?_ _ | refine Chg.alloc ?_ _ | refine Chg.drew ?_ | refine Chg.setCellE ?_ ?_ _ | refine le_addk ?_ _ | refine le_ext ?_ | refine le_alloc ?_ _ | refine le_setC ?_ _ _ | refine le_drew ?_ | assumption | (refine Nat.le_of_lt ?_; omega) | omega)))⟩
  · have hq1 : (d.1 != d'.1) = true := by simp [h1]
    have HE := Lib.hid (show decide (d = d') = false from decide_eq_false fun e => h1 (by rw [e]))
    clear h1
    go_enter Try.func30, Try.ntmps30
    go_wp2
    go_ret
    exact ⟨by rw [HE.out]; rfl, (by refine Chg.isExt (F := []) ?_ (refl_ext _) (by simp); repeat (with_reducible (first | exact Chg.refl _ _ | exact Nat.le_refl _ | exact Chg.ofExt (by assumption) | refine Chg.trans0 ?_ (by assumption) | refine Chg.extS ?_ _ | refine Chg.alloc ?_ _ | refine Chg.drew ?_ | refine Chg.setCellE ?_ ?_ _ | refine le_addk ?_ _ | refine le_ext ?_ | refine le_alloc ?_ _ | refine le_setC ?_ _ _ | refine le_drew ?_ | assumption | (refine Nat.le_of_lt ?_; omega) | omega)))⟩
end Go.Proofs.Ytbjpkfgkmilkdaa

/- Cells and blocks carried from a world of old to one that extends it. No program in it. -/
namespace Go.Proofs.Ytbjpkfgkmilkdaa
open Go.RowKit

theorem cellW {w wr : World} {b o : Nat} {u : Value} (hy : ∃ y, wr = ext w y) (hb : b < w.heap.size) (h : w.cell? ⟨b, o, none⟩ = some u) : wr.cell? ⟨b, o, none⟩ = some u := by
  obtain ⟨y, rfl⟩ := hy
  rw [cell_ext hb]; exact h
theorem ltW {w wr : World} {b : Nat} (hy : ∃ y, wr = ext w y) (hb : b < w.heap.size) : b < wr.heap.size := Nat.lt_of_lt_of_le hb (size_of_ext hy)
end Go.Proofs.Ytbjpkfgkmilkdaa

/- The reference's draws of queries for the laws on their texts and trees; queries copied by the reference. -/
namespace Go.Proofs.Ytbjpkfgkmilkdaa
open Go.RowKit
def DfqP (w : World) (e : Ending) (w' : World) : Prop := ∃ A c B c' q, e = .returned (.agg #[.int .i64 q.1, .slice A q.2.1.length c, .slice B q.2.2.length c']) ∧ vQ w' [.int .i64 q.1, .slice A q.2.1.length c, .slice B q.2.2.length c'] q ∧ QaD q ∧ ∃ y, w' = ext w y
set_option maxRecDepth 100000 in
set_option maxHeartbeats 8000000 in
theorem DrawFormatQuery_any {A : Option Addr} {c : Nat} {bs : List UInt8} {w : World} (hx : bs.length ≤ 1048576) (h1 : RU w A bs) :
    Calls Try.prog 22 #[.slice A bs.length c] w (DfqP w) := by
  go_enter Try.func22, Try.ntmps22
  go_upto_region 1 with fail
  refine wp_name ?_
  intro W hW
  have xW : ∃ y, W = ext w y := by rw [hW.out]; exact (by refine Chg.isExt (F := []) ?_ (refl_ext _) (by simp); repeat (with_reducible (first | exact Chg.refl _ _ | exact Nat.le_refl _ | exact Chg.ofExt (by assumption) | refine Chg.trans0 ?_ (by assumption) | refine Chg.extS ?_ _ | refine Chg.alloc ?_ _ | refine Chg.drew ?_ | refine Chg.setCellE ?_ ?_ _ | refine le_addk ?_ _ | refine le_ext ?_ | refine le_alloc ?_ _ | refine le_setC ?_ _ _ | refine le_drew ?_ | assumption | (refine Nat.le_of_lt ?_; omega) | omega)))
  have BW0 : BoxAt W (w.heap.size) #[.int .i64 0, .slice none 0 0, .slice none 0 0] := by rw [hW.out]; refine ⟨?_, fun j => ?_, fun j => ?_⟩ <;> go_simp
  obtain ⟨lW0, bW0, fW0⟩ := BW0
  have cW0_0 : W.cell? ⟨w.heap.size, 0, none⟩ = some (.int .i64 0) := bW0 0
  have cW0_1 : W.cell? ⟨w.heap.size, 1, none⟩ = some (.slice none 0 0) := bW0 1
  have cW0_2 : W.cell? ⟨w.heap.size, 2, none⟩ = some (.slice none 0 0) := bW0 2
  clear hW
  have HR := Lib.hid (show BoxAt W w.heap.size #[.int .i64 0, .slice none 0 0, .slice none 0 0] from ⟨lW0, bW0, fW0⟩)
  clear bW0 fW0 cW0_0 cW0_1 cW0_2
  go_wp2_with fail
  refine (l1New_any hx (h1.toExt xW)).mono ?_
  rintro e w1 ⟨g, rfl, hc1⟩
  have hg1 := hc1.1
  have hgl := hc1.lt
  have HR1 := Lib.hid (HR.out.toExt hc1.2.1)
  have hz1 := size_of_ext hc1.2.1
  go_wp2_with fail
  refine (l7Any_any hc1).mono ?_
  rintro e w2 ⟨u0, u1, u2, F, q, rfl, hS, hN, hF, hD, hc2, hC2⟩
  obtain ⟨A2, a2, B2, b2, rfl, rfl, rfl⟩ := sQ_form hS
  have HS := Lib.hid hS
  have HF := Lib.hid (show ∀ b ∈ F, w.heap.size < b from fun b hb => by have := hF b hb; omega)
  have HD := Lib.hid hD
  have HX := Lib.hid (trans_ext xW hc2.2.1)
  obtain ⟨l2, k20, k21, k22, f2⟩ := box3 (HR1.out.chg hC2 (by simp; omega))
  clear hS hN hF hD hc2 hC2 hc1
  go_wp2
  refine bodyPost_ret (v := .agg #[.int .i64 q.1, .slice A2 q.2.1.length a2, .slice B2 q.2.2.length b2]) (by simp [results, Try.results22, go_sem, *]) rfl ?_
  show DfqP w _ _
  have hC9 := (((Chg.refl [w.heap.size] w2).setCell (p := ⟨w.heap.size, 0, none⟩) (.inl (by simp)) (.int .i64 q.1)).setCell (p := ⟨w.heap.size, 1, none⟩) (.inl (by simp)) (.slice A2 q.2.1.length a2)).setCell (p := ⟨w.heap.size, 2, none⟩) (.inl (by simp)) (.slice B2 q.2.2.length b2)
  exact ⟨_, _, _, _, q, rfl, sQ_v _ _ _ (OD.chg HS.out hC9 (fun b hb h => by have := HF.out b hb; rw [List.mem_singleton.1 h] at this; omega)), HD.out, hC9.isExt HX.out (by simp)⟩
set_option maxRecDepth 100000 in
set_option maxHeartbeats 8000000 in
theorem DrawBuildJoinTree_any {A : Option Addr} {c : Nat} {bs : List UInt8} {w : World} (hx : bs.length ≤ 1048576) (h1 : RU w A bs) :
    Calls Try.prog 32 #[.slice A bs.length c] w (DfqP w) := by
  go_enter Try.func32, Try.ntmps32
  go_upto_region 1 with fail
  refine wp_name ?_
  intro W hW
  have xW : ∃ y, W = ext w y := by rw [hW.out]; exact (by refine Chg.isExt (F := []) ?_ (refl_ext _) (by simp); repeat (with_reducible (first | exact Chg.refl _ _ | exact Nat.le_refl _ | exact Chg.ofExt (by assumption) | refine Chg.trans0 ?_ (by assumption) | refine Chg.extS ?_ _ | refine Chg.alloc ?_ _ | refine Chg.drew ?_ | refine Chg.setCellE ?_ ?_ _ | refine le_addk ?_ _ | refine le_ext ?_ | refine le_alloc ?_ _ | refine le_setC ?_ _ _ | refine le_drew ?_ | assumption | (refine Nat.le_of_lt ?_; omega) | omega)))
  have BW0 : BoxAt W (w.heap.size) #[.int .i64 0, .slice none 0 0, .slice none 0 0] := by rw [hW.out]; refine ⟨?_, fun j => ?_, fun j => ?_⟩ <;> go_simp
  obtain ⟨lW0, bW0, fW0⟩ := BW0
  have cW0_0 : W.cell? ⟨w.heap.size, 0, none⟩ = some (.int .i64 0) := bW0 0
  have cW0_1 : W.cell? ⟨w.heap.size, 1, none⟩ = some (.slice none 0 0) := bW0 1
  have cW0_2 : W.cell? ⟨w.heap.size, 2, none⟩ = some (.slice none 0 0) := bW0 2
  clear hW
  have HR := Lib.hid (show BoxAt W w.heap.size #[.int .i64 0, .slice none 0 0, .slice none 0 0] from ⟨lW0, bW0, fW0⟩)
  clear bW0 fW0 cW0_0 cW0_1 cW0_2
  go_wp2_with fail
  refine (l1New_any hx (h1.toExt xW)).mono ?_
  rintro e w1 ⟨g, rfl, hc1⟩
  have hg1 := hc1.1
  have hgl := hc1.lt
  have HR1 := Lib.hid (HR.out.toExt hc1.2.1)
  have hz1 := size_of_ext hc1.2.1
  go_wp2_with fail
  refine (l7Any_any hc1).mono ?_
  rintro e w2 ⟨u0, u1, u2, F, q, rfl, hS, hN, hF, hD, hc2, hC2⟩
  obtain ⟨A2, a2, B2, b2, rfl, rfl, rfl⟩ := sQ_form hS
  have HS := Lib.hid hS
  have HF := Lib.hid (show ∀ b ∈ F, w.heap.size < b from fun b hb => by have := hF b hb; omega)
  have HD := Lib.hid hD
  have HX := Lib.hid (trans_ext xW hc2.2.1)
  obtain ⟨l2, k20, k21, k22, f2⟩ := box3 (HR1.out.chg hC2 (by simp; omega))
  clear hS hN hF hD hc2 hC2 hc1
  go_wp2
  refine bodyPost_ret (v := .agg #[.int .i64 q.1, .slice A2 q.2.1.length a2, .slice B2 q.2.2.length b2]) (by simp [results, Try.results32, go_sem, *]) rfl ?_
  show DfqP w _ _
  have hC9 := (((Chg.refl [w.heap.size] w2).setCell (p := ⟨w.heap.size, 0, none⟩) (.inl (by simp)) (.int .i64 q.1)).setCell (p := ⟨w.heap.size, 1, none⟩) (.inl (by simp)) (.slice A2 q.2.1.length a2)).setCell (p := ⟨w.heap.size, 2, none⟩) (.inl (by simp)) (.slice B2 q.2.2.length b2)
  exact ⟨_, _, _, _, q, rfl, sQ_v _ _ _ (OD.chg HS.out hC9 (fun b hb h => by have := HF.out b hb; rw [List.mem_singleton.1 h] at this; omega)), HD.out, hC9.isExt HX.out (by simp)⟩
def DpqP (w : World) (e : Ending) (w' : World) : Prop := ∃ s : ByteArray, e = .returned (.string s) ∧ s.size ≤ 1000 ∧ ∃ y, w' = ext w y
theorem vname_le (v : Int) : (vname v).size ≤ 1 := vname_size v
theorem fmtQ_le {q : Qd} (h : vqB q = true) : (fmtQ q).size ≤ 200 := by
  obtain ⟨h1, h2, h3⟩ := vqB_facts h
  unfold fmtQ
  rw [if_pos h, ba_size, ba_size, ba_size]
  have e1 := names_size q.2.2
  have e2 := joinF_size 20 (q.2.1.map atomT) 0 ⟨#[]⟩ (fun p hp => by
    obtain ⟨x, hx, rfl⟩ := List.mem_map.1 hp
    exact atomT_size (h3 x hx).1 (h3 x hx).2)
  rw [List.length_map] at e2
  have e3 : (⟨#[40]⟩ : ByteArray).size = 1 := rfl
  have e4 : (⟨#[41, 61]⟩ : ByteArray).size = 2 := rfl
  have e5 : (⟨#[]⟩ : ByteArray).size = 0 := rfl
  omega
set_option maxRecDepth 100000 in
set_option maxHeartbeats 8000000 in
theorem DrawParseQuery_any {A : Option Addr} {c : Nat} {bs : List UInt8} {w : World} (hx : bs.length ≤ 1048576) (h1 : RU w A bs) :
    Calls Try.prog 25 #[.slice A bs.length c] w (DpqP w) := by
  go_enter Try.func25, Try.ntmps25
  go_wp2_with fail
  refine (l1New_any hx h1).mono ?_
  rintro e w1 ⟨g, rfl, hc1⟩
  go_wp2_with fail
  refine (l7Query_any hc1).mono ?_
  rintro e w2 ⟨u0, u1, u2, F, q, rfl, hS, _, _, hQ, hc2, hC2⟩
  obtain ⟨A2, a2, B2, b2, rfl, rfl, rfl⟩ := sQ_form hS
  have hv := sQ_v _ _ _ hS
  have hs := fmtQ_le hQ.v
  go_wp2_with fail
  refine (specFormatQuery_any hQ.q.b hv).mono ?_
  rintro e w3 ⟨rfl, hx3⟩
  obtain ⟨s, hs0⟩ : ∃ s, fmtQ q = s := ⟨_, rfl⟩
  rw [hs0] at hs ⊢
  have hc3 := hc2.toExt hx3
  clear hc1 hc2 hC2 hS hv hQ hs0
  go_wp2_with fail
  refine (l1Below_any hc3 (by omega) (by omega)).mono ?_
  rintro e w4 ⟨x, rfl, hx0, hx1, hc4, hC4⟩
  by_cases e0 : x = 0
  · have q0 : (x == 0) = true := by simp [e0]
    clear e0
    go_wp2_with fail
    refine (l1Spoil_any hc4 (by omega)).mono ?_
    rintro e w5 ⟨t, rfl, ht, hc5, hC5⟩
    go_wp2
    go_ret
    show DpqP w _ _
    exact ⟨t, rfl, by omega, hc5.2.1⟩
  · have q0 : (x == 0) = false := by simp [e0]
    by_cases e1 : x = 1
    · have q1 : (x == 1) = true := by simp [e1]
      have hg4 := hc4.lt
      clear e0 e1
      go_wp2_with fail
      refine (l1Pick_any (hc4.toExt (alloc_ext _ _)) (by omega) (by omega) (BoxAt.new _ _ _) (by intro j hj; rcases j with _ | _ | _ | _ | _ | _ | _ | _ | _ | _ | _ | _ | j <;> first | exact ⟨_, rfl⟩ | omega) (by omega)).mono ?_
      rintro e w5 ⟨t, j, rfl, hj, ht, hc5, hC5⟩
      have hl : t.size ≤ 1000 := by
        rcases j with _ | _ | _ | _ | _ | _ | _ | _ | _ | _ | _ | _ | j <;> first | omega | (simp at ht; subst ht; decide)
      clear ht
      go_wp2
      go_ret
      show DpqP w _ _
      exact ⟨t, rfl, hl, hc5.2.1⟩
    · have q1 : (x == 1) = false := by simp [e1]
      clear e0 e1
      go_wp2
      go_ret
      show DpqP w _ _
      exact ⟨s, rfl, by omega, hc4.2.1⟩
end Go.Proofs.Ytbjpkfgkmilkdaa

/- Contracts on join forests: the laws' helpers, the root, the children. -/
namespace Go.Proofs.Ytbjpkfgkmilkdaa
open Go.RowKit

def jroot (i : Nat) (root : Int) : List Int → Int
  | [] => root
  | p :: ps => if p = -1 then (if 0 ≤ root then -1 else jroot (i + 1) i ps) else jroot (i + 1) root ps
theorem jroot_step {i k : Nat} {root : Int} {xs : List Int} (h : k < xs.length) : jroot i root (xs.drop k) = if xs[k] = -1 then (if 0 ≤ root then -1 else jroot (i + 1) i (xs.drop (k + 1))) else jroot (i + 1) root (xs.drop (k + 1)) := by
  rw [List.drop_eq_getElem_cons h]; rfl

set_option maxHeartbeats 400000 in
theorem JoinTreeRoot_any {A : Option Addr} {c : Nat} {xs : List Int} {w : World} (hx : xs.length ≤ 1000000000) (h1 : RI w A xs) :
    Calls Try.prog 39 #[.agg #[.slice A xs.length c]] w fun e w' => e = .returned (.int .i64 (jroot 0 (-1) xs)) ∧ ∃ y, w' = ext w y := by
  go_enter Try.func39, Try.ntmps39
  go_wp2
  go_loop [3, 9] (fun r i => ∃ (k : Nat) (root : Int), i = .int .i64 k ∧ r = .int .i64 root ∧ k ≤ xs.length ∧ jroot k root (xs.drop k) = jroot 0 (-1) xs) (fun _ i => xs.length - (intOf i).toNat)
  case atStart => exact ⟨0, -1, rfl, rfl, by omega, by simp⟩
  case round =>
    obtain ⟨k, root, rfl, rfl, hk, hj⟩ := hrel
    have Hj := Lib.hid hj
    clear hj
    by_cases hlt : k < xs.length
    · obtain ⟨b, o, rfl, hb, hc⟩ := h1.atI hlt
      go_wp2
      · have e := Hj.out
        rw [jroot_step hlt, if_neg (by simpa using ‹(xs[k] != -1) = true›)] at e
        exact ⟨⟨k + 1, root, by go_num, rfl, by omega, e⟩, by simp [intOf]; omega⟩
      · have e := Hj.out
        rw [jroot_step hlt, if_pos (by simpa using ‹(xs[k] != -1) = false›), if_pos ‹0 ≤ root›] at e
        go_ret
        exact ⟨by rw [← e]; rfl, (by refine Chg.isExt (F := []) ?_ (refl_ext _) (by simp); repeat (with_reducible (first | exact Chg.refl _ _ | exact Nat.le_refl _ | exact Chg.ofExt (by assumption) | refine Chg.trans0 ?_ (by assumption) | refine Chg.extS ?_ _ | refine Chg.alloc ?_ _ | refine Chg.drew ?_ | refine Chg.setCellE ?_ ?_ _ | refine le_addk ?_ _ | refine le_ext ?_ | refine le_alloc ?_ _ | refine le_setC ?_ _ _ | refine le_drew ?_ | assumption | (refine Nat.le_of_lt ?_; omega) | omega)))⟩
      · have e := Hj.out
        rw [jroot_step hlt, if_pos (by simpa using ‹(xs[k] != -1) = false›), if_neg (by omega)] at e
        exact ⟨⟨k + 1, k, by go_num, rfl, by omega, e⟩, by simp [intOf]; omega⟩
    · go_wp2
      go_ret
      have e := Hj.out
      rw [List.drop_eq_nil_of_le (by omega)] at e
      exact ⟨by rw [← e]; rfl, (by refine Chg.isExt (F := []) ?_ (refl_ext _) (by simp); repeat (with_reducible (first | exact Chg.refl _ _ | exact Nat.le_refl _ | exact Chg.ofExt (by assumption) | refine Chg.trans0 ?_ (by assumption) | refine Chg.extS ?_ _ | refine Chg.alloc ?_ _ | refine Chg.drew ?_ | refine Chg.setCellE ?_ ?_ _ | refine le_addk ?_ _ | refine le_ext ?_ | refine le_alloc ?_ _ | refine le_setC ?_ _ _ | refine le_drew ?_ | assumption | (refine Nat.le_of_lt ?_; omega) | omega)))⟩

set_option maxHeartbeats 400000 in
theorem specJoinTreeRoot_any {A : Option Addr} {c : Nat} {xs : List Int} {w : World} (hx : xs.length ≤ 1000000000) (h1 : RI w A xs) :
    Calls Try.prog 85 #[.agg #[.slice A xs.length c]] w fun e w' => e = .returned (.int .i64 (jroot 0 (-1) xs)) ∧ ∃ y, w' = ext w y := by
  go_enter Try.func85, Try.ntmps85
  go_wp2
  go_loop [3, 4] (fun r i => ∃ (k : Nat) (root : Int), i = .int .i64 k ∧ r = .int .i64 root ∧ k ≤ xs.length ∧ jroot k root (xs.drop k) = jroot 0 (-1) xs) (fun _ i => xs.length - (intOf i).toNat)
  case atStart => exact ⟨0, -1, rfl, rfl, by omega, by simp⟩
  case round =>
    obtain ⟨k, root, rfl, rfl, hk, hj⟩ := hrel
    have Hj := Lib.hid hj
    clear hj
    by_cases hlt : k < xs.length
    · obtain ⟨b, o, rfl, hb, hc⟩ := h1.atI hlt
      go_wp2
      · have e := Hj.out
        rw [jroot_step hlt, if_pos (by simpa using ‹(xs[k] == -1) = true›), if_pos ‹0 ≤ root›] at e
        go_ret
        exact ⟨by rw [← e]; rfl, (by refine Chg.isExt (F := []) ?_ (refl_ext _) (by simp); repeat (with_reducible (first | exact Chg.refl _ _ | exact Nat.le_refl _ | exact Chg.ofExt (by assumption) | refine Chg.trans0 ?_ (by assumption) | refine Chg.extS ?_ _ | refine Chg.alloc ?_ _ | refine Chg.drew ?_ | refine Chg.setCellE ?_ ?_ _ | refine le_addk ?_ _ | refine le_ext ?_ | refine le_alloc ?_ _ | refine le_setC ?_ _ _ | refine le_drew ?_ | assumption | (refine Nat.le_of_lt ?_; omega) | omega)))⟩
      · have e := Hj.out
        rw [jroot_step hlt, if_pos (by simpa using ‹(xs[k] == -1) = true›), if_neg (by omega)] at e
        exact ⟨⟨k + 1, k, by go_num, rfl, by omega, e⟩, by simp [intOf]; omega⟩
      · have e := Hj.out
        rw [jroot_step hlt, if_neg (by simpa using ‹(xs[k] == -1) = false›)] at e
        exact ⟨⟨k + 1, root, by go_num, rfl, by omega, e⟩, by simp [intOf]; omega⟩
    · go_wp2
      go_ret
      have e := Hj.out
      rw [List.drop_eq_nil_of_le (by omega)] at e
      exact ⟨by rw [← e]; rfl, (by refine Chg.isExt (F := []) ?_ (refl_ext _) (by simp); repeat (with_reducible (first | exact Chg.refl _ _ | exact Nat.le_refl _ | exact Chg.ofExt (by assumption) | refine Chg.trans0 ?_ (by assumption) | refine Chg.extS ?_ _ | refine Chg.alloc ?_ _ | refine Chg.drew ?_ | refine Chg.setCellE ?_ ?_ _ | refine le_addk ?_ _ | refine le_ext ?_ | refine le_alloc ?_ _ | refine le_setC ?_ _ _ | refine le_drew ?_ | assumption | (refine Nat.le_of_lt ?_; omega) | omega)))⟩

/-! the children -/
def chl (k : Nat) (n : Int) : List Int → List Int
  | [] => []
  | p :: ps => if p = n ∧ 0 ≤ n then (k : Int) :: chl (k + 1) n ps else chl (k + 1) n ps
theorem chl_step {i k : Nat} {n : Int} {xs : List Int} (h : k < xs.length) : chl i n (xs.drop k) = if xs[k] = n ∧ 0 ≤ n then (i : Int) :: chl (i + 1) n (xs.drop (k + 1)) else chl (i + 1) n (xs.drop (k + 1)) := by
  rw [List.drop_eq_getElem_cons h]; rfl
theorem chl_length (n : Int) : ∀ (k : Nat) (xs : List Int), (chl k n xs).length ≤ xs.length
  | _, [] => by simp [chl]
  | k, x :: xs => by
    have := chl_length n (k + 1) xs
    unfold chl
    split <;> simp <;> omega

set_option maxHeartbeats 400000 in
theorem JoinTreeChildren_any {A : Option Addr} {c : Nat} {xs : List Int} {n : Int} {w : World} (hx : xs.length ≤ 1000000000) (h1 : RI w A xs) :
    Calls Try.prog 40 #[.agg #[.slice A xs.length c], .int .i64 n] w fun e w' => ∃ v F, e = .returned v ∧ (∃ y, w' = ext w y) ∧ SV 3 1 sI w' v (chl 0 n xs) F ∧ ∀ b ∈ F, w.heap.size ≤ b := by
  go_enter Try.func40, Try.ntmps40
  go_wp2
  refine wp_name ?_
  intro W hW
  have xW : ∃ y, W = ext w y := by rw [hW.out]; exact (by refine Chg.isExt (F := []) ?_ (refl_ext _) (by simp); repeat (with_reducible (first | exact Chg.refl _ _ | exact Nat.le_refl _ | exact Chg.ofExt (by assumption) | refine Chg.trans0 ?_ (by assumption) | refine Chg.extS ?_ _ | refine Chg.alloc ?_ _ | refine Chg.drew ?_ | refine Chg.setCellE ?_ ?_ _ | refine le_addk ?_ _ | refine le_ext ?_ | refine le_alloc ?_ _ | refine le_setC ?_ _ _ | refine le_drew ?_ | assumption | (refine Nat.le_of_lt ?_; omega) | omega)))
  have BW0 : BoxAt W (w.heap.size) #[.slice A xs.length c] := by rw [hW.out]; refine ⟨?_, fun j => ?_, fun j => ?_⟩ <;> go_simp
  obtain ⟨lW0, bW0, fW0⟩ := BW0
  clear hW
  have h1 := h1.toExt xW
  go_loopw [5, 11] (fun v i wr => ∃ (k : Nat) (ds : List Int) (F : List Nat), i = .int .i64 k ∧ k ≤ xs.length ∧ SV 3 1 sI wr v ds F ∧ (∀ b ∈ F, W.heap.size ≤ b) ∧ (∃ y, wr = ext W y) ∧ ds.length ≤ k ∧ ds ++ chl k n (xs.drop k) = chl 0 n xs) (fun _ i _ => xs.length - (intOf i).toNat)
  case atStart => exact ⟨0, [], [], rfl, by omega, SV.nil, by simp, refl_ext W, by simp, by simp⟩
  case round =>
    obtain ⟨k, ds, F, rfl, hk, hS, hF, ⟨y, rfl⟩, hl, hj⟩ := hrel
    have HF := Lib.hid hF
    by_cases hlt : k < xs.length
    · obtain ⟨b, o, rfl, hb, hc⟩ := h1.atI hlt
      rw [chl_step hlt] at hj
      by_cases hp : xs[k] = n ∧ 0 ≤ n
      · rw [if_pos hp] at hj
        have Hj := Lib.hid hj
        have hp1 : (xs[k] == n) = true := by simp [hp.1]
        have hp2 := hp.2
        clear hj hF hp
        go_wp2_with (at_builtin; refine wpList_appI _ rfl _ _ _ rfl tI rfl rfl rfl hS (by omega) (by omega) ?_; intro v' w' F' hS2 hC2 hF2)
        exact ⟨⟨k + 1, ds ++ [(k : Int)], F', by go_num, by omega, hS2, newer HF.out size_ext hF2, hC2.isExt ⟨_, rfl⟩ HF.out, by simp; omega, by simpa using Hj.out⟩, by simp [intOf]; omega⟩
      · rw [if_neg hp] at hj
        have Hj := Lib.hid hj
        clear hj hF
        by_cases hp1 : xs[k] = n
        · have hp2 : n < 0 := by omega
          have hp3 : (xs[k] == n) = true := by simp [hp1]
          clear hp hp1
          go_wp2
          exact ⟨⟨k + 1, ds, F, by go_num, by omega, hS, HF.out, ⟨_, rfl⟩, by omega, Hj.out⟩, by simp [intOf]; omega⟩
        · have hp3 : (xs[k] == n) = false := by simp [hp1]
          clear hp hp1
          go_wp2
          exact ⟨⟨k + 1, ds, F, by go_num, by omega, hS, HF.out, ⟨_, rfl⟩, by omega, Hj.out⟩, by simp [intOf]; omega⟩
    · rw [List.drop_eq_nil_of_le (by omega), chl, List.append_nil] at hj
      have Hj := Lib.hid hj
      clear hj hF
      go_wp2
      go_ret
      exact ⟨_, F, rfl, trans_ext xW ⟨_, rfl⟩, by rw [← Hj.out]; exact hS, fun b hb => Nat.le_trans (size_of_ext xW) (HF.out b hb)⟩

end Go.Proofs.Ytbjpkfgkmilkdaa

/- Atoms removed one by one, each attached to another: the plain way of it. No program in it. -/
namespace Go.Proofs.Ytbjpkfgkmilkdaa
open Go.RowKit

/-- for all of f numbers from k on -/
def allF (p : Nat → Bool) : Nat → Nat → Bool
  | 0, _ => true
  | f + 1, k => p k && allF p f (k + 1)
/-- the first of f numbers from k on -/
def findF (p : Nat → Bool) : Nat → Nat → Option Nat
  | 0, _ => none
  | f + 1, k => if p k = true then some k else findF p f (k + 1)
theorem allF_step {p : Nat → Bool} {n k : Nat} (h : k < n) : allF p (n - k) k = (p k && allF p (n - (k + 1)) (k + 1)) := by
  rw [show n - k = (n - (k + 1)) + 1 by omega, allF]
theorem allF_end {p : Nat → Bool} {n k : Nat} (h : ¬ k < n) : allF p (n - k) k = true := by
  rw [show n - k = 0 by omega, allF]
theorem findF_step {p : Nat → Bool} {n k : Nat} (h : k < n) : findF p (n - k) k = if p k = true then some k else findF p (n - (k + 1)) (k + 1) := by
  rw [show n - k = (n - (k + 1)) + 1 by omega, findF]
theorem findF_end {p : Nat → Bool} {n k : Nat} (h : ¬ k < n) : findF p (n - k) k = none := by
  rw [show n - k = 0 by omega, findF]
theorem allF_iff {p : Nat → Bool} : ∀ (f k : Nat), allF p f k = true ↔ ∀ j, k ≤ j → j < k + f → p j = true
  | 0, k => by simp [allF]; omega
  | f + 1, k => by
    rw [allF, Bool.and_eq_true, allF_iff f (k + 1)]
    constructor
    · rintro ⟨h1, h2⟩ j hj hj2
      by_cases e : j = k
      · subst e; exact h1
      · exact h2 j (by omega) (by omega)
    · intro h
      exact ⟨h k (by omega) (by omega), fun j h1 h2 => h j (by omega) (by omega)⟩
theorem findF_some {p : Nat → Bool} {i : Nat} : ∀ (f k : Nat), findF p f k = some i → k ≤ i ∧ i < k + f ∧ p i = true
  | 0, k, h => by simp [findF] at h
  | f + 1, k, h => by
    rw [findF] at h
    split at h
    · rename_i hp
      injection h with h
      subst h
      exact ⟨by omega, by omega, hp⟩
    · have := findF_some f (k + 1) h
      exact ⟨by omega, by omega, this.2.2⟩
theorem findF_congr {p q : Nat → Bool} : ∀ (f k : Nat), (∀ j, k ≤ j → j < k + f → p j = q j) → findF p f k = findF q f k
  | 0, _, _ => rfl
  | f + 1, k, h => by
    rw [findF, findF, h k (by omega) (by omega), findF_congr f (k + 1) fun j h1 h2 => h j (by omega) (by omega)]

def vof (ats : List At) (j : Nat) : List Int := (ats.getD j (⟨#[]⟩, [])).2
theorem vof_get {ats : List At} {j : Nat} (h : j < ats.length) : ats[j].2 = vof ats j := by
  unfold vof; rw [List.getD_eq_getElem?_getD, List.getElem?_eq_getElem h]; rfl
/-- an atom other than i, not yet struck, in which v occurs -/
def blk (ats : List At) (gone : List Bool) (i : Nat) (v : Int) (j : Nat) : Bool := decide (j ≠ i) && !gone.getD j true && decide (v ∈ vof ats j)
def okV (ats : List At) (gone : List Bool) (i k : Nat) (v : Int) : Bool := allF (fun j => !blk ats gone i v j || decide (v ∈ vof ats k)) ats.length 0
def earOK (ats : List At) (gone : List Bool) (i k : Nat) : Bool := (vof ats i).all (okV ats gone i k)
def canK (ats : List At) (gone : List Bool) (i k : Nat) : Bool := decide (k ≠ i) && !gone.getD k true && earOK ats gone i k
def ear (ats : List At) (gone : List Bool) (i : Nat) : Option Nat := findF (canK ats gone i) ats.length 0
def canI (ats : List At) (gone : List Bool) (i : Nat) : Bool := !gone.getD i true && (ear ats gone i).isSome
def stepG (ats : List At) (gone : List Bool) : Option Nat := findF (canI ats gone) ats.length 0
def oInt? (o : Option Nat) : Int := match o with | some k => k | none => -1
def gyo (ats : List At) : Nat → List Int → List Int → List Bool → List Int × List Int
  | 0, rem, par, _ => (rem, par)
  | f + 1, rem, par, gone => match stepG ats gone with
    | none => (rem, par)
    | some i => gyo ats f (rem ++ [(i : Int)]) (par.set i (oInt? (ear ats gone i))) (gone.set i true)
def leftN (gone : List Bool) : Nat := gone.countP (! ·)
def gyoQ (ats : List At) : List Int × List Int := gyo ats ats.length [] (List.replicate ats.length (-1)) (List.replicate ats.length false)
theorem leftN_set : ∀ {gone : List Bool} {i : Nat}, gone.getD i true = false → leftN gone = leftN (gone.set i true) + 1
  | [], i, h => by simp at h
  | b :: bs, 0, h => by
    simp at h
    subst h
    simp [leftN]
  | b :: bs, i + 1, h => by
    have := leftN_set (gone := bs) (i := i) (by simpa using h)
    simp only [leftN, List.countP_cons, List.set_cons_succ] at this ⊢
    omega
theorem stepG_some {ats : List At} {gone : List Bool} {i : Nat} (h : stepG ats gone = some i) : i < ats.length ∧ gone.getD i true = false ∧ ∃ k, ear ats gone i = some k ∧ k < ats.length := by
  obtain ⟨_, h1, h2⟩ := findF_some _ _ h
  unfold canI at h2
  simp only [Bool.and_eq_true, Bool.not_eq_true', Option.isSome_iff_exists] at h2
  obtain ⟨h3, k, hk⟩ := h2
  have := findF_some _ _ hk
  exact ⟨by omega, h3, k, hk, by omega⟩
theorem gyo_none {ats : List At} {gone : List Bool} {rem par : List Int} (h : stepG ats gone = none) : ∀ f, gyo ats f rem par gone = (rem, par)
  | 0 => rfl
  | f + 1 => by rw [gyo, h]
theorem gyo_some {ats : List At} {gone : List Bool} {rem par : List Int} {i k : Nat} (h : stepG ats gone = some i) (hk : ear ats gone i = some k) :
    gyo ats (leftN gone) rem par gone = gyo ats (leftN (gone.set i true)) (rem ++ [(i : Int)]) (par.set i (k : Int)) (gone.set i true) := by
  obtain ⟨_, h2, _⟩ := stepG_some h
  rw [leftN_set h2, gyo, h]
  show gyo _ _ _ (par.set i (oInt? (ear ats gone i))) _ = _
  rw [hk]
  rfl
theorem leftN_rep (n : Nat) : leftN (List.replicate n false) = n := by simp [leftN, List.countP_replicate]
theorem gyo_len {ats : List At} : ∀ (f : Nat) (rem par : List Int) (gone : List Bool), (gyo ats f rem par gone).1.length ≤ rem.length + f ∧ (gyo ats f rem par gone).2.length = par.length
  | 0, rem, par, gone => by simp [gyo]
  | f + 1, rem, par, gone => by
    rw [gyo]
    split
    · exact ⟨by simp, rfl⟩
    · rename_i i _
      have := gyo_len (ats := ats) f (rem ++ [(i : Int)]) (par.set i (oInt? (ear ats gone i))) (gone.set i true)
      simp at this
      exact ⟨by omega, this.2⟩
/-! the reference's test -/
def okS (ats : List At) (gone : List Bool) (i k : Nat) (v : Nat) : Bool := !decide ((v : Int) ∈ vof ats i) || !(!allF (fun j => !blk ats gone i v j) ats.length 0) || decide ((v : Int) ∈ vof ats k)
theorem earOK_spec {ats : List At} {gone : List Bool} {i k n : Nat} (h : ∀ v ∈ vof ats i, 0 ≤ v ∧ v < n) : allF (okS ats gone i k) n 0 = earOK ats gone i k := by
  rw [Bool.eq_iff_iff, allF_iff]
  unfold earOK
  rw [List.all_eq_true]
  constructor
  · intro h1 v hv
    have hb := h v hv
    obtain ⟨m, rfl⟩ : ∃ m : Nat, v = m := ⟨v.toNat, by omega⟩
    have h2 := h1 m (by omega) (by omega)
    unfold okS at h2
    unfold okV
    rw [allF_iff]
    intro j hj hj2
    simp only [hv, decide_true, Bool.not_true, Bool.false_or, Bool.not_not, Bool.or_eq_true, allF_iff] at h2
    rcases h2 with h2 | h2
    · rw [h2 j hj hj2]; rfl
    · rw [h2]; simp
  · intro h1 v _ _
    unfold okS
    by_cases hv : (v : Int) ∈ vof ats i
    · have h2 := h1 v hv
      unfold okV at h2
      rw [allF_iff] at h2
      by_cases hk : (v : Int) ∈ vof ats k
      · simp [hk]
      · simp only [hk, decide_false, Bool.or_false] at h2
        simp only [hv, decide_true, Bool.not_true, Bool.false_or, Bool.not_not, hk, decide_false, Bool.or_false, allF_iff]
        exact h2
    · simp [hv]
end Go.Proofs.Ytbjpkfgkmilkdaa

/- Which parents make a tree: the program's way and the reference's give the same. No program in it. -/
namespace Go.Proofs.Ytbjpkfgkmilkdaa
open Go.RowKit

/-- from 'at' up the parents, f steps at most: inside the bounds all the way, and at the top -/
def clB (ps : List Int) : Nat → Int → Bool
  | 0, a => decide (a < 0)
  | f + 1, a => if a < 0 then true else inB (ps.getD a.toNat 0) (-1) ((ps.length : Int) - 1) && clB ps f (ps.getD a.toNat 0)
def rootsG : Int → List Int → Int
  | r, [] => r
  | r, p :: ps => rootsG (if p < 0 then r + 1 else r) ps
def upB (ps : List Int) (i : Nat) : Bool := inB (ps.getD i 0) (-1) ((ps.length : Int) - 1) && clB ps (ps.length + 1) i
def treeB (ps : List Int) : Bool := allF (upB ps) ps.length 0 && decide (rootsG 0 ps = 1)
/-- the reference's path -/
def pth (ps : List Int) : Nat → Int → List Int
  | 0, _ => []
  | f + 1, k => if inB k 0 ((ps.length : Int) - 1) = true then k :: pth ps f (ps.getD k.toNat 0) else []
def pathB (ps : List Int) (i : Nat) : Bool := decide ((pth ps (ps.length + 1) i).length ≤ ps.length) && decide ((pth ps (ps.length + 1) i).getD ((pth ps (ps.length + 1) i).length - 1) 0 = jroot 0 (-1) ps)
def treeS (ps : List Int) : Bool := decide (0 ≤ jroot 0 (-1) ps) && allF (pathB ps) ps.length 0
def allLists {α : Type} (al : List α) : Nat → List (List α)
  | 0 => [[]]
  | n + 1 => al.flatMap fun a => (allLists al n).map (a :: ·)
theorem mem_allLists {α : Type} {al : List α} : ∀ {l : List α}, (∀ x ∈ l, x ∈ al) → l ∈ allLists al l.length
  | [], _ => by simp [allLists]
  | x :: l, h => by
    have ih := mem_allLists (l := l) fun y hy => h y (by simp [hy])
    rw [List.length_cons, allLists, List.mem_flatMap]
    exact ⟨x, h x (by simp), List.mem_map.2 ⟨l, ih, rfl⟩⟩
def chkT (al : List Int) (n : Nat) : Bool := (allLists al n).all fun ps => treeB ps == treeS ps
theorem chkT1 : chkT [-1, 0] 1 = true := by decide +kernel
theorem chkT2 : chkT [-1, 0, 1] 2 = true := by decide +kernel
theorem chkT3 : chkT [-1, 0, 1, 2] 3 = true := by decide +kernel
theorem chkT4 : chkT [-1, 0, 1, 2, 3] 4 = true := by decide +kernel
theorem jroot_at : ∀ (xs : List Int) (i : Nat) (root : Int), 0 ≤ jroot i root xs → 0 ≤ root ∧ jroot i root xs = root ∧ (∀ x ∈ xs, x ≠ -1) ∨ root < 0 ∧ ∃ j, j < xs.length ∧ jroot i root xs = (i + j : Nat) ∧ xs.getD j 0 = -1
  | [], i, root, h => by
    exact .inl ⟨h, rfl, by simp⟩
  | x :: xs, i, root, h => by
    unfold jroot at h ⊢
    split at h
    · rename_i hx
      subst hx
      rw [if_pos rfl]
      split at h
      · omega
      · rename_i hr
        rw [if_neg hr]
        rcases jroot_at xs (i + 1) i h with ⟨h1, h2, h3⟩ | ⟨h1, _⟩
        · exact .inr ⟨by omega, 0, by simp, by rw [h2]; simp, rfl⟩
        · omega
    · rename_i hx
      rw [if_neg hx]
      rcases jroot_at xs (i + 1) root h with ⟨h1, h2, h3⟩ | ⟨h1, j, hj, h2, h3⟩
      · exact .inl ⟨h1, h2, fun y hy => by rcases List.mem_cons.1 hy with e | e; · rw [e]; exact hx
                                           · exact h3 y e⟩
      · exact .inr ⟨h1, j + 1, by simpa using hj, by rw [h2]; congr 1; omega, by simpa using h3⟩
theorem jroot_lo : ∀ (xs : List Int) (i : Nat) (root : Int), -1 ≤ root → -1 ≤ jroot i root xs
  | [], _, _, h => h
  | x :: xs, i, root, h => by
    unfold jroot
    split
    · split
      · omega
      · exact jroot_lo xs (i + 1) i (by omega)
    · exact jroot_lo xs (i + 1) root h
theorem out_false {ps : List Int} {i : Nat} (hi : i < ps.length) (h : ¬ (-1 ≤ ps.getD i 0 ∧ ps.getD i 0 ≤ (ps.length : Int) - 1)) : treeB ps = false ∧ treeS ps = false := by
  constructor
  · have : allF (upB ps) ps.length 0 = false := by
      rw [← Bool.not_eq_true, allF_iff]
      intro hc
      have := hc i (by omega) (by omega)
      unfold upB at this
      rw [Bool.and_eq_true] at this
      exact h (inB_t this.1)
    unfold treeB
    rw [this]; rfl
  · rw [← Bool.not_eq_true]
    unfold treeS
    rw [Bool.and_eq_true, allF_iff, decide_eq_true_eq]
    rintro ⟨h1, h2⟩
    have h3 := h2 i (by omega) (by omega)
    unfold pathB at h3
    rw [Bool.and_eq_true, decide_eq_true_eq, decide_eq_true_eq] at h3
    have hp : pth ps (ps.length + 1) (i : Int) = [(i : Int)] := by
      rw [pth, if_pos (by unfold inB; rw [decide_eq_true_eq]; omega), show ((i : Int)).toNat = i by omega]
      congr 1
      cases hn : ps.length with
      | zero => omega
      | succ n =>
        rw [pth, if_neg]
        intro hb
        have := inB_t hb
        omega
    rw [hp] at h3
    rcases jroot_at ps 0 (-1) h1 with ⟨h4, _⟩ | ⟨_, j, hj, h5, h6⟩
    · omega
    · have h7 : ((i : Int)) = (j : Nat) := by
        have := h3.2
        rw [h5] at this
        simpa using this
      have : i = j := by omega
      subst this
      omega
theorem tree_eq {ps : List Int} (h1 : 1 ≤ ps.length) (h2 : ps.length ≤ 4) : treeB ps = treeS ps := by
  by_cases h : ∀ x ∈ ps, -1 ≤ x ∧ x ≤ (ps.length : Int) - 1
  · have key : ∀ al : List Int, chkT al ps.length = true → (∀ x ∈ ps, x ∈ al) → treeB ps = treeS ps := fun al hc hm => by
      unfold chkT at hc
      rw [List.all_eq_true] at hc
      have := hc ps (mem_allLists hm)
      simpa using this
    have hl : ps.length = 1 ∨ ps.length = 2 ∨ ps.length = 3 ∨ ps.length = 4 := by omega
    rcases hl with e | e | e | e
    · refine key [-1, 0] (by rw [e]; exact chkT1) fun x hx => ?_
      have := h x hx
      simp; omega
    · refine key [-1, 0, 1] (by rw [e]; exact chkT2) fun x hx => ?_
      have := h x hx
      simp; omega
    · refine key [-1, 0, 1, 2] (by rw [e]; exact chkT3) fun x hx => ?_
      have := h x hx
      simp; omega
    · refine key [-1, 0, 1, 2, 3] (by rw [e]; exact chkT4) fun x hx => ?_
      have := h x hx
      simp; omega
  · obtain ⟨x, hx⟩ := Classical.not_forall.1 h
    obtain ⟨hm, hx⟩ := Classical.not_imp.1 hx
    obtain ⟨i, hi, e⟩ := List.getElem_of_mem hm
    have := out_false (ps := ps) hi (by rw [List.getD_eq_getElem?_getD, List.getElem?_eq_getElem hi, e]; exact hx)
    rw [this.1, this.2]
/-- how many tops a variable has -/
def topB (ats : List At) (ps : List Int) (v : Int) (i : Nat) : Bool := decide (v ∈ vof ats i) && (decide (ps.getD i 0 < 0) || !decide (v ∈ vof ats (ps.getD i 0).toNat))
def topsG (ats : List At) (ps : List Int) (v : Int) : Nat → Nat → Int → Int
  | 0, _, t => t
  | f + 1, i, t => topsG ats ps v f (i + 1) (if topB ats ps v i = true then t + 1 else t)
def tops (ats : List At) (ps : List Int) (v : Int) : Int := topsG ats ps v ats.length 0 0
theorem topsG_step {ats : List At} {ps : List Int} {v t : Int} {n k : Nat} (h : k < n) : topsG ats ps v (n - k) k t = topsG ats ps v (n - (k + 1)) (k + 1) (if topB ats ps v k = true then t + 1 else t) := by
  rw [show n - k = (n - (k + 1)) + 1 by omega, topsG]
theorem topsG_end {ats : List At} {ps : List Int} {v t : Int} {n k : Nat} (h : ¬ k < n) : topsG ats ps v (n - k) k t = t := by
  rw [show n - k = 0 by omega, topsG]
def jtB (n : Nat) (ats : List At) (ps : List Int) : Bool := decide (ps.length = ats.length) && treeB ps && allF (fun v => decide (tops ats ps v = 1)) n 0
end Go.Proofs.Ytbjpkfgkmilkdaa

/- The first atom to which an atom can be attached: the program's closure. -/
namespace Go.Proofs.Ytbjpkfgkmilkdaa
open Go.RowKit

theorem RV.atA' {w : World} {b o : Nat} {d : List At} (h : RV 2 vAt w (some ⟨b, o, none⟩) d) {k : Nat} (hk : k < d.length) : b < w.heap.size ∧ ∃ s A' c', w.cell? ⟨b, o + k * 2, none⟩ = some (.string s) ∧ w.cell? ⟨b, o + k * 2 + 1, none⟩ = some (.slice A' (vof d k).length c') ∧ RI w A' (vof d k) := by
  obtain ⟨b', o', A', c', e, h1, h2, h3, h4⟩ := h.atA hk
  injection e with e
  injection e with e1 e2 _
  subst e1 e2
  rw [vof_get hk] at h3 h4
  exact ⟨h1, _, A', c', h2, h3, h4⟩
theorem RV.place {w : World} {α : Type} {size : Nat} {E : VE α} {A : Option Addr} {d : List α} (h : RV size E w A d) (hk : 0 < d.length) : ∃ b o, A = some ⟨b, o, none⟩ := by
  obtain ⟨b, o, e, _⟩ := h (by intro e; rw [e] at hk; simp at hk)
  exact ⟨b, o, e⟩
theorem RV.at0 {w : World} {g : Nat} {d : List Bool} (h : RB w (some ⟨g, 0, none⟩) d) {k : Nat} (hk : k < d.length) : g < w.heap.size ∧ w.cell? ⟨g, k, none⟩ = some (.bool (d.getD k true)) := by
  obtain ⟨b', o', e, h1, h2⟩ := h.atB hk
  injection e with e
  injection e with e1 e2 _
  subst e1 e2
  rw [Nat.zero_add] at h2
  exact ⟨h1, by rw [h2, List.getD_eq_getElem?_getD, List.getElem?_eq_getElem hk]; rfl⟩
theorem box1 {w : World} {B : Nat} {a : Value} (h : BoxAt w B #[a]) : B < w.heap.size ∧ w.cell? ⟨B, 0, none⟩ = some a ∧ ∀ j, w.frozen? ⟨B, j, none⟩ = false := ⟨h.1, h.2.1 0, h.2.2⟩
theorem cellX {w wr : World} {b o : Nat} {u : Value} (hy : ∃ y, wr = ext w y) (hb : b < w.heap.size) (h : w.cell? ⟨b, o, none⟩ = some u) : wr.cell? ⟨b, o, none⟩ = some u := by
  obtain ⟨y, rfl⟩ := hy
  rw [cell_ext hb]; exact h
theorem ltX {w wr : World} {b : Nat} (hy : ∃ y, wr = ext w y) (hb : b < w.heap.size) : b < wr.heap.size := Nat.lt_of_lt_of_le hb (size_of_ext hy)
theorem bool3 {t0 o r e u : Bool} (h : (t0 && (o && r)) = e) (k : u = (t0 && o)) : (u && r) = e := by
  subst h k
  cases t0 <;> simp
set_option maxRecDepth 100000 in
set_option maxHeartbeats 8000000 in
theorem ear_any {i bn bg bq g : Nat} {z : Int} {ats : List At} {gone : List Bool} {A B : Option Addr} {c e1 m cg : Nat} {w : World} (hx : ats.length ≤ 1000) (hxl : ∀ x ∈ ats, x.2.length ≤ 100000000) (hi : i < ats.length) (hgl : gone.length = ats.length)
    (BN : BoxAt w bn #[.int .i64 ats.length]) (BG : BoxAt w bg #[.slice (some ⟨g, 0, none⟩) ats.length cg]) (BQ : BoxAt w bq #[.int .i64 z, .slice A ats.length c, .slice B m e1]) (hA : RV 2 vAt w A ats) (hB : RB w (some ⟨g, 0, none⟩) gone) :
    Calls Try.prog 106 #[.int .i64 i, .pointer (some ⟨bn, 0, none⟩), .pointer (some ⟨bg, 0, none⟩), .pointer (some ⟨bq, 0, none⟩)] w fun e w' => e = .returned (.int .i64 (oInt? (ear ats gone i))) ∧ ∃ y, w' = ext w y := by
  have Hx : Hid (∀ j, (vof ats j).length ≤ 100000000) := Lib.hid fun j => by
    by_cases hj : j < ats.length
    · rw [← vof_get hj]; exact hxl _ (List.getElem_mem hj)
    · unfold vof
      rw [List.getD_eq_getElem?_getD, List.getElem?_eq_none (by omega)]
      simp
  have HG := Lib.hid hgl
  obtain ⟨b, o, rfl⟩ := hA.place (by omega)
  clear hxl hgl
  go_enter Try.func106, Try.ntmps106
  go_wp2
  go_loopw [6] (fun k wr => ∃ k' : Nat, k = .int .i64 k' ∧ k' ≤ ats.length ∧ (∃ y, wr = ext w y) ∧ Hid (findF (canK ats gone i) (ats.length - k') k' = ear ats gone i)) (fun k _ => ats.length - (intOf k).toNat)
  case atStart => exact ⟨0, rfl, by omega, refl_ext w, Lib.hid rfl⟩
  case round =>
    obtain ⟨k, rfl, hk, hy, Hj⟩ := hrel
    obtain ⟨ln, an, fn⟩ := box1 (BN.toExt hy)
    obtain ⟨lg, ag, fg⟩ := box1 (BG.toExt hy)
    obtain ⟨lq, aq, aq', aq'', fq⟩ := box3 (BQ.toExt hy)
    by_cases hlt : k < ats.length
    · obtain ⟨gl, gc⟩ := (hB.toExt hy).at0 (k := k) (by rw [HG.out]; exact hlt)
      obtain ⟨t1, ht1⟩ : ∃ t, decide (k ≠ i) = t := ⟨_, rfl⟩
      obtain ⟨t2, ht2⟩ : ∃ t, gone.getD k true = t := ⟨_, rfl⟩
      have q1 : ((k : Int) == (i : Int)) = !t1 := by rw [← ht1]; by_cases q : k = i <;> simp [q]; omega
      rw [ht2] at gc
      have e := Hj.out
      rw [findF_step hlt, show canK ats gone i k = (t1 && !t2 && earOK ats gone i k) by unfold canK; rw [ht1, ht2]] at e
      have He := Lib.hid e
      clear e ht1 ht2 Hj
      cases t1 with
      | false =>
        go_wp2
        exact ⟨⟨k + 1, by go_num, by omega, hy, Lib.hid (by simpa using He.out)⟩, by simp [intOf]; omega⟩
      | true =>
        cases t2 with
        | true =>
          go_wp2
          exact ⟨⟨k + 1, by go_num, by omega, hy, Lib.hid (by simpa using He.out)⟩, by simp [intOf]; omega⟩
        | false =>
          obtain ⟨lb, s0, A0, c0, as0, av0, hV0⟩ := hA.atA' hi
          have hx0 := Hx.out i
          have HE0 := Lib.hid (show (vof ats i).all (okV ats gone i k) = earOK ats gone i k from rfl)
          obtain ⟨xs, hxs⟩ : ∃ xs, vof ats i = xs := ⟨_, rfl⟩
          rw [hxs] at hV0 hx0 av0
          have HE : Hid (xs.all (okV ats gone i k) = earOK ats gone i k) := Lib.hid (by rw [← hxs]; exact HE0.out)
          have avr := cellX hy lb av0
          have lbr := ltX hy lb
          clear hxs HE0 as0
          go_wp2
          clear avr lbr
          go_loopw [7, 32] (fun o j vs => ∃ (q : Nat) (t0 : Bool), o = .bool t0 ∧ j = .int .i64 q ∧ q ≤ xs.length ∧ (∃ y, vs = ext w y) ∧ Hid ((t0 && (xs.drop q).all (okV ats gone i k)) = earOK ats gone i k)) (fun _ j _ => xs.length - (intOf j).toNat)
          case atStart => exact ⟨0, true, rfl, rfl, by omega, hy, Lib.hid (by simpa using HE.out)⟩
          case round =>
            obtain ⟨q, t0, rfl, rfl, hq, hyv, Hq⟩ := hrel
            obtain ⟨ln2, an2, fn2⟩ := box1 (BN.toExt hyv)
            obtain ⟨lg2, ag2, fg2⟩ := box1 (BG.toExt hyv)
            obtain ⟨lq2, aq2, aq2', aq2'', fq2⟩ := box3 (BQ.toExt hyv)
            by_cases hql : q < xs.length
            · obtain ⟨b3, o3, rfl, hb3, hc3⟩ := (hV0.toExt hyv).atI hql
              obtain ⟨v, hv⟩ : ∃ v, xs[q] = v := ⟨_, rfl⟩
              have e := Hq.out
              rw [allA_step hql, hv] at e
              rw [hv] at hc3
              have He2 := Lib.hid e
              clear e hv Hq
              go_wp2
              go_loopw [7, 10] (fun o j us => ∃ (p : Nat) (t : Bool), o = .bool t ∧ j = .int .i64 p ∧ p ≤ ats.length ∧ (∃ y, us = ext w y) ∧ Hid ((t && allF (fun j => !blk ats gone i v j || decide (v ∈ vof ats k)) (ats.length - p) p) = (t0 && okV ats gone i k v))) (fun _ j _ => ats.length - (intOf j).toNat)
              case atStart => exact ⟨0, t0, rfl, rfl, by omega, hyv, Lib.hid rfl⟩
              case round =>
                obtain ⟨p, t, rfl, rfl, hp, hyu, Hp⟩ := hrel
                obtain ⟨ln3, an3, fn3⟩ := box1 (BN.toExt hyu)
                obtain ⟨lg3, ag3, fg3⟩ := box1 (BG.toExt hyu)
                obtain ⟨lq3, aq3, aq3', aq3'', fq3⟩ := box3 (BQ.toExt hyu)
                by_cases hpl : p < ats.length
                · cases t with
                  | false =>
                    have HK := Lib.hid (bool3 He2.out (u := false) (by have := Hp.out; simpa using this))
                    go_wp2
                    exact ⟨⟨q + 1, false, rfl, by go_num, by omega, hyu, HK⟩, by simp [intOf]; omega⟩
                  | true =>
                    obtain ⟨gl3, gc3⟩ := (hB.toExt hyu).at0 (k := p) (by rw [HG.out]; exact hpl)
                    obtain ⟨lb3, s3, A3, c3, as3, av3, hV3⟩ := (hA.toExt hyu).atA' hpl
                    obtain ⟨lb4, s4, A4, c4, as4, av4, hV4⟩ := (hA.toExt hyu).atA' hlt
                    have x3 := Hx.out p
                    have x4 := Hx.out k
                    have e := Hp.out
                    rw [allF_step hpl] at e
                    obtain ⟨d1, hd1⟩ : ∃ t, decide (p ≠ i) = t := ⟨_, rfl⟩
                    obtain ⟨d2, hd2⟩ : ∃ t, gone.getD p true = t := ⟨_, rfl⟩
                    obtain ⟨d3, hd3⟩ : ∃ t, decide (v ∈ vof ats p) = t := ⟨_, rfl⟩
                    obtain ⟨d4, hd4⟩ : ∃ t, decide (v ∈ vof ats k) = t := ⟨_, rfl⟩
                    have q3 : ((p : Int) != (i : Int)) = d1 := by rw [← hd1]; by_cases q : p = i <;> simp [q]; omega
                    rw [hd2] at gc3
                    have e9 : (!blk ats gone i v p || decide (v ∈ vof ats k)) = (!(d1 && !d2 && d3) || d4) := by unfold blk; rw [hd1, hd2, hd3, hd4]
                    have He := Lib.hid (show ((!(d1 && !d2 && d3) || d4) && allF (fun j => !blk ats gone i v j || decide (v ∈ vof ats k)) (ats.length - (p + 1)) (p + 1)) = (t0 && okV ats gone i k v) by rw [← e9, ← e]; simp)
                    have N3 := Lib.hid hd3
                    have N4 := Lib.hid hd4
                    clear e e9 hd1 hd2 hd3 hd4 Hp
                    cases d1 with
                    | false =>
                      go_wp2
                      exact ⟨⟨p + 1, true, rfl, by go_num, by omega, hyu, Lib.hid (by simpa using He.out)⟩, by simp [intOf]; omega⟩
                    | true =>
                      cases d2 with
                      | true =>
                        go_wp2
                        exact ⟨⟨p + 1, true, rfl, by go_num, by omega, hyu, Lib.hid (by simpa using He.out)⟩, by simp [intOf]; omega⟩
                      | false =>
                        cases d3 with
                        | false =>
                          go_wp2_with (go_at_call 107; refine (Contains_any (by omega) (hV3.toExt (by refine Chg.isExt (F := []) ?_ (refl_ext _) (by simp); repeat (with_reducible (first | exact Chg.refl _ _ | exact Nat.le_refl _ | exact Chg.ofExt (by assumption) | refine Chg.trans0 ?_ (by assumption) | refine Chg.extS ?_ _ | refine Chg.alloc ?_ _ | refine Chg.drew ?_ | refine Chg.setCellE ?_ ?_ _ | refine le_addk ?_ _ | refine le_ext ?_ | refine le_alloc ?_ _ | refine le_setC ?_ _ _ | refine le_drew ?_ | assumption | (refine Nat.le_of_lt ?_; omega) | omega))))).mono ?_; rintro e w3 ⟨rfl, y3, rfl⟩; rw [N3.out])
                          exact ⟨⟨p + 1, true, rfl, by go_num, by omega, (by refine Chg.isExt (F := []) ?_ (refl_ext _) (by simp); repeat (with_reducible (first | exact Chg.refl _ _ | exact Nat.le_refl _ | exact Chg.ofExt (by assumption) | refine Chg.trans0 ?_ (by assumption) | refine Chg.extS ?_ _ | refine Chg.alloc ?_ _ | refine Chg.drew ?_ | refine Chg.setCellE ?_ ?_ _ | refine le_addk ?_ _ | refine le_ext ?_ | refine le_alloc ?_ _ | refine le_setC ?_ _ _ | refine le_drew ?_ | assumption | (refine Nat.le_of_lt ?_; omega) | omega))), Lib.hid (by simpa using He.out)⟩, by simp [intOf]; omega⟩
                        | true =>
                          go_wp2_with (first
                            | (go_at_call_of 107 (A3); refine (Contains_any (by omega) (hV3.toExt (by refine Chg.isExt (F := []) ?_ (refl_ext _) (by simp); repeat (with_reducible (first | exact Chg.refl _ _ | exact Nat.le_refl _ | exact Chg.ofExt (by assumption) | refine Chg.trans0 ?_ (by assumption) | refine Chg.extS ?_ _ | refine Chg.alloc ?_ _ | refine Chg.drew ?_ | refine Chg.setCellE ?_ ?_ _ | refine le_addk ?_ _ | refine le_ext ?_ | refine le_alloc ?_ _ | refine le_setC ?_ _ _ | refine le_drew ?_ | assumption | (refine Nat.le_of_lt ?_; omega) | omega))))).mono ?_; rintro e w3 ⟨rfl, y3, rfl⟩; rw [N3.out])
                            | (go_at_call_of 107 (A4); refine (Contains_any (by omega) (hV4.toExt (by refine Chg.isExt (F := []) ?_ (refl_ext _) (by simp); repeat (with_reducible (first | exact Chg.refl _ _ | exact Nat.le_refl _ | exact Chg.ofExt (by assumption) | refine Chg.trans0 ?_ (by assumption) | refine Chg.extS ?_ _ | refine Chg.alloc ?_ _ | refine Chg.drew ?_ | refine Chg.setCellE ?_ ?_ _ | refine le_addk ?_ _ | refine le_ext ?_ | refine le_alloc ?_ _ | refine le_setC ?_ _ _ | refine le_drew ?_ | assumption | (refine Nat.le_of_lt ?_; omega) | omega))))).mono ?_; rintro e w4 ⟨rfl, y4, rfl⟩; rw [N4.out]))
                          exact ⟨⟨p + 1, d4, rfl, by go_num, by omega, (by refine Chg.isExt (F := []) ?_ (refl_ext _) (by simp); repeat (with_reducible (first | exact Chg.refl _ _ | exact Nat.le_refl _ | exact Chg.ofExt (by assumption) | refine Chg.trans0 ?_ (by assumption) | refine Chg.extS ?_ _ | refine Chg.alloc ?_ _ | refine Chg.drew ?_ | refine Chg.setCellE ?_ ?_ _ | refine le_addk ?_ _ | refine le_ext ?_ | refine le_alloc ?_ _ | refine le_setC ?_ _ _ | refine le_drew ?_ | assumption | (refine Nat.le_of_lt ?_; omega) | omega))), Lib.hid (by simpa using He.out)⟩, by simp [intOf]; omega⟩
                · have HK := Lib.hid (bool3 He2.out (u := t) (by have := Hp.out; rw [allF_end hpl] at this; simpa using this))
                  go_wp2
                  exact ⟨⟨q + 1, t, rfl, by go_num, by omega, hyu, HK⟩, by simp [intOf]; omega⟩
            · have e := Hq.out
              rw [allA_end hql, Bool.and_true] at e
              have e2 := He.out
              rw [← e] at e2
              have He2 := Lib.hid e2
              clear e e2 Hq
              cases t0 with
              | true =>
                have HK := Lib.hid (show ear ats gone i = some k by simpa using He2.out.symm)
                go_wp2
                go_ret
                exact ⟨by rw [HK.out]; rfl, hyv⟩
              | false =>
                go_wp2
                exact ⟨⟨k + 1, by go_num, by omega, hyv, Lib.hid (by simpa using He2.out)⟩, by simp [intOf]; omega⟩
    · have e := Hj.out
      rw [findF_end hlt] at e
      have HK := Lib.hid e.symm
      clear e Hj
      go_wp2
      go_ret
      exact ⟨by rw [HK.out]; rfl, hy⟩
end Go.Proofs.Ytbjpkfgkmilkdaa

/- The first atom that can be removed, and the atom to which it is attached: the reference's search. -/
namespace Go.Proofs.Ytbjpkfgkmilkdaa
open Go.RowKit

def notL (gone : List Bool) : List Bool := gone.map fun b => !b
theorem notL_get {gone : List Bool} {k : Nat} (hk : k < gone.length) : (notL gone).getD k true = !gone.getD k true := by
  unfold notL
  rw [List.getD_eq_getElem?_getD, List.getD_eq_getElem?_getD, List.getElem?_map, List.getElem?_eq_getElem hk]
  rfl
def stepK (ats : List At) (gone : List Bool) : Int := match stepG ats gone with | some i => oInt? (ear ats gone i) | none => -1
theorem bool4 {t o r e u : Bool} (h : (!t && (o && r)) = e) (k : u = !(!t && o)) : (!u && r) = e := by
  subst h k
  cases t <;> simp
set_option maxRecDepth 100000 in
set_option maxHeartbeats 16000000 in
theorem l10Ear_any {g m : Nat} {ats : List At} {gone : List Bool} {A B : Option Addr} {c e1 n2 cg : Nat} {w : World} (hx : ats.length ≤ 1000) (hxl : ∀ x ∈ ats, x.2.length ≤ 100000000) (hgl : gone.length = ats.length) (hm : m ≤ 1000)
    (hv : ∀ x ∈ ats, ∀ v ∈ x.2, 0 ≤ v ∧ v < (m : Int)) (hA : RV 2 vAt w A ats) (hB : RB w (some ⟨g, 0, none⟩) (notL gone)) :
    Calls Try.prog 108 #[.agg #[.int .i64 m, .slice A ats.length c, .slice B n2 e1], .slice (some ⟨g, 0, none⟩) ats.length cg] w fun e w' => e = .returned (.tuple #[.int .i64 (oInt? (stepG ats gone)), .int .i64 (stepK ats gone)]) ∧ ∃ y, w' = ext w y := by
  have Hx : Hid (∀ j, (vof ats j).length ≤ 100000000) := Lib.hid fun j => by
    by_cases hj : j < ats.length
    · rw [← vof_get hj]; exact hxl _ (List.getElem_mem hj)
    · unfold vof
      rw [List.getD_eq_getElem?_getD, List.getElem?_eq_none (by omega)]
      simp
  have Hv : Hid (∀ j, ∀ v ∈ vof ats j, 0 ≤ v ∧ v < (m : Int)) := Lib.hid fun j v h => by
    by_cases hj : j < ats.length
    · rw [← vof_get hj] at h; exact hv _ (List.getElem_mem hj) v h
    · unfold vof at h
      rw [List.getD_eq_getElem?_getD, List.getElem?_eq_none (by omega)] at h
      simp at h
  have HG := Lib.hid hgl
  have HN : Hid ((notL gone).length = ats.length) := Lib.hid (by unfold notL; rw [List.length_map, hgl])
  clear hxl hgl hv
  go_enter Try.func108, Try.ntmps108
  go_upto_region 1 with fail
  refine wp_name ?_
  intro W hW
  have xW : ∃ y, W = ext w y := by rw [hW.out]; exact (by refine Chg.isExt (F := []) ?_ (refl_ext _) (by simp); repeat (with_reducible (first | exact Chg.refl _ _ | exact Nat.le_refl _ | exact Chg.ofExt (by assumption) | refine Chg.trans0 ?_ (by assumption) | refine Chg.extS ?_ _ | refine Chg.alloc ?_ _ | refine Chg.drew ?_ | refine Chg.setCellE ?_ ?_ _ | refine le_addk ?_ _ | refine le_ext ?_ | refine le_alloc ?_ _ | refine le_setC ?_ _ _ | refine le_drew ?_ | assumption | (refine Nat.le_of_lt ?_; omega) | omega)))
  have BW0 : BoxAt W (w.heap.size) #[.int .i64 m, .slice A ats.length c, .slice B n2 e1] := by rw [hW.out]; refine ⟨?_, fun j => ?_, fun j => ?_⟩ <;> go_simp
  obtain ⟨lW0, bW0, fW0⟩ := BW0
  have cW0_0 : W.cell? ⟨w.heap.size, 0, none⟩ = some (.int .i64 m) := bW0 0
  have cW0_1 : W.cell? ⟨w.heap.size, 1, none⟩ = some (.slice A ats.length c) := bW0 1
  have cW0_2 : W.cell? ⟨w.heap.size, 2, none⟩ = some (.slice B n2 e1) := bW0 2
  clear hW
  have BQ : BoxAt W w.heap.size #[.int .i64 m, .slice A ats.length c, .slice B n2 e1] := ⟨lW0, bW0, fW0⟩
  have hA := hA.toExt xW
  have hB := hB.toExt xW
  clear lW0 bW0 fW0 cW0_0 cW0_1 cW0_2
  go_wp2
  go_loopw [6] (fun k wr => ∃ i : Nat, k = .int .i64 i ∧ i ≤ ats.length ∧ (∃ y, wr = ext W y) ∧ Hid (findF (canI ats gone) (ats.length - i) i = stepG ats gone)) (fun k _ => ats.length - (intOf k).toNat)
  case atStart => exact ⟨0, rfl, by omega, refl_ext W, Lib.hid rfl⟩
  case round =>
    obtain ⟨i, rfl, hi, hy, Hi⟩ := hrel
    obtain ⟨lq, aq, aq', aq'', fq⟩ := box3 (BQ.toExt hy)
    by_cases hil : i < ats.length
    · obtain ⟨gl, gc⟩ := hB.at0 (k := i) (by rw [HN.out]; exact hil)
      rw [notL_get (by rw [HG.out]; exact hil)] at gc
      obtain ⟨t, ht⟩ : ∃ t, gone.getD i true = t := ⟨_, rfl⟩
      rw [ht] at gc
      have e := Hi.out
      rw [findF_step hil, show canI ats gone i = (!t && (ear ats gone i).isSome) by unfold canI; rw [ht]] at e
      have He := Lib.hid e
      have HT := Lib.hid ht
      clear e ht Hi
      obtain ⟨b, o, rfl⟩ := hA.place (by omega)
      obtain ⟨lbi, si, Ai, ci, asi, avi, hVi⟩ := hA.atA' hil
      have xi := Hx.out i
      cases t with
      | true =>
        go_wp2
        go_loopw [7] (fun k vs => ∃ q : Nat, k = .int .i64 q ∧ q ≤ ats.length ∧ (∃ y, vs = ext W y)) (fun k _ => ats.length - (intOf k).toNat)
        case atStart => exact ⟨0, rfl, by omega, hy⟩
        case round =>
          obtain ⟨q, rfl, hq, hyv⟩ := hrel
          obtain ⟨lq2, aq2, aq2', aq2'', fq2⟩ := box3 (BQ.toExt hyv)
          have gc2 := cellX hyv gl gc
          have gl2 := ltX hyv gl
          by_cases hql : q < ats.length
          · go_wp2
            exact ⟨⟨q + 1, by go_num, by omega, hyv⟩, by simp [intOf]; omega⟩
          · have HK := Lib.hid (show findF (canI ats gone) (ats.length - (i + 1)) (i + 1) = stepG ats gone by simpa using He.out)
            go_wp2
            exact ⟨⟨i + 1, by go_num, by omega, hyv, HK⟩, by simp [intOf]; omega⟩
      | false =>
        go_wp2
        go_loopw [7] (fun k vs => ∃ q : Nat, k = .int .i64 q ∧ q ≤ ats.length ∧ (∃ y, vs = ext W y) ∧ Hid (findF (canK ats gone i) (ats.length - q) q = ear ats gone i)) (fun k _ => ats.length - (intOf k).toNat)
        case atStart => exact ⟨0, rfl, by omega, hy, Lib.hid rfl⟩
        case round =>
          obtain ⟨k, rfl, hk, hyv, Hk⟩ := hrel
          obtain ⟨lq2, aq2, aq2', aq2'', fq2⟩ := box3 (BQ.toExt hyv)
          have gc2 := cellX hyv gl gc
          have gl2 := ltX hyv gl
          by_cases hkl : k < ats.length
          · obtain ⟨_, gck⟩ := hB.at0 (k := k) (by rw [HN.out]; exact hkl)
            rw [notL_get (by rw [HG.out]; exact hkl)] at gck
            obtain ⟨t1, ht1⟩ : ∃ t, decide (k ≠ i) = t := ⟨_, rfl⟩
            obtain ⟨t2, ht2⟩ : ∃ t, gone.getD k true = t := ⟨_, rfl⟩
            have q1 : ((i : Int) == (k : Int)) = !t1 := by rw [← ht1]; by_cases q : k = i <;> simp [q]; omega
            rw [ht2] at gck
            have gck2 := cellX hyv gl gck
            have e := Hk.out
            rw [findF_step hkl, show canK ats gone i k = (t1 && !t2 && earOK ats gone i k) by unfold canK; rw [ht1, ht2]] at e
            have Hek := Lib.hid e
            clear e ht1 ht2 Hk gck
            cases t2 with
            | true =>
              have HK := Lib.hid (show findF (canK ats gone i) (ats.length - (k + 1)) (k + 1) = ear ats gone i by have := Hek.out; cases t1 <;> simpa using this)
              go_wp2
              all_goals exact ⟨⟨k + 1, by go_num, by omega, hyv, HK⟩, by simp [intOf]; omega⟩
            | false =>
              cases t1 with
              | false =>
                go_wp2
                exact ⟨⟨k + 1, by go_num, by omega, hyv, Lib.hid (by simpa using Hek.out)⟩, by simp [intOf]; omega⟩
              | true =>
                have HES := Lib.hid (earOK_spec (gone := gone) (k := k) (Hv.out i))
                obtain ⟨_, sk, Ak, ck, ask, avk, hVk⟩ := hA.atA' hkl
                have xk := Hx.out k
                go_wp2
                clear gc2 gl2 gck2 lq2 aq2 aq2' aq2'' fq2 lq aq aq' aq'' fq
                go_loopw [8, 9] (fun o j us => ∃ (v : Nat) (t0 : Bool), o = .bool t0 ∧ j = .int .i64 v ∧ v ≤ m ∧ (∃ y, us = ext W y) ∧ Hid ((t0 && allF (okS ats gone i k) (m - v) v) = earOK ats gone i k)) (fun _ j _ => m - (intOf j).toNat)
                case atStart => exact ⟨0, true, rfl, rfl, by omega, hyv, Lib.hid (by have := HES.out; simpa using this)⟩
                case round =>
                  obtain ⟨v, t0, rfl, rfl, hvm, hyu, Hvv⟩ := hrel
                  obtain ⟨lq3, aq3, aq3', aq3'', fq3⟩ := box3 (BQ.toExt hyu)
                  by_cases hvl : v < m
                  · have e := Hvv.out
                    rw [allF_step hvl] at e
                    have He2 := Lib.hid e
                    clear e Hvv
                    go_wp2
                    go_loopw [10, 11] (fun o j xs => ∃ (p : Nat) (t : Bool), o = .bool t ∧ j = .int .i64 p ∧ p ≤ ats.length ∧ (∃ y, xs = ext W y) ∧ Hid ((!t && allF (fun j => !blk ats gone i v j) (ats.length - p) p) = allF (fun j => !blk ats gone i v j) ats.length 0)) (fun _ j _ => ats.length - (intOf j).toNat)
                    case atStart => exact ⟨0, false, rfl, rfl, by omega, hyu, Lib.hid rfl⟩
                    case round =>
                      obtain ⟨p, t, rfl, rfl, hp, hyx, Hp⟩ := hrel
                      obtain ⟨lq4, aq4, aq4', aq4'', fq4⟩ := box3 (BQ.toExt hyx)
                      by_cases hpl : p < ats.length
                      · obtain ⟨_, gcp⟩ := hB.at0 (k := p) (by rw [HN.out]; exact hpl)
                        rw [notL_get (by rw [HG.out]; exact hpl)] at gcp
                        obtain ⟨lb3, s3, A3, c3, as3, av3, hV3⟩ := (hA.toExt hyx).atA' hpl
                        have x3 := Hx.out p
                        have e := Hp.out
                        rw [allF_step hpl] at e
                        obtain ⟨d1, hd1⟩ : ∃ t, decide (p ≠ i) = t := ⟨_, rfl⟩
                        obtain ⟨d2, hd2⟩ : ∃ t, gone.getD p true = t := ⟨_, rfl⟩
                        obtain ⟨d3, hd3⟩ : ∃ t, decide ((v : Int) ∈ vof ats p) = t := ⟨_, rfl⟩
                        have q3 : ((p : Int) != (i : Int)) = d1 := by rw [← hd1]; by_cases q : p = i <;> simp [q]; omega
                        rw [hd2] at gcp
                        have gcp4 := cellX hyx gl gcp
                        have gl4 := ltX hyx gl
                        have e9 : blk ats gone i v p = (d1 && !d2 && d3) := by unfold blk; rw [hd1, hd2, hd3]
                        rw [e9] at e
                        have HeP := Lib.hid (bool4 e (u := t || (d1 && !d2 && d3)) (by cases t <;> simp))
                        have N3 := Lib.hid hd3
                        clear e e9 hd1 hd2 hd3 Hp gcp
                        cases t <;> cases d2 <;> cases d1 <;> cases d3
                        all_goals
                          go_wp2_with (go_at_call 74; refine (specContains_any (by omega) (hV3.toExt (by refine Chg.isExt (F := []) ?_ (refl_ext _) (by simp); repeat (with_reducible (first | exact Chg.refl _ _ | exact Nat.le_refl _ | exact Chg.ofExt (by assumption) | refine Chg.trans0 ?_ (by assumption) | refine Chg.extS ?_ _ | refine Chg.alloc ?_ _ | refine Chg.drew ?_ | refine Chg.setCellE ?_ ?_ _ | refine le_addk ?_ _ | refine le_ext ?_ | refine le_alloc ?_ _ | refine le_setC ?_ _ _ | refine le_drew ?_ | assumption | (refine Nat.le_of_lt ?_; omega) | omega))))).mono ?_; rintro e w3 ⟨rfl, y3, rfl⟩; rw [N3.out])
                          exact ⟨⟨p + 1, _, rfl, by go_num, by omega, (by refine Chg.isExt (F := []) ?_ (refl_ext _) (by simp); repeat (with_reducible (first | exact Chg.refl _ _ | exact Nat.le_refl _ | exact Chg.ofExt (by assumption) | refine Chg.trans0 ?_ (by assumption) | refine Chg.extS ?_ _ | refine Chg.alloc ?_ _ | refine Chg.drew ?_ | refine Chg.setCellE ?_ ?_ _ | refine le_addk ?_ _ | refine le_ext ?_ | refine le_alloc ?_ _ | refine le_setC ?_ _ _ | refine le_drew ?_ | assumption | (refine Nat.le_of_lt ?_; omega) | omega))), Lib.hid HeP.out⟩, by simp [intOf]; omega⟩
                      · have e := Hp.out
                        rw [allF_end hpl, Bool.and_true] at e
                        obtain ⟨d5, hd5⟩ : ∃ t, decide ((v : Int) ∈ vof ats i) = t := ⟨_, rfl⟩
                        obtain ⟨d6, hd6⟩ : ∃ t, decide ((v : Int) ∈ vof ats k) = t := ⟨_, rfl⟩
                        have eS : okS ats gone i k v = (!d5 || !t || d6) := by unfold okS; rw [← e, hd5, hd6]; simp
                        have e3 := He2.out
                        rw [eS] at e3
                        have HF := Lib.hid (show ((t0 && (!d5 || !t || d6)) && allF (okS ats gone i k) (m - (v + 1)) (v + 1)) = earOK ats gone i k by rw [Bool.and_assoc]; exact e3)
                        have N5 := Lib.hid hd5
                        have N6 := Lib.hid hd6
                        obtain ⟨lbi2, _, Ai2, ci2, asi2, avi2, hVi2⟩ := (hA.toExt hyx).atA' hil
                        obtain ⟨_, _, Ak2, ck2, ask2, avk2, hVk2⟩ := (hA.toExt hyx).atA' hkl
                        clear e e3 eS hd5 hd6 Hp
                        cases t0 <;> cases d5 <;> cases t <;> cases d6
                        all_goals
                          go_wp2_with (first
                            | (go_at_call_of 74 (Ai2); refine (specContains_any (by omega) (hVi2.toExt (by refine Chg.isExt (F := []) ?_ (refl_ext _) (by simp); repeat (with_reducible (first | exact Chg.refl _ _ | exact Nat.le_refl _ | exact Chg.ofExt (by assumption) | refine Chg.trans0 ?_ (by assumption) | refine Chg.extS ?_ _ | refine Chg.alloc ?_ _ | refine Chg.drew ?_ | refine Chg.setCellE ?_ ?_ _ | refine le_addk ?_ _ | refine le_ext ?_ | refine le_alloc ?_ _ | refine le_setC ?_ _ _ | refine le_drew ?_ | assumption | (refine Nat.le_of_lt ?_; omega) | omega))))).mono ?_; rintro e w3 ⟨rfl, y3, rfl⟩; rw [N5.out])
                            | (go_at_call_of 74 (Ak2); refine (specContains_any (by omega) (hVk2.toExt (by refine Chg.isExt (F := []) ?_ (refl_ext _) (by simp); repeat (with_reducible (first | exact Chg.refl _ _ | exact Nat.le_refl _ | exact Chg.ofExt (by assumption) | refine Chg.trans0 ?_ (by assumption) | refine Chg.extS ?_ _ | refine Chg.alloc ?_ _ | refine Chg.drew ?_ | refine Chg.setCellE ?_ ?_ _ | refine le_addk ?_ _ | refine le_ext ?_ | refine le_alloc ?_ _ | refine le_setC ?_ _ _ | refine le_drew ?_ | assumption | (refine Nat.le_of_lt ?_; omega) | omega))))).mono ?_; rintro e w3 ⟨rfl, y4, rfl⟩; rw [N6.out]))
                          exact ⟨⟨v + 1, _, rfl, by go_num, by omega, (by refine Chg.isExt (F := []) ?_ (refl_ext _) (by simp); repeat (with_reducible (first | exact Chg.refl _ _ | exact Nat.le_refl _ | exact Chg.ofExt (by assumption) | refine Chg.trans0 ?_ (by assumption) | refine Chg.extS ?_ _ | refine Chg.alloc ?_ _ | refine Chg.drew ?_ | refine Chg.setCellE ?_ ?_ _ | refine le_addk ?_ _ | refine le_ext ?_ | refine le_alloc ?_ _ | refine le_setC ?_ _ _ | refine le_drew ?_ | assumption | (refine Nat.le_of_lt ?_; omega) | omega))), Lib.hid HF.out⟩, by simp [intOf]; omega⟩
                  · have e := Hvv.out
                    rw [allF_end hvl, Bool.and_true] at e
                    have e2 := Hek.out
                    rw [← e] at e2
                    have He2 := Lib.hid e2
                    clear e e2 Hvv
                    cases t0 with
                    | true =>
                      have HK := Lib.hid (show ear ats gone i = some k by simpa using He2.out.symm)
                      have HS := Lib.hid (show stepG ats gone = some i by have := He.out; rw [HK.out] at this; simpa using this.symm)
                      go_wp2
                      go_ret2
                      exact ⟨by unfold stepK; rw [HS.out]; simp only; rw [HK.out]; rfl, trans_ext xW hyu⟩
                    | false =>
                      go_wp2
                      exact ⟨⟨k + 1, by go_num, by omega, hyu, Lib.hid (by simpa using He2.out)⟩, by simp [intOf]; omega⟩
          · have e := Hk.out
            rw [findF_end hkl] at e
            have e2 := He.out
            rw [← e] at e2
            have HK := Lib.hid (show findF (canI ats gone) (ats.length - (i + 1)) (i + 1) = stepG ats gone by simpa using e2)
            clear e e2 Hk
            go_wp2
            exact ⟨⟨i + 1, by go_num, by omega, hyv, HK⟩, by simp [intOf]; omega⟩
    · have e := Hi.out
      rw [findF_end hil] at e
      have HK := Lib.hid e.symm
      clear e Hi
      go_wp2
      go_ret2
      exact ⟨by unfold stepK; rw [HK.out]; rfl, trans_ext xW hy⟩
end Go.Proofs.Ytbjpkfgkmilkdaa

/- Atoms removed one by one: the program's way. -/
namespace Go.Proofs.Ytbjpkfgkmilkdaa
open Go.RowKit

def lenV (v : Value) : Nat := match v with | .slice _ n _ => n | _ => 0
def bitV (v : Value) : Nat := match v with | .bool true => 1 | _ => 0
theorem rep_set {α : Type} {a z : α} {k n : Nat} (h : k < n) : (List.replicate k a ++ List.replicate (n - k) z).set k a = List.replicate (k + 1) a ++ List.replicate (n - (k + 1)) z := by
  rw [List.set_append_right _ _ (by simp), List.length_replicate, Nat.sub_self, show n - k = (n - (k + 1)) + 1 by omega, List.replicate_succ, List.set_cons_zero, List.replicate_succ', List.append_assoc]
  rfl
def RedP (ats : List At) (w : World) (e : Ending) (w' : World) : Prop := ∃ v1 v2 F1 F2, e = .returned (.tuple #[v1, v2]) ∧ (∃ y, w' = ext w y) ∧ SV 3 1 sI w' v1 (gyoQ ats).1 F1 ∧ SV 3 1 sI w' v2 (gyoQ ats).2 F2 ∧ (∀ b ∈ F1, w.heap.size ≤ b) ∧ ∀ b ∈ F2, w.heap.size ≤ b
set_option maxRecDepth 100000 in
set_option maxHeartbeats 16000000 in
theorem reduce_any {z : Int} {ats : List At} {A B : Option Addr} {c e1 m : Nat} {w : World} (hx : ats.length ≤ 1000) (hxl : ∀ x ∈ ats, x.2.length ≤ 100000000) (hA : RV 2 vAt w A ats) :
    Calls Try.prog 81 #[.agg #[.int .i64 z, .slice A ats.length c, .slice B m e1]] w (RedP ats w) := by
  have Hxl := Lib.hid hxl
  clear hxl
  go_enter Try.func81, Try.ntmps81
  go_upto_region 2 with fail
  refine wp_name ?_
  intro W hW
  have xW : ∃ y, W = ext w y := by rw [hW.out]; exact (by refine Chg.isExt (F := []) ?_ (refl_ext _) (by simp); repeat (with_reducible (first | exact Chg.refl _ _ | exact Nat.le_refl _ | exact Chg.ofExt (by assumption) | refine Chg.trans0 ?_ (by assumption) | refine Chg.extS ?_ _ | refine Chg.alloc ?_ _ | refine Chg.drew ?_ | refine Chg.setCellE ?_ ?_ _ | refine le_addk ?_ _ | refine le_ext ?_ | refine le_alloc ?_ _ | refine le_setC ?_ _ _ | refine le_drew ?_ | assumption | (refine Nat.le_of_lt ?_; omega) | omega)))
  have BW0 : BoxAt W (w.heap.size) #[.int .i64 z, .slice A ats.length c, .slice B m e1] := by rw [hW.out]; refine ⟨?_, fun j => ?_, fun j => ?_⟩ <;> go_simp
  obtain ⟨lW0, bW0, fW0⟩ := BW0
  have cW0_0 : W.cell? ⟨w.heap.size, 0, none⟩ = some (.int .i64 z) := bW0 0
  have cW0_1 : W.cell? ⟨w.heap.size, 1, none⟩ = some (.slice A ats.length c) := bW0 1
  have cW0_2 : W.cell? ⟨w.heap.size, 2, none⟩ = some (.slice B m e1) := bW0 2
  have BW1 : BoxAt W (w.heap.size + 1) #[.int .i64 ats.length] := by rw [hW.out]; refine ⟨?_, fun j => ?_, fun j => ?_⟩ <;> go_simp
  obtain ⟨lW1, bW1, fW1⟩ := BW1
  have cW1_0 : W.cell? ⟨w.heap.size + 1, 0, none⟩ = some (.int .i64 ats.length) := bW1 0
  clear hW
  have BQ : BoxAt W w.heap.size #[.int .i64 z, .slice A ats.length c, .slice B m e1] := ⟨lW0, bW0, fW0⟩
  have BN : BoxAt W (w.heap.size + 1) #[.int .i64 ats.length] := ⟨lW1, bW1, fW1⟩
  go_upto_region 4 with (first
    | (at_make; refine wpList_makeS (E := sI) (d := 0) (n := ats.length) _ rfl _ _ _ rfl tI rfl rfl (fun _ => ⟨rfl, rfl⟩) (by omega) (by omega) ?_; intro w1 hSp hx1 hg1; have BN1 := BN.toExt hx1; obtain ⟨ln1, an1, fn1⟩ := box1 BN1)
    | (at_make; refine wpList_makeS (E := sB) (d := false) (n := ats.length) _ rfl _ _ _ rfl tB rfl rfl (fun _ => ⟨rfl, rfl⟩) (by omega) (by omega) ?_; intro w2 hSg hx2 hg2))
  refine wp_name ?_
  intro w3 hw3
  have hx3 : ∃ y, w3 = ext w2 y := by rw [hw3.out]; exact alloc_ext _ _
  have BG : BoxAt w3 w2.heap.size #[.slice (some ⟨w1.heap.size, 0, none⟩) ats.length ats.length] := by rw [hw3.out]; exact BoxAt.new _ _ _
  have BN : BoxAt w3 (w.heap.size + 1) #[.int .i64 ats.length] := BN.toExt (trans_ext hx1 (trans_ext hx2 hx3))
  have BQ : BoxAt w3 w.heap.size #[.int .i64 z, .slice A ats.length c, .slice B m e1] := BQ.toExt (trans_ext hx1 (trans_ext hx2 hx3))
  have hxw3 : ∃ y, w3 = ext w y := trans_ext xW (trans_ext hx1 (trans_ext hx2 hx3))
  have hA3 := hA.toExt hxw3
  have hSp := hSp.toExt (trans_ext hx2 hx3)
  have hSg := hSg.toExt hx3
  have g1 : w.heap.size + 1 < W.heap.size := lW1
  have g3 := BG.1
  obtain ⟨gp, egp⟩ : ∃ g, W.heap.size = g := ⟨_, rfl⟩
  obtain ⟨gg, egg⟩ : ∃ g, w1.heap.size = g := ⟨_, rfl⟩
  obtain ⟨bg, ebg⟩ : ∃ g, w2.heap.size = g := ⟨_, rfl⟩
  obtain ⟨bn, ebn⟩ : ∃ g, w.heap.size + 1 = g := ⟨_, rfl⟩
  rw [egp] at hSp hg1 g1 ⊢
  rw [egg] at hSg hg1 hg2 BG ⊢
  rw [ebg] at hg2 BG g3 ⊢
  rw [ebn] at BN g1 ⊢
  have g0 : w.heap.size < bn := by omega
  have n1 : gp ≠ gg := by omega
  have n2 : gg ≠ gp := by omega
  have n3 : gp ≠ bg := by omega
  have n4 : bg ≠ gp := by omega
  have n5 : gg ≠ bg := by omega
  have n6 : bg ≠ gg := by omega
  have HX3 := Lib.hid hxw3
  clear egp egg ebg ebn lW0 bW0 fW0 cW0_0 cW0_1 cW0_2 lW1 bW1 fW1 cW1_0 xW hx1 hx2 hx3 BN1 ln1 an1 fn1 hw3 hxw3
  go_wp2
  go_loopw [22] (fun i wr => ∃ k : Nat, i = .int .i64 k ∧ k ≤ ats.length ∧ SV 3 1 sI wr (.slice (some ⟨gp, 0, none⟩) ats.length ats.length) (List.replicate k (-1) ++ List.replicate (ats.length - k) 0) [gp] ∧ Chg [gp] w3 wr) (fun i _ => ats.length - (intOf i).toNat)
  case atStart => exact ⟨0, rfl, by omega, by simpa using hSp, Chg.refl _ _⟩
  case round =>
    obtain ⟨k, rfl, hk, hSk, hC⟩ := hrel
    by_cases hlt : k < ats.length
    · have hlen : (List.replicate k (-1 : Int) ++ List.replicate (ats.length - k) 0).length = ats.length := by simp; omega
      have HS := Lib.hid hSk
      have HC := Lib.hid hC
      obtain ⟨⟨u, hu⟩, hf, hg⟩ := hSk.cell hlen (j := k) (by omega)
      obtain ⟨h3, h4⟩ := hSk.set1 hlen (k := k) (by omega) (u := .int .i64 (-1)) (d := -1) (fun _ => ⟨rfl, rfl⟩)
      rw [rep_set hlt] at h3
      have H3 := Lib.hid h3
      have H4 := Lib.hid h4
      clear hSk hC h3 h4 hlen
      go_wp2
      exact ⟨⟨k + 1, by go_num, by omega, H3.out, HC.out.trans H4.out (fun x hx => .inl hx)⟩, by simp [intOf]; omega⟩
    · have e : k = ats.length := by omega
      rw [show List.replicate k (-1 : Int) ++ List.replicate (ats.length - k) 0 = List.replicate ats.length (-1) by rw [e]; simp] at hSk
      have hsz := hC.size
      have hgg : ∀ b ∈ [gg], b ∉ [gp] := fun b hb h => by simp at hb h; omega
      have hSg4 := hSg.chg hC hgg
      clear e
      go_wp2
      go_loopw [9, 10] (fun v t xr => ∃ (rem par : List Int) (gone : List Bool) (F : List Nat) (tf : Bool), t = .bool tf ∧ SV 3 1 sI xr v rem F ∧ (∀ b ∈ F, w3.heap.size ≤ b) ∧ SV 3 1 sI xr (.slice (some ⟨gp, 0, none⟩) ats.length ats.length) par [gp] ∧ SV 4 1 sB xr (.slice (some ⟨gg, 0, none⟩) ats.length ats.length) gone [gg] ∧ Chg [gp, gg] w3 xr ∧ rem.length + leftN gone = ats.length ∧ Hid (gone.length = ats.length ∧ par.length = ats.length) ∧ Hid (gyo ats (leftN gone) rem par gone = gyoQ ats) ∧ Hid (tf = false → stepG ats gone = none)) (fun v t _ => ats.length - lenV v + bitV t)
      case atStart => exact ⟨[], List.replicate ats.length (-1), List.replicate ats.length false, [], true, rfl, SV.nil, by simp, hSk, hSg4, hC.mono (fun x hx => .inl (by simp at hx; simp [hx])), by rw [leftN_rep]; simp, Lib.hid ⟨by simp, by simp⟩, Lib.hid (by rw [leftN_rep]; rfl), Lib.hid (by simp)⟩
      case round =>
        clear hSk hC hSg4 hSp hSg hsz hlt hgg hk
        obtain ⟨rem0, par0, gone0, F0, tf0, rfl, hSr, hF, hSp, hSg, hC, hln, Hl, Hg, Hs⟩ := hrel
        have HF0 := Lib.hid hF
        obtain ⟨A0, c0, rfl, hc0, _⟩ := hSr.form
        clear hF
        cases tf0 with
        | false =>
          have HK := Lib.hid (show gyoQ ats = (rem0, par0) by rw [← Hg.out]; exact gyo_none (Hs.out rfl) _)
          go_wp2
          go_ret2
          show RedP ats w _ _
          refine ⟨_, _, F0, [gp], rfl, hC.isExt HX3.out (fun x hx => ?_), by rw [HK.out]; exact hSr, by rw [HK.out]; exact hSp, fun b hb => ?_, fun b hb => ?_⟩
          · simp at hx; omega
          · have := HF0.out b hb; omega
          · simp at hb; omega
        | true =>
          go_wp2
          go_loopw [9, 10, 11] (fun v t i xs => ∃ (q : Nat) (rem par : List Int) (gone : List Bool) (F : List Nat) (tf : Bool), i = .int .i64 q ∧ q ≤ ats.length ∧ t = .bool tf ∧ SV 3 1 sI xs v rem F ∧ (∀ b ∈ F, w3.heap.size ≤ b) ∧ SV 3 1 sI xs (.slice (some ⟨gp, 0, none⟩) ats.length ats.length) par [gp] ∧ SV 4 1 sB xs (.slice (some ⟨gg, 0, none⟩) ats.length ats.length) gone [gg] ∧ Chg [gp, gg] w3 xs ∧ rem.length + leftN gone = ats.length ∧ Hid (gone.length = ats.length ∧ par.length = ats.length) ∧ Hid (gyo ats (leftN gone) rem par gone = gyoQ ats) ∧ Hid (tf = false → findF (canI ats gone) (ats.length - q) q = stepG ats gone) ∧ rem0.length + (if tf = true then 1 else 0) ≤ rem.length) (fun _ _ i _ => ats.length - (intOf i).toNat)
          case atStart => exact ⟨0, rem0, par0, gone0, F0, false, rfl, by omega, rfl, hSr, HF0.out, hSp, hSg, hC, hln, Hl, Hg, Lib.hid (fun _ => rfl), by simp⟩
          case round =>
            clear hSr hSp hSg hC hln Hl Hg Hs HF0
            obtain ⟨q, rem, par, gone, F, tf, rfl, hq, rfl, hSr, hF, hSp, hSg, hC, hln, Hl, Hg, Hs, hrm⟩ := hrel
            have HF := Lib.hid hF
            have HR := Lib.hid hSr
            have HP := Lib.hid hSp
            have HGo := Lib.hid hSg
            have HC := Lib.hid hC
            obtain ⟨A1, c1, rfl, hc1, _⟩ := hSr.form
            have m1 : w.heap.size ∉ [gp, gg] := fun h => by simp at h; omega
            have m2 : bn ∉ [gp, gg] := fun h => by simp at h; omega
            have m3 : bg ∉ [gp, gg] := fun h => by simp at h; omega
            have BQr := BQ.chg hC m1
            have BNr := BN.chg hC m2
            have BGr := BG.chg hC m3
            obtain ⟨ln, an, fn⟩ := box1 BNr
            obtain ⟨lg, ag, fg⟩ := box1 BGr
            have hl9 : rem.length ≤ 1000 := by omega
            clear hF hSr hSp hSg hC m1 m2 m3
            cases tf with
            | true =>
              simp only [if_true] at hrm
              go_wp2
              all_goals exact ⟨⟨rem, par, gone, F, true, rfl, HR.out, HF.out, HP.out, HGo.out, HC.out, hln, Hl, Hg, Lib.hid (by simp)⟩, by simp [lenV, bitV]; omega⟩
            | false =>
              simp only [Bool.false_eq_true, if_false, Nat.add_zero] at hrm
              by_cases hql : q < ats.length
              · have hxs : ∃ y, wr = ext w y := HC.out.isExt HX3.out (fun x hx => by simp at hx; omega)
                obtain ⟨gl, gc⟩ := (HGo.out.toView sB_v).at0 (k := q) (by rw [Hl.out.1]; exact hql)
                obtain ⟨t, ht⟩ : ∃ t, gone.getD q true = t := ⟨_, rfl⟩
                rw [ht] at gc
                have e := Hs.out rfl
                rw [findF_step hql, show canI ats gone q = (!t && (ear ats gone q).isSome) by unfold canI; rw [ht]] at e
                have He := Lib.hid e
                have HT := Lib.hid ht
                clear e ht Hs
                cases t with
                | true =>
                  go_wp2
                  exact ⟨⟨q + 1, rem, par, gone, F, false, by go_num, by omega, rfl, HR.out, HF.out, HP.out, HGo.out, HC.out, hln, Hl, Hg, Lib.hid (fun _ => by simpa using He.out), by simpa using hrm⟩, by simp [intOf]; omega⟩
                | false =>
                  obtain ⟨r, hr⟩ : ∃ r, ear ats gone q = r := ⟨_, rfl⟩
                  have ER := Lib.hid hr
                  clear hr
                  cases r with
                  | none =>
                    have EI := Lib.hid (show oInt? (ear ats gone q) = -1 by rw [ER.out]; rfl)
                    have HK := Lib.hid (show findF (canI ats gone) (ats.length - (q + 1)) (q + 1) = stepG ats gone by have := He.out; rw [ER.out] at this; simpa using this)
                    go_wp2_with (go_at_call 106; refine (ear_any hx Hxl.out hql Hl.out.1 BNr BGr BQr (hA.toExt hxs) (HGo.out.toView sB_v)).mono ?_; rintro e w4 ⟨rfl, hx4⟩; rw [EI.out])
                    exact ⟨⟨q + 1, rem, par, gone, F, false, by go_num, by omega, rfl, HR.out.toExt hx4, HF.out, HP.out.toExt hx4, HGo.out.toExt hx4, HC.out.trans0 hx4, hln, Hl, Hg, Lib.hid (fun _ => HK.out), by simpa using hrm⟩, by simp [intOf]; omega⟩
                  | some k =>
                    have EI := Lib.hid (show oInt? (ear ats gone q) = (k : Int) by rw [ER.out]; rfl)
                    have HS := Lib.hid (show stepG ats gone = some q by have := He.out; rw [ER.out] at this; simpa using this.symm)
                    have HGY := Lib.hid ((gyo_some (rem := rem) (par := par) HS.out ER.out).symm.trans Hg.out)
                    have HLN := Lib.hid (leftN_set HT.out)
                    have k0 : (0 : Int) ≤ (k : Int) := by omega
                    have g9 : gp < w3.heap.size := by omega
                    have g8 : gg < w3.heap.size := by omega
                    have hz := HC.out.size
                    go_wp2_with (first
                      | (go_at_call 106; refine (ear_any hx Hxl.out hql Hl.out.1 BNr BGr BQr (hA.toExt hxs) (HGo.out.toView sB_v)).mono ?_; rintro e w4 ⟨rfl, hx4⟩; rw [EI.out]; obtain ⟨⟨up, hup⟩, hfp, hgp⟩ := (HP.out.toExt hx4).cell Hl.out.2 (j := q) (by omega); obtain ⟨⟨ug, hug⟩, hfg, hgg4⟩ := (HGo.out.toExt hx4).cell Hl.out.1 (j := q) (by omega); obtain ⟨lg4, ag4, fg4⟩ := box1 (BGr.toExt hx4))
                      | (at_builtin; refine wpList_app1 (E := sI) (d := (q : Int)) rfl _ _ _ rfl tI rfl rfl rfl (by simp) (fun _ => ⟨rfl, rfl⟩) rfl (by simp [Value.oneCell']) (((HR.out.toExt hx4).setC HF.out g9 _).setC HF.out g8 _) (by omega) (by omega) ?_; intro v6 w6 F6 hS6 hC6 hF6))
                    have hz4 := size_of_ext hx4
                    obtain ⟨p1, p2⟩ := (HP.out.toExt hx4).set1 Hl.out.2 (k := q) hql (u := .int .i64 k) (d := (k : Int)) (fun _ => ⟨rfl, rfl⟩)
                    have s1 := (HGo.out.toExt hx4).chg p2 (fun b hb h => by simp at hb h; omega)
                    obtain ⟨s2, s3⟩ := s1.set1 Hl.out.1 (k := q) hql (u := .bool true) (d := true) (fun _ => ⟨rfl, rfl⟩)
                    have p3 := (p1.chg s3 (fun b hb h => by simp at hb h; omega)).chg hC6 (fun b hb h => by have := HF.out b h; simp at hb; omega)
                    have s4 := s2.chg hC6 (fun b hb h => by have := HF.out b h; simp at hb; omega)
                    have hln2 := HLN.out
                    exact ⟨⟨q + 1, rem ++ [(q : Int)], par.set q (k : Int), gone.set q true, F6, true, by go_num, by omega, rfl, hS6, newer HF.out (by simp only [World.size_setCell]; omega) hF6, p3, s4, (((HC.out.trans0 hx4).trans p2 (fun x hx => .inl (by simp at hx; simp [hx]))).trans s3 (fun x hx => .inl (by simp at hx; simp [hx]))).trans hC6 (fun x hx => .inr (HF.out x hx)), by simp; omega, Lib.hid ⟨by rw [List.length_set]; exact Hl.out.1, by rw [List.length_set]; exact Hl.out.2⟩, HGY, Lib.hid (by simp), by simp; omega⟩, by simp [intOf]; omega⟩
              · have e := Hs.out rfl
                rw [findF_end hql] at e
                have HK := Lib.hid e.symm
                clear e Hs
                go_wp2
                exact ⟨⟨rem, par, gone, F, false, rfl, HR.out, HF.out, HP.out, HGo.out, HC.out, hln, Hl, Hg, Lib.hid (fun _ => HK.out)⟩, by simp [lenV, bitV]; omega⟩
end Go.Proofs.Ytbjpkfgkmilkdaa

/- Atoms removed one by one: the reference's way. -/
namespace Go.Proofs.Ytbjpkfgkmilkdaa
open Go.RowKit

theorem notL_set {gone : List Bool} {i : Nat} : (notL gone).set i false = notL (gone.set i true) := by
  unfold notL
  rw [List.map_set]
  rfl
theorem notL_rep (n : Nat) : notL (List.replicate n false) = List.replicate n true := by simp [notL]
set_option maxRecDepth 100000 in
set_option maxHeartbeats 16000000 in
theorem l10Run_any {m : Nat} {ats : List At} {A B : Option Addr} {c e1 n2 : Nat} {w : World} (hx : ats.length ≤ 1000) (hxl : ∀ x ∈ ats, x.2.length ≤ 100000000) (hm : m ≤ 1000) (hv : ∀ x ∈ ats, ∀ v ∈ x.2, 0 ≤ v ∧ v < (m : Int)) (hA : RV 2 vAt w A ats) :
    Calls Try.prog 82 #[.agg #[.int .i64 m, .slice A ats.length c, .slice B n2 e1]] w (RedP ats w) := by
  have Hxl := Lib.hid hxl
  have Hv := Lib.hid hv
  clear hxl hv
  go_enter Try.func82, Try.ntmps82
  go_upto_region 1 with fail
  refine wp_name ?_
  intro W hW
  have xW : ∃ y, W = ext w y := by rw [hW.out]; exact (by refine Chg.isExt (F := []) ?_ (refl_ext _) (by simp); repeat (with_reducible (first | exact Chg.refl _ _ | exact Nat.le_refl _ | exact Chg.ofExt (by assumption) | refine Chg.trans0 ?_ (by assumption) | refine Chg.extS ?_ _ | refine Chg.alloc ?_ _ | refine Chg.drew ?_ | refine Chg.setCellE ?_ ?_ _ | refine le_addk ?_ _ | refine le_ext ?_ | refine le_alloc ?_ _ | refine le_setC ?_ _ _ | refine le_drew ?_ | assumption | (refine Nat.le_of_lt ?_; omega) | omega)))
  have BW0 : BoxAt W (w.heap.size) #[.int .i64 m, .slice A ats.length c, .slice B n2 e1] := by rw [hW.out]; refine ⟨?_, fun j => ?_, fun j => ?_⟩ <;> go_simp
  obtain ⟨lW0, bW0, fW0⟩ := BW0
  have cW0_0 : W.cell? ⟨w.heap.size, 0, none⟩ = some (.int .i64 m) := bW0 0
  have cW0_1 : W.cell? ⟨w.heap.size, 1, none⟩ = some (.slice A ats.length c) := bW0 1
  have cW0_2 : W.cell? ⟨w.heap.size, 2, none⟩ = some (.slice B n2 e1) := bW0 2
  clear hW
  have BQ : BoxAt W w.heap.size #[.int .i64 m, .slice A ats.length c, .slice B n2 e1] := ⟨lW0, bW0, fW0⟩
  have hSo := SV.empty (α := Int) (te := 3) (size := 1) (E := sI) W
  go_upto_region 4 with (first
    | (at_make; refine wpList_makeS (E := sI) (d := 0) (n := ats.length) _ rfl _ _ _ rfl tI rfl rfl (fun _ => ⟨rfl, rfl⟩) (by omega) (by omega) ?_; intro w1 hSu hx1 hg1; have BQ1 : BoxAt w1 w.heap.size #[.int .i64 m, .slice A ats.length c, .slice B n2 e1] := BQ.toExt (trans_ext (alloc_ext _ _) hx1); obtain ⟨l1, a1, a1', a1'', f1⟩ := box3 BQ1)
    | (at_make; refine wpList_makeS (E := sB) (d := false) (n := ats.length) _ rfl _ _ _ rfl tB rfl rfl (fun _ => ⟨rfl, rfl⟩) (by omega) (by omega) ?_; intro w2 hSl hx2 hg2))
  have hx1' := hx1
  simp only [World.size_alloc] at hg1
  have hxW1 : ∃ y, w1 = ext W y := trans_ext (alloc_ext _ _) hx1
  have hSo := hSo.toExt (trans_ext hx1 hx2)
  have hSu := hSu.toExt hx2
  have BQ := BQ1.toExt hx2
  have hxw2 : ∃ y, w2 = ext w y := trans_ext xW (trans_ext hxW1 hx2)
  have g1 : w.heap.size < W.heap.size := lW0
  obtain ⟨go, ego⟩ : ∃ g, W.heap.size = g := ⟨_, rfl⟩
  simp only [World.size_alloc] at hSu ⊢
  obtain ⟨gu, egu⟩ : ∃ g, W.heap.size + 1 = g := ⟨_, rfl⟩
  obtain ⟨gl, egl⟩ : ∃ g, w1.heap.size = g := ⟨_, rfl⟩
  rw [egu] at hSu hg1 ⊢
  rw [ego] at hSo g1 ⊢
  rw [egl] at hSl hg1 hg2 ⊢
  have g2 : go < gu := by omega
  have n1 : gu ≠ gl := by omega
  have n2' : gl ≠ gu := by omega
  have HX2 := Lib.hid hxw2
  clear ego egu egl lW0 bW0 fW0 cW0_0 cW0_1 cW0_2 xW hx1 hx1' hx2 hxW1 BQ1 l1 a1 a1' a1'' f1 hxw2
  go_wp2
  go_loopw [7] (fun i wr => ∃ k : Nat, i = .int .i64 k ∧ k ≤ ats.length ∧ SV 4 1 sB wr (.slice (some ⟨gl, 0, none⟩) ats.length ats.length) (List.replicate k true ++ List.replicate (ats.length - k) false) [gl] ∧ SV 3 1 sI wr (.slice (some ⟨gu, 0, none⟩) ats.length ats.length) (List.replicate k (-1) ++ List.replicate (ats.length - k) 0) [gu] ∧ Chg [gu, gl] w2 wr) (fun i _ => ats.length - (intOf i).toNat)
  case atStart => exact ⟨0, rfl, by omega, by simpa using hSl, by simpa using hSu, Chg.refl _ _⟩
  case round =>
    obtain ⟨k, rfl, hk, hSlk, hSuk, hC⟩ := hrel
    by_cases hlt : k < ats.length
    · have hlen : (List.replicate k (-1 : Int) ++ List.replicate (ats.length - k) 0).length = ats.length := by simp; omega
      have hlen2 : (List.replicate k true ++ List.replicate (ats.length - k) false).length = ats.length := by simp; omega
      have HC := Lib.hid hC
      obtain ⟨⟨u, hu⟩, hf, hg⟩ := hSuk.cell hlen (j := k) (by omega)
      obtain ⟨⟨u2, hu2⟩, hf2, hg3⟩ := hSlk.cell hlen2 (j := k) (by omega)
      obtain ⟨s1, s2⟩ := hSlk.set1 hlen2 (k := k) (by omega) (u := .bool true) (d := true) (fun _ => ⟨rfl, rfl⟩)
      have p0 := hSuk.chg s2 (fun b hb h => by simp at hb h; omega)
      obtain ⟨p1, p2⟩ := p0.set1 hlen (k := k) (by omega) (u := .int .i64 (-1)) (d := -1) (fun _ => ⟨rfl, rfl⟩)
      have s3 := s1.chg p2 (fun b hb h => by simp at hb h; omega)
      rw [rep_set hlt] at p1 s3
      have HP1 := Lib.hid p1
      have HP2 := Lib.hid p2
      have HS2 := Lib.hid s2
      have HS3 := Lib.hid s3
      clear hSuk hSlk hC s1 s2 s3 p0 p1 p2 hlen hlen2
      go_wp2
      exact ⟨⟨k + 1, by go_num, by omega, HS3.out, HP1.out, (HC.out.trans HS2.out (fun x hx => .inl (by simp at hx; simp [hx]))).trans HP2.out (fun x hx => .inl (by simp at hx; simp [hx]))⟩, by simp [intOf]; omega⟩
    · have e : k = ats.length := by omega
      rw [show List.replicate k (-1 : Int) ++ List.replicate (ats.length - k) 0 = List.replicate ats.length (-1) by rw [e]; simp] at hSuk
      rw [show List.replicate k true ++ List.replicate (ats.length - k) false = notL (List.replicate ats.length false) by rw [e, notL_rep]; simp] at hSlk
      have hSo4 := hSo.chg hC (fun b hb h => by simp at hb h; omega)
      have hsz := hC.size
      clear e
      go_wp2
      go_loopw [4] (fun v xr => ∃ (rem par : List Int) (gone : List Bool) (F : List Nat), SV 3 1 sI xr v rem F ∧ (∀ b ∈ F, b = go ∨ w2.heap.size ≤ b) ∧ SV 3 1 sI xr (.slice (some ⟨gu, 0, none⟩) ats.length ats.length) par [gu] ∧ SV 4 1 sB xr (.slice (some ⟨gl, 0, none⟩) ats.length ats.length) (notL gone) [gl] ∧ Chg [gu, gl, go] w2 xr ∧ rem.length + leftN gone = ats.length ∧ Hid (gone.length = ats.length ∧ par.length = ats.length ∧ (notL gone).length = ats.length) ∧ Hid (gyo ats (leftN gone) rem par gone = gyoQ ats)) (fun v _ => ats.length - lenV v)
      case atStart => exact ⟨[], List.replicate ats.length (-1), List.replicate ats.length false, [go], hSo4, fun b hb => .inl (by simpa using hb), hSuk, hSlk, hC.mono (fun x hx => .inl (by simp at hx; rcases hx with h | h <;> simp [h])), by rw [leftN_rep]; simp, Lib.hid ⟨by simp, by simp, by simp [notL]⟩, Lib.hid (by rw [leftN_rep]; rfl)⟩
      case round =>
        clear hSuk hSlk hSo4 hC hSo hSu hSl hlt hk
        obtain ⟨rem, par, gone, F, hSr, hF, hSp, hSg, hC, hln, Hl, Hg⟩ := hrel
        have HF := Lib.hid hF
        have HR := Lib.hid hSr
        have HP := Lib.hid hSp
        have HGo := Lib.hid hSg
        have HC := Lib.hid hC
        obtain ⟨A1, c1, rfl, hc1, _⟩ := hSr.form
        have BQr := BQ.chg hC (fun h => by simp at h; omega)
        obtain ⟨lq, aq, aq', aq'', fq⟩ := box3 BQr
        have hz := hC.size
        have hxs : ∃ y, wr = ext w y := HC.out.isExt HX2.out (fun x hx => by simp at hx; omega)
        have HXS := Lib.hid hxs
        obtain ⟨r, hr⟩ : ∃ r, stepG ats gone = r := ⟨_, rfl⟩
        have SR := Lib.hid hr
        have hl9 : rem.length ≤ 1000 := by omega
        clear hF hSr hSp hSg hC hr hxs
        cases r with
        | none =>
          have EI := Lib.hid (show oInt? (stepG ats gone) = -1 by rw [SR.out]; rfl)
          have HK := Lib.hid (show gyoQ ats = (rem, par) by rw [← Hg.out]; exact gyo_none SR.out _)
          go_wp2_with (go_at_call 108; refine (l10Ear_any hx Hxl.out Hl.out.1 hm Hv.out (hA.toExt HXS.out) (HGo.out.toView sB_v)).mono ?_; rintro e w4 ⟨rfl, hx4⟩; rw [EI.out])
          go_ret2
          show RedP ats w _ _
          refine ⟨_, _, F, [gu], rfl, trans_ext HXS.out hx4, by rw [HK.out]; exact HR.out.toExt hx4, by rw [HK.out]; exact HP.out.toExt hx4, fun b hb => ?_, fun b hb => ?_⟩
          · rcases HF.out b hb with h | h <;> omega
          · simp at hb; omega
        | some q =>
          obtain ⟨hq1, hq2, k, hk, hk2⟩ := stepG_some SR.out
          have EI := Lib.hid (show oInt? (stepG ats gone) = (q : Int) by rw [SR.out]; rfl)
          have EK := Lib.hid (show stepK ats gone = (k : Int) by unfold stepK; rw [SR.out]; simp only; rw [hk]; rfl)
          have HGY := Lib.hid ((gyo_some (rem := rem) (par := par) SR.out hk).symm.trans Hg.out)
          have HLN := Lib.hid (leftN_set hq2)
          have q0 : (0 : Int) ≤ (q : Int) := by omega
          have HD1 : Hid (∀ b ∈ [gu], b ∉ F) := Lib.hid (fun b hb h => by simp at hb; rcases HF.out b h with h' | h' <;> omega)
          have HD2 : Hid (∀ b ∈ [gl], b ∉ F) := Lib.hid (fun b hb h => by simp at hb; rcases HF.out b h with h' | h' <;> omega)
          clear hk hq2
          go_wp2_with (first
            | (go_at_call 108; refine (l10Ear_any hx Hxl.out Hl.out.1 hm Hv.out (hA.toExt HXS.out) (HGo.out.toView sB_v)).mono ?_; rintro e w4 ⟨rfl, hx4⟩; rw [EI.out, EK.out])
            | (at_builtin; refine wpList_app1 (E := sI) (d := (q : Int)) rfl _ _ _ rfl tI rfl rfl rfl (by simp) (fun _ => ⟨rfl, rfl⟩) rfl (by simp [Value.oneCell']) (HR.out.toExt hx4) (by omega) (by omega) ?_; intro v6 w6 F6 hS6 hC6 hF6; obtain ⟨⟨up, hup⟩, hfp, hgp⟩ := ((HP.out.toExt hx4).chg hC6 HD1.out).cell Hl.out.2.1 (j := q) (by omega); obtain ⟨⟨ug, hug⟩, hfg, hgg4⟩ := ((HGo.out.toExt hx4).chg hC6 HD2.out).cell Hl.out.2.2 (j := q) (by omega)))
          have hz4 := size_of_ext hx4
          have hz6 := hC6.size
          obtain ⟨p1, p2⟩ := ((HP.out.toExt hx4).chg hC6 HD1.out).set1 Hl.out.2.1 (k := q) hq1 (u := .int .i64 k) (d := (k : Int)) (fun _ => ⟨rfl, rfl⟩)
          have s1 := ((HGo.out.toExt hx4).chg hC6 HD2.out).chg p2 (fun b hb h => by simp at hb h; omega)
          obtain ⟨s2, s3⟩ := s1.set1 Hl.out.2.2 (k := q) hq1 (u := .bool false) (d := false) (fun _ => ⟨rfl, rfl⟩)
          have p3 := p1.chg s3 (fun b hb h => by simp at hb h; omega)
          have hF7 : ∀ b ∈ F6, b = go ∨ w2.heap.size ≤ b := fun b hb => by
            rcases hF6 b hb with h | h
            · exact HF.out b h
            · exact .inr (by omega)
          have r7 := (hS6.chg p2 (fun b hb h => by simp at h; rcases hF7 b hb with h' | h' <;> omega)).chg s3 (fun b hb h => by simp at h; rcases hF7 b hb with h' | h' <;> omega)
          have hcF : ∀ x ∈ F, x ∈ [gu, gl, go] ∨ w2.heap.size ≤ x := fun x hx => by
            rcases HF.out x hx with h | h
            · exact .inl (by simp [h])
            · exact .inr h
          rw [notL_set] at s2
          have hln2 := HLN.out
          exact ⟨⟨rem ++ [(q : Int)], par.set q (k : Int), gone.set q true, F6, r7, hF7, p3, s2, (((HC.out.trans0 hx4).trans hC6 hcF).trans p2 (fun x hx => .inl (by simp at hx; simp [hx]))).trans s3 (fun x hx => .inl (by simp at hx; simp [hx])), by simp; omega, Lib.hid ⟨by rw [List.length_set]; exact Hl.out.1, by rw [List.length_set]; exact Hl.out.2.1, by rw [← notL_set, List.length_set]; exact Hl.out.2.2⟩, HGY⟩, by have := hS6.form; obtain ⟨A6, c6, rfl, _⟩ := this; simp [lenV]; omega⟩
end Go.Proofs.Ytbjpkfgkmilkdaa

/- The atoms that can be removed, whether one atom remains, the join tree that results; the program's way and the reference's. -/
namespace Go.Proofs.Ytbjpkfgkmilkdaa
open Go.RowKit

def remQ (d : Qd) : List Int := if vqB d = true then (gyoQ d.2.1).1 else []
def acyB (d : Qd) : Bool := vqB d && decide (((gyoQ d.2.1).1.length : Int) = (d.2.1.length : Int) - 1)
def jtQ (d : Qd) : List Int := if acyB d = true then (gyoQ d.2.1).2 else []
theorem gyoQ_len (ats : List At) : (gyoQ ats).1.length ≤ ats.length ∧ (gyoQ ats).2.length = ats.length := by
  have := gyo_len (ats := ats) ats.length [] (List.replicate ats.length (-1)) (List.replicate ats.length false)
  unfold gyoQ
  simp at this
  exact this
theorem remQ_length {d : Qd} : (remQ d).length ≤ d.2.1.length := by
  unfold remQ
  split
  · exact (gyoQ_len _).1
  · simp
theorem jtQ_length {d : Qd} : (jtQ d).length ≤ d.2.1.length := by
  unfold jtQ
  split
  · rw [(gyoQ_len _).2]; omega
  · simp
set_option maxHeartbeats 2000000 in
theorem RemovableAtoms_any {A B : Option Addr} {c e1 : Nat} {d : Qd} {w : World} (hb : BQ d) (h : vQ w [.int .i64 d.1, .slice A d.2.1.length c, .slice B d.2.2.length e1] d) :
    Calls Try.prog 34 #[.agg #[.int .i64 d.1, .slice A d.2.1.length c, .slice B d.2.2.length e1]] w fun e w' => ∃ v F, e = .returned v ∧ (∃ y, w' = ext w y) ∧ SV 3 1 sI w' v (remQ d) F ∧ ∀ b ∈ F, w.heap.size ≤ b := by
  have HB := Lib.hid hb
  have HV := Lib.hid h
  obtain ⟨r1, r2, _⟩ := vQ_get h
  have ra := (vAts_get r1).2
  clear r1 r2
  obtain ⟨z, ats, out⟩ := d
  dsimp only at ra ⊢
  clear h hb
  obtain ⟨t1, ht1⟩ : ∃ t, vqB (z, ats, out) = t := ⟨_, rfl⟩
  have N1 := Lib.hid ht1
  cases t1 with
  | false =>
    have HE := Lib.hid (show remQ (z, ats, out) = [] by unfold remQ; rw [ht1]; rfl)
    clear ht1
    go_enter Try.func34, Try.ntmps34
    go_wp2_with (go_at_call 29; refine (IsValidQuery_any (d := (z, ats, out)) HB.out (VD.toExt HV.out (by refine Chg.isExt (F := []) ?_ (refl_ext _) (by simp); repeat (with_reducible (first | exact Chg.refl _ _ | exact Nat.le_refl _ | exact Chg.ofExt (by assumption) | refine Chg.trans0 ?_ (by assumption) | refine Chg.extS ?_ _ | refine Chg.alloc ?_ _ | refine Chg.drew ?_ | refine Chg.setCellE ?_ ?_ _ | refine le_addk ?_ _ | refine le_ext ?_ | refine le_alloc ?_ _ | refine le_setC ?_ _ _ | refine le_drew ?_ | assumption | (refine Nat.le_of_lt ?_; omega) | omega))))).mono ?_; rintro e w1 ⟨rfl, hx1⟩; rw [N1.out])
    go_ret
    exact ⟨_, [], rfl, (by refine Chg.isExt (F := []) ?_ (refl_ext _) (by simp); repeat (with_reducible (first | exact Chg.refl _ _ | exact Nat.le_refl _ | exact Chg.ofExt (by assumption) | refine Chg.trans0 ?_ (by assumption) | refine Chg.extS ?_ _ | refine Chg.alloc ?_ _ | refine Chg.drew ?_ | refine Chg.setCellE ?_ ?_ _ | refine le_addk ?_ _ | refine le_ext ?_ | refine le_alloc ?_ _ | refine le_setC ?_ _ _ | refine le_drew ?_ | assumption | (refine Nat.le_of_lt ?_; omega) | omega))), by rw [HE.out]; exact SV.nil, by simp⟩
  | true =>
    have HE := Lib.hid (show remQ (z, ats, out) = (gyoQ ats).1 by unfold remQ; rw [ht1]; rfl)
    obtain ⟨g1, _, g3⟩ := vqB_facts ht1
    dsimp only at g1 g3
    have Hx : Hid (∀ x ∈ ats, x.2.length ≤ 100000000) := Lib.hid fun x hx => by have := (g3 x hx).2; omega
    have HLn := Lib.hid (gyoQ_len ats)
    have g4 : ats.length ≤ 1000 := by omega
    clear ht1 g3
    go_enter Try.func34, Try.ntmps34
    go_wp2_with (first
      | (go_at_call 29; refine (IsValidQuery_any (d := (z, ats, out)) HB.out (VD.toExt HV.out (by refine Chg.isExt (F := []) ?_ (refl_ext _) (by simp); repeat (with_reducible (first | exact Chg.refl _ _ | exact Nat.le_refl _ | exact Chg.ofExt (by assumption) | refine Chg.trans0 ?_ (by assumption) | refine Chg.extS ?_ _ | refine Chg.alloc ?_ _ | refine Chg.drew ?_ | refine Chg.setCellE ?_ ?_ _ | refine le_addk ?_ _ | refine le_ext ?_ | refine le_alloc ?_ _ | refine le_setC ?_ _ _ | refine le_drew ?_ | assumption | (refine Nat.le_of_lt ?_; omega) | omega))))).mono ?_; rintro e w1 ⟨rfl, hx1⟩; rw [N1.out]; have P1 := (BoxAt.new w #[.int .i64 z, .slice A ats.length c, .slice B out.length e1] 44).toExt hx1; obtain ⟨l1, a1, a1', a1'', f1⟩ := box3 P1)
      | (go_at_call 81; refine (reduce_any g4 Hx.out (ra.toExt (by refine Chg.isExt (F := []) ?_ (refl_ext _) (by simp); repeat (with_reducible (first | exact Chg.refl _ _ | exact Nat.le_refl _ | exact Chg.ofExt (by assumption) | refine Chg.trans0 ?_ (by assumption) | refine Chg.extS ?_ _ | refine Chg.alloc ?_ _ | refine Chg.drew ?_ | refine Chg.setCellE ?_ ?_ _ | refine le_addk ?_ _ | refine le_ext ?_ | refine le_alloc ?_ _ | refine le_setC ?_ _ _ | refine le_drew ?_ | assumption | (refine Nat.le_of_lt ?_; omega) | omega))))).mono ?_; rintro e w2 ⟨v1, v2, F1, F2, rfl, hx2, hS1, hS2, hF1, hF2⟩))
    go_ret
    exact ⟨_, F1, rfl, (by refine Chg.isExt (F := []) ?_ (refl_ext _) (by simp); repeat (with_reducible (first | exact Chg.refl _ _ | exact Nat.le_refl _ | exact Chg.ofExt (by assumption) | refine Chg.trans0 ?_ (by assumption) | refine Chg.extS ?_ _ | refine Chg.alloc ?_ _ | refine Chg.drew ?_ | refine Chg.setCellE ?_ ?_ _ | refine le_addk ?_ _ | refine le_ext ?_ | refine le_alloc ?_ _ | refine le_setC ?_ _ _ | refine le_drew ?_ | assumption | (refine Nat.le_of_lt ?_; omega) | omega))), by rw [HE.out]; exact hS1, fun b hb => Nat.le_trans (size_of_ext (by refine Chg.isExt (F := []) ?_ (refl_ext _) (by simp); repeat (with_reducible (first | exact Chg.refl _ _ | exact Nat.le_refl _ | exact Chg.ofExt (by assumption) | refine Chg.trans0 ?_ (by assumption) | refine Chg.extS ?_ _ | refine Chg.alloc ?_ _ | refine Chg.drew ?_ | refine Chg.setCellE ?_ ?_ _ | refine le_addk ?_ _ | refine le_ext ?_ | refine le_alloc ?_ _ | refine le_setC ?_ _ _ | refine le_drew ?_ | assumption | (refine Nat.le_of_lt ?_; omega) | omega)))) (hF1 b hb)⟩
set_option maxHeartbeats 2000000 in
theorem specRemovableAtoms_any {A B : Option Addr} {c e1 : Nat} {d : Qd} {w : World} (hb : BQ d) (h : vQ w [.int .i64 d.1, .slice A d.2.1.length c, .slice B d.2.2.length e1] d) :
    Calls Try.prog 36 #[.agg #[.int .i64 d.1, .slice A d.2.1.length c, .slice B d.2.2.length e1]] w fun e w' => ∃ v F, e = .returned v ∧ (∃ y, w' = ext w y) ∧ SV 3 1 sI w' v (remQ d) F ∧ ∀ b ∈ F, w.heap.size ≤ b := by
  have HB := Lib.hid hb
  have HV := Lib.hid h
  obtain ⟨r1, r2, _⟩ := vQ_get h
  have ra := (vAts_get r1).2
  clear r1 r2
  obtain ⟨z, ats, out⟩ := d
  dsimp only at ra ⊢
  clear h hb
  obtain ⟨t1, ht1⟩ : ∃ t, vqB (z, ats, out) = t := ⟨_, rfl⟩
  have N1 := Lib.hid ht1
  cases t1 with
  | false =>
    have HE := Lib.hid (show remQ (z, ats, out) = [] by unfold remQ; rw [ht1]; rfl)
    clear ht1
    go_enter Try.func36, Try.ntmps36
    go_wp2_with (go_at_call 28; refine (specIsValidQuery_any (d := (z, ats, out)) HB.out (VD.toExt HV.out (by refine Chg.isExt (F := []) ?_ (refl_ext _) (by simp); repeat (with_reducible (first | exact Chg.refl _ _ | exact Nat.le_refl _ | exact Chg.ofExt (by assumption) | refine Chg.trans0 ?_ (by assumption) | refine Chg.extS ?_ _ | refine Chg.alloc ?_ _ | refine Chg.drew ?_ | refine Chg.setCellE ?_ ?_ _ | refine le_addk ?_ _ | refine le_ext ?_ | refine le_alloc ?_ _ | refine le_setC ?_ _ _ | refine le_drew ?_ | assumption | (refine Nat.le_of_lt ?_; omega) | omega))))).mono ?_; rintro e w1 ⟨rfl, hx1⟩; rw [N1.out])
    go_ret
    exact ⟨_, [w1.heap.size], rfl, (by refine Chg.isExt (F := []) ?_ (refl_ext _) (by simp); repeat (with_reducible (first | exact Chg.refl _ _ | exact Nat.le_refl _ | exact Chg.ofExt (by assumption) | refine Chg.trans0 ?_ (by assumption) | refine Chg.extS ?_ _ | refine Chg.alloc ?_ _ | refine Chg.drew ?_ | refine Chg.setCellE ?_ ?_ _ | refine le_addk ?_ _ | refine le_ext ?_ | refine le_alloc ?_ _ | refine le_setC ?_ _ _ | refine le_drew ?_ | assumption | (refine Nat.le_of_lt ?_; omega) | omega))), by rw [HE.out]; exact SV.empty w1, fun b hb => by have := size_of_ext hx1; simp at hb this; omega⟩
  | true =>
    have HE := Lib.hid (show remQ (z, ats, out) = (gyoQ ats).1 by unfold remQ; rw [ht1]; rfl)
    have ht2 := ht1
    obtain ⟨g1, _, g3⟩ := vqB_facts ht1
    dsimp only at g1 g3
    have Hx : Hid (∀ x ∈ ats, x.2.length ≤ 100000000) := Lib.hid fun x hx => by have := (g3 x hx).2; omega
    have HLn := Lib.hid (gyoQ_len ats)
    have g4 : ats.length ≤ 1000 := by omega
    clear ht1 g3
    have ht1 := ht2
    obtain ⟨g5, g6, g7⟩ := vqB_vars ht1
    dsimp only at g5 g6 g7
    obtain ⟨m, rfl⟩ : ∃ m : Nat, z = m := ⟨z.toNat, by omega⟩
    have Hv : Hid (∀ x ∈ ats, ∀ v ∈ x.2, 0 ≤ v ∧ v < (m : Int)) := Lib.hid g7
    have g8 : m ≤ 1000 := by omega
    clear g5 g6 g7
    clear ht1 ht2
    go_enter Try.func36, Try.ntmps36
    go_wp2_with (first
      | (go_at_call 28; refine (specIsValidQuery_any (d := ((m : Int), ats, out)) HB.out (VD.toExt HV.out (by refine Chg.isExt (F := []) ?_ (refl_ext _) (by simp); repeat (with_reducible (first | exact Chg.refl _ _ | exact Nat.le_refl _ | exact Chg.ofExt (by assumption) | refine Chg.trans0 ?_ (by assumption) | refine Chg.extS ?_ _ | refine Chg.alloc ?_ _ | refine Chg.drew ?_ | refine Chg.setCellE ?_ ?_ _ | refine le_addk ?_ _ | refine le_ext ?_ | refine le_alloc ?_ _ | refine le_setC ?_ _ _ | refine le_drew ?_ | assumption | (refine Nat.le_of_lt ?_; omega) | omega))))).mono ?_; rintro e w1 ⟨rfl, hx1⟩; rw [N1.out]; have P1 := (BoxAt.new w #[.int .i64 m, .slice A ats.length c, .slice B out.length e1] 44).toExt hx1; obtain ⟨l1, a1, a1', a1'', f1⟩ := box3 P1)
      | (go_at_call 82; refine (l10Run_any g4 Hx.out g8 Hv.out (ra.toExt (by refine Chg.isExt (F := []) ?_ (refl_ext _) (by simp); repeat (with_reducible (first | exact Chg.refl _ _ | exact Nat.le_refl _ | exact Chg.ofExt (by assumption) | refine Chg.trans0 ?_ (by assumption) | refine Chg.extS ?_ _ | refine Chg.alloc ?_ _ | refine Chg.drew ?_ | refine Chg.setCellE ?_ ?_ _ | refine le_addk ?_ _ | refine le_ext ?_ | refine le_alloc ?_ _ | refine le_setC ?_ _ _ | refine le_drew ?_ | assumption | (refine Nat.le_of_lt ?_; omega) | omega))))).mono ?_; rintro e w2 ⟨v1, v2, F1, F2, rfl, hx2, hS1, hS2, hF1, hF2⟩))
    go_ret
    exact ⟨_, F1, rfl, (by refine Chg.isExt (F := []) ?_ (refl_ext _) (by simp); repeat (with_reducible (first | exact Chg.refl _ _ | exact Nat.le_refl _ | exact Chg.ofExt (by assumption) | refine Chg.trans0 ?_ (by assumption) | refine Chg.extS ?_ _ | refine Chg.alloc ?_ _ | refine Chg.drew ?_ | refine Chg.setCellE ?_ ?_ _ | refine le_addk ?_ _ | refine le_ext ?_ | refine le_alloc ?_ _ | refine le_setC ?_ _ _ | refine le_drew ?_ | assumption | (refine Nat.le_of_lt ?_; omega) | omega))), by rw [HE.out]; exact hS1, fun b hb => Nat.le_trans (size_of_ext (by refine Chg.isExt (F := []) ?_ (refl_ext _) (by simp); repeat (with_reducible (first | exact Chg.refl _ _ | exact Nat.le_refl _ | exact Chg.ofExt (by assumption) | refine Chg.trans0 ?_ (by assumption) | refine Chg.extS ?_ _ | refine Chg.alloc ?_ _ | refine Chg.drew ?_ | refine Chg.setCellE ?_ ?_ _ | refine le_addk ?_ _ | refine le_ext ?_ | refine le_alloc ?_ _ | refine le_setC ?_ _ _ | refine le_drew ?_ | assumption | (refine Nat.le_of_lt ?_; omega) | omega)))) (hF1 b hb)⟩
end Go.Proofs.Ytbjpkfgkmilkdaa

/- Atoms removed down to one: their parents are a join tree. No program in it. -/
namespace Go.Proofs.Ytbjpkfgkmilkdaa
open Go.RowKit
/-- what is known of the removal so far: R the places removed, each with its parent -/
structure GyI (ats : List At) (rem par : List Int) (gone : List Bool) : Prop where
  gl : gone.length = ats.length
  pl : par.length = ats.length
  rm : ∀ j : Nat, j < ats.length → (gone.getD j true = true ↔ (j : Int) ∈ rem)
  rl : ∀ i ∈ rem, 0 ≤ i ∧ i < (ats.length : Int)
  np : ∀ j : Nat, j < ats.length → gone.getD j true = false → par.getD j 0 = -1
/-- the chain of parents from each place of N leads to the root within |N| steps; each number in N's lists has one top -/
inductive Good (ats : List At) (par : List Int) : List Nat → Prop
  | one {r : Nat} : r < ats.length → par.getD r 0 = -1 → Good ats par [r]
  | more {N : List Nat} {c p : Nat} : Good ats par N → c < ats.length → c ∉ N → p ∈ N → par.getD c 0 = (p : Int) → (∀ v ∈ vof ats c, ∀ j ∈ N, v ∈ vof ats j → v ∈ vof ats p) → Good ats par (c :: N)
theorem Good.lt {ats : List At} {par : List Int} {N : List Nat} (h : Good ats par N) : ∀ j ∈ N, j < ats.length := by
  induction h with
  | one h _ => intro j hj; rw [List.mem_singleton.1 hj]; exact h
  | more _ h _ _ _ _ ih =>
    intro j hj
    rcases List.mem_cons.1 hj with e | e
    · rw [e]; exact h
    · exact ih j e
theorem Good.nodup {ats : List At} {par : List Int} {N : List Nat} (h : Good ats par N) : N.Nodup := by
  induction h with
  | one _ _ => simp
  | more _ _ h _ _ _ ih => exact List.nodup_cons.2 ⟨h, ih⟩
theorem clB_more {ps : List Int} : ∀ {f : Nat} {a : Int}, clB ps f a = true → clB ps (f + 1) a = true
  | 0, a, h => by
    unfold clB at h ⊢
    rw [if_pos (of_decide_eq_true h)]
  | f + 1, a, h => by
    rw [clB] at h ⊢
    split at h
    · rename_i h1; rw [if_pos h1]
    · rename_i h1
      rw [if_neg h1]
      rw [Bool.and_eq_true] at h ⊢
      exact ⟨h.1, clB_more h.2⟩
theorem clB_le {ps : List Int} {f g : Nat} {a : Int} (h : clB ps f a = true) (hg : f ≤ g) : clB ps g a = true := by
  induction g with
  | zero => have : f = 0 := by omega
            subst this; exact h
  | succ g ih =>
    by_cases e : f = g + 1
    · subst e; exact h
    · exact clB_more (ih (by omega))
theorem Good.up {ats : List At} {par : List Int} {N : List Nat} (hl : par.length = ats.length) (h : Good ats par N) : ∀ j ∈ N, inB (par.getD j 0) (-1) ((par.length : Int) - 1) = true ∧ clB par N.length (j : Int) = true := by
  induction h with
  | @one r h1 h2 =>
    intro j hj
    obtain rfl := List.mem_singleton.1 hj
    have hi : inB (par.getD j 0) (-1) ((par.length : Int) - 1) = true := by rw [h2]; simp [inB]; omega
    refine ⟨hi, ?_⟩
    rw [List.length_singleton, clB, if_neg (by omega), Int.toNat_natCast, hi, h2]
    rfl
  | @more N c p h0 h1 h2 h3 h4 h5 ih =>
    intro j hj
    rcases List.mem_cons.1 hj with e | e
    · subst e
      have hp := h0.lt p h3
      have hi : inB (par.getD j 0) (-1) ((par.length : Int) - 1) = true := by rw [h4]; simp [inB]; omega
      refine ⟨hi, ?_⟩
      rw [List.length_cons, clB, if_neg (by omega), Int.toNat_natCast, hi, h4, (ih p h3).2]
      rfl
    · exact ⟨(ih j e).1, by rw [List.length_cons]; exact clB_more (ih j e).2⟩
/-! how many places have a property -/
theorem cnt_nodup {q : Nat → Bool} : ∀ {n : Nat} {N : List Nat}, N.Nodup → (∀ j, j ∈ N ↔ j < n) → ((List.range n).filter q).length = (N.filter q).length := by
  intro n N hN hm
  have hp : (List.range n).Perm N := (List.perm_ext_iff_of_nodup List.nodup_range hN).2 fun j => by rw [List.mem_range, hm]
  exact (hp.filter q).length_eq
theorem rootsG_cnt : ∀ (l : List Int) (r : Int), rootsG r l = r + ((l.filter fun p => decide (p < 0)).length : Int)
  | [], r => by simp [rootsG]
  | p :: l, r => by
    rw [rootsG, rootsG_cnt l, List.filter_cons]
    by_cases h : p < 0
    · rw [if_pos h, if_pos (by simpa using h), List.length_cons]; omega
    · rw [if_neg h, if_neg (by simpa using h)]
theorem filter_ix {l : List Int} {q : Int → Bool} : (l.filter q).length = ((List.range l.length).filter fun i => q (l.getD i 0)).length := by
  have e : l = (List.range l.length).map fun i => l.getD i 0 := by
    apply List.ext_getElem
    · simp
    · intro i h1 h2
      rw [List.getElem_map, List.getElem_range, List.getD_eq_getElem?_getD, List.getElem?_eq_getElem h1]
      rfl
  conv => lhs; rw [e, List.filter_map, List.length_map]
  rfl
theorem Good.roots {ats : List At} {par : List Int} {N : List Nat} (h : Good ats par N) : (N.filter fun i => decide (par.getD i 0 < 0)).length = 1 := by
  induction h with
  | one _ h2 => rw [List.filter_cons, if_pos (by rw [h2]; rfl)]; rfl
  | more _ _ _ _ h4 _ ih => rw [List.filter_cons, if_neg (by rw [h4]; simp), ih]
theorem Good.tree {ats : List At} {par : List Int} {N : List Nat} (hl : par.length = ats.length) (h : Good ats par N) (hm : ∀ j, j ∈ N ↔ j < ats.length) : treeB par = true := by
  have hlen : N.length = ats.length := by
    have := cnt_nodup (q := fun _ => true) h.nodup hm
    rw [List.filter_eq_self.2 (fun _ _ => rfl), List.filter_eq_self.2 (fun _ _ => rfl), List.length_range] at this
    exact this.symm
  unfold treeB
  rw [Bool.and_eq_true, allF_iff, decide_eq_true_eq]
  constructor
  · intro j _ hj
    obtain ⟨h1, h2⟩ := h.up hl j ((hm j).2 (by omega))
    unfold upB
    rw [h1, clB_le h2 (by omega)]
    rfl
  · rw [rootsG_cnt, filter_ix, hl, cnt_nodup h.nodup hm, h.roots]
    rfl
theorem Good.tops {ats : List At} {par : List Int} {N : List Nat} (h : Good ats par N) (v : Int) : (N.filter fun i => topB ats par v i).length = if ∃ j ∈ N, v ∈ vof ats j then 1 else 0 := by
  induction h with
  | @one r _ h2 =>
    rw [List.filter_cons]
    unfold topB
    rw [h2]
    by_cases hv : v ∈ vof ats r
    · rw [if_pos (by simp [hv]), if_pos ⟨r, by simp, hv⟩]; rfl
    · rw [if_neg (by simp [hv]), if_neg (by rintro ⟨j, hj, h⟩; rw [List.mem_singleton.1 hj] at h; exact hv h)]; rfl
  | @more N c p h0 h1 h2 h3 h4 h5 ih =>
    rw [List.filter_cons]
    by_cases hc : v ∈ vof ats c
    · by_cases hp : v ∈ vof ats p
      · rw [if_neg (by unfold topB; rw [h4]; simp [hp]), ih, if_pos ⟨p, h3, hp⟩, if_pos ⟨c, by simp, hc⟩]
      · have hno : ¬ ∃ j ∈ N, v ∈ vof ats j := by
          rintro ⟨j, hj, hv⟩
          exact hp (h5 v hc j hj hv)
        rw [if_pos (by unfold topB; rw [h4]; simp [hp, hc]), List.length_cons, ih, if_neg hno, if_pos ⟨c, by simp, hc⟩]
    · rw [if_neg (by unfold topB; simp [hc]), ih]
      by_cases hex : ∃ j ∈ N, v ∈ vof ats j
      · rw [if_pos hex, if_pos (by obtain ⟨j, hj, h⟩ := hex; exact ⟨j, by simp [hj], h⟩)]
      · rw [if_neg hex, if_neg]
        rintro ⟨j, hj, h⟩
        rcases List.mem_cons.1 hj with e | e
        · rw [e] at h; exact hc h
        · exact hex ⟨j, e, h⟩
theorem topsG_len {ats : List At} {ps : List Int} {v : Int} : ∀ (f k : Nat) (t : Int), topsG ats ps v f k t = t + (((List.range' k f).filter fun i => topB ats ps v i).length : Int)
  | 0, k, t => by simp [topsG]
  | f + 1, k, t => by
    rw [topsG, topsG_len f (k + 1), List.range'_succ, List.filter_cons]
    by_cases h : topB ats ps v k = true
    · rw [if_pos h, if_pos h, List.length_cons]; omega
    · rw [if_neg h, if_neg h]
theorem Good.jt {ats : List At} {par : List Int} {N : List Nat} {n : Nat} (hl : par.length = ats.length) (h : Good ats par N) (hm : ∀ j, j ∈ N ↔ j < ats.length) (hc : ∀ v : Nat, v < n → ∃ j, j < ats.length ∧ (v : Int) ∈ vof ats j) : jtB n ats par = true := by
  unfold jtB
  rw [Bool.and_eq_true, Bool.and_eq_true, decide_eq_true_eq, allF_iff]
  refine ⟨⟨hl, h.tree hl hm⟩, fun v _ hv => ?_⟩
  obtain ⟨j, hj, hjv⟩ := hc v (by omega)
  rw [decide_eq_true_eq]
  show topsG ats par v ats.length 0 0 = 1
  rw [topsG_len, ← List.range_eq_range', cnt_nodup h.nodup hm, h.tops, if_pos ⟨j, (hm j).2 hj, hjv⟩]
  rfl
/-! the removal: the places struck, latest first, over the one that is left -/
theorem getD_setB {l : List Bool} {i j : Nat} {b : Bool} (h : i < l.length) : (l.set i b).getD j true = if i = j then b else l.getD j true := by
  rw [List.getD_eq_getElem?_getD, List.getElem?_set, List.getD_eq_getElem?_getD]
  by_cases e : i = j
  · subst e; rw [if_pos rfl, if_pos h, if_pos rfl]; rfl
  · rw [if_neg e, if_neg e]
theorem getD_setI {l : List Int} {i j : Nat} {b : Int} (h : i < l.length) : (l.set i b).getD j 0 = if i = j then b else l.getD j 0 := by
  rw [List.getD_eq_getElem?_getD, List.getElem?_set, List.getD_eq_getElem?_getD]
  by_cases e : i = j
  · subst e; rw [if_pos rfl, if_pos h, if_pos rfl]; rfl
  · rw [if_neg e, if_neg e]
theorem earOK_iff {ats : List At} {gone : List Bool} {i k : Nat} : earOK ats gone i k = true ↔ ∀ v ∈ vof ats i, ∀ j, j < ats.length → j ≠ i → gone.getD j true = false → v ∈ vof ats j → v ∈ vof ats k := by
  unfold earOK
  rw [List.all_eq_true]
  refine forall_congr' fun v => forall_congr' fun hv => ?_
  unfold okV
  rw [allF_iff]
  constructor
  · intro h j hj hne hg hm
    have := h j (by omega) (by omega)
    unfold blk at this
    simp only [hne, hg, hm, decide_true, Bool.not_false, Bool.and_self, Bool.not_true, Bool.false_or, ne_eq, not_false_eq_true, decide_eq_true_eq] at this
    exact this
  · intro h j _ hj
    rw [Bool.or_eq_true, Bool.not_eq_true', decide_eq_true_eq]
    by_cases hb : blk ats gone i v j = true
    · right
      unfold blk at hb
      simp only [Bool.and_eq_true, decide_eq_true_eq, Bool.not_eq_true'] at hb
      exact h j (by omega) hb.1.1 hb.1.2 hb.2
    · left; simpa using hb
/-- once a parent is set it stays: it is what the final list holds -/
theorem gyo_ext {ats : List At} : ∀ (f : Nat) (rem par : List Int) (gone : List Bool), GyI ats rem par gone → ∃ rem2 par2 gone2, gyo ats f rem par gone = (rem2, par2) ∧ GyI ats rem2 par2 gone2 ∧ (∃ x, rem2 = rem ++ x) ∧ (∀ j, j < ats.length → gone.getD j true = true → par2.getD j 0 = par.getD j 0 ∧ gone2.getD j true = true) ∧
    leftN gone2 + (rem2.length - rem.length) = leftN gone ∧ rem.length ≤ rem2.length ∧ ∀ N : List Nat, (∀ j, j ∈ N ↔ j < ats.length ∧ gone2.getD j true = false) → N.Nodup → Good ats par2 N → ∃ M, (∀ j, j ∈ M ↔ j < ats.length ∧ gone.getD j true = false) ∧ Good ats par2 M
  | 0, rem, par, gone, h => ⟨rem, par, gone, rfl, h, ⟨[], by simp⟩, fun j _ hg => ⟨rfl, hg⟩, by simp, Nat.le_refl _, fun N hN _ hG => ⟨N, hN, hG⟩⟩
  | f + 1, rem, par, gone, h => by
    rw [gyo]
    cases hs : stepG ats gone with
    | none => exact ⟨rem, par, gone, rfl, h, ⟨[], by simp⟩, fun j _ hg => ⟨rfl, hg⟩, by simp, Nat.le_refl _, fun N hN _ hG => ⟨N, hN, hG⟩⟩
    | some i =>
      obtain ⟨hi, hgi, k, hk, hkl⟩ := stepG_some hs
      obtain ⟨_, _, hcan⟩ := findF_some _ _ hk
      unfold canK at hcan
      simp only [Bool.and_eq_true, decide_eq_true_eq, Bool.not_eq_true'] at hcan
      obtain ⟨⟨hki, hgk⟩, hear⟩ := hcan
      rw [earOK_iff] at hear
      have hgl : i < gone.length := by rw [h.gl]; exact hi
      have hpl : i < par.length := by rw [h.pl]; exact hi
      simp only [hk, oInt?]
      have h2 : GyI ats (rem ++ [(i : Int)]) (par.set i (k : Int)) (gone.set i true) := by
        refine ⟨by simpa using h.gl, by simpa using h.pl, fun j hj => ?_, fun x hx => ?_, fun j hj hg => ?_⟩
        · rw [getD_setB hgl, List.mem_append, List.mem_singleton]
          by_cases e : i = j
          · subst e; simp
          · rw [if_neg e, h.rm j hj]
            constructor
            · exact .inl
            · rintro (a | a)
              · exact a
              · exact absurd (by omega) e
        · rcases List.mem_append.1 hx with a | a
          · exact h.rl x a
          · rw [List.mem_singleton.1 a]; omega
        · rw [getD_setB hgl] at hg
          rw [getD_setI hpl]
          by_cases e : i = j
          · rw [if_pos e] at hg; cases hg
          · rw [if_neg e] at hg ⊢
            exact h.np j hj hg
      obtain ⟨rem2, par2, gone2, e1, e2, ⟨x, e3⟩, e4, e5, e6, e7⟩ := gyo_ext f _ _ _ h2
      have hpi : par2.getD i 0 = (k : Int) := by
        have := (e4 i hi (by rw [getD_setB hgl, if_pos rfl])).1
        rw [this, getD_setI hpl, if_pos rfl]
      have hL := leftN_set hgi
      refine ⟨rem2, par2, gone2, e1, e2, ⟨(i : Int) :: x, by rw [e3]; simp⟩, fun j hj hg => ?_, ?_, ?_, fun N hN hNd hG => ?_⟩
      · have hne : i ≠ j := fun e => by rw [e, hg] at hgi; cases hgi
        obtain ⟨a, b⟩ := e4 j hj (by rw [getD_setB hgl, if_neg hne]; exact hg)
        exact ⟨by rw [a, getD_setI hpl, if_neg hne], b⟩
      · rw [List.length_append, List.length_singleton] at e5 e6
        omega
      · rw [List.length_append, List.length_singleton] at e6
        omega
      · obtain ⟨M, hM, hMG⟩ := e7 N hN hNd hG
        have hMk : k ∈ M := (hM k).2 ⟨hkl, by rw [getD_setB hgl, if_neg (fun e => hki e.symm)]; exact hgk⟩
        have hMi : i ∉ M := fun hm => by
          have := ((hM i).1 hm).2
          rw [getD_setB hgl, if_pos rfl] at this
          cases this
        refine ⟨i :: M, fun j => ?_, .more hMG hi hMi hMk hpi fun v hv j hj hvj => ?_⟩
        · rw [List.mem_cons, hM, getD_setB hgl]
          by_cases e : i = j
          · subst e
            constructor
            · intro _; exact ⟨hi, hgi⟩
            · intro _; exact .inl rfl
          · rw [if_neg e]
            constructor
            · rintro (a | a)
              · exact absurd a.symm e
              · exact a
            · exact .inr
        · obtain ⟨hj1, hj2⟩ := (hM j).1 hj
          have hne : i ≠ j := fun e => hMi (e ▸ hj)
          rw [getD_setB hgl, if_neg hne] at hj2
          exact hear v hv j hj1 (fun e => hne e.symm) hj2 hvj
theorem leftN_range (gone : List Bool) : leftN gone = ((List.range gone.length).filter fun j => !gone.getD j true).length := by
  have e : gone = (List.range gone.length).map fun i => gone.getD i true := by
    apply List.ext_getElem
    · simp
    · intro i h1 h2
      rw [List.getElem_map, List.getElem_range, List.getD_eq_getElem?_getD, List.getElem?_eq_getElem h1]
      rfl
  unfold leftN
  rw [List.countP_eq_length_filter]
  conv => lhs; rw [e, List.filter_map, List.length_map]
  rfl
/-- a query whose atoms can be removed down to one -/
theorem acy_jt {ats : List At} {n : Nat} (_h1 : 1 ≤ ats.length) (h : ((gyoQ ats).1.length : Int) = (ats.length : Int) - 1) (hc : ∀ v : Nat, v < n → ∃ j, j < ats.length ∧ (v : Int) ∈ vof ats j) :
    jtB n ats (gyoQ ats).2 = true ∧ ∃ r : Nat, r < ats.length ∧ (gyoQ ats).2.getD r 0 = -1 ∧ (r : Int) ∉ (gyoQ ats).1 ∧ (∀ j, j < ats.length → j ≠ r → 0 ≤ (gyoQ ats).2.getD j 0 ∧ (gyoQ ats).2.getD j 0 < (ats.length : Int)) ∧ (gyoQ ats).2.length = ats.length := by
  have h0 : GyI ats [] (List.replicate ats.length (-1)) (List.replicate ats.length false) := by
    refine ⟨by simp, by simp, fun j hj => ?_, by simp, fun j hj _ => ?_⟩
    · rw [List.getD_eq_getElem?_getD, List.getElem?_replicate, if_pos hj]; simp
    · rw [List.getD_eq_getElem?_getD, List.getElem?_replicate, if_pos hj]; rfl
  obtain ⟨rem2, par2, gone2, e1, e2, _, e4, e5, e6, e7⟩ := gyo_ext ats.length _ _ _ h0
  have eg : gyoQ ats = (rem2, par2) := e1
  rw [eg] at h ⊢
  simp only at h ⊢
  rw [leftN_rep] at e5
  simp only [List.length_nil, Nat.sub_zero] at e5
  have hl : leftN gone2 = 1 := by omega
  rw [leftN_range, e2.gl] at hl
  obtain ⟨r, hr⟩ := List.length_eq_one_iff.1 hl
  have hmr : ∀ j, j ∈ [r] ↔ j < ats.length ∧ gone2.getD j true = false := fun j => by
    rw [← hr, List.mem_filter, List.mem_range, Bool.not_eq_true']
  obtain ⟨r1, r2⟩ := (hmr r).1 (by simp)
  obtain ⟨M, hM, hG⟩ := e7 [r] hmr (by simp) (.one r1 (e2.np r r1 r2))
  have hM' : ∀ j, j ∈ M ↔ j < ats.length := fun j => by
    rw [hM]
    constructor
    · exact fun h => h.1
    · intro hj
      refine ⟨hj, ?_⟩
      rw [List.getD_eq_getElem?_getD, List.getElem?_replicate, if_pos hj]; rfl
  have hjt := hG.jt e2.pl hM' hc
  refine ⟨hjt, r, r1, e2.np r r1 r2, fun hm => ?_, fun j hj hne => ?_, e2.pl⟩
  · have := (e2.rm r r1).2 hm
    rw [r2] at this
    cases this
  · have hup := (hG.up e2.pl j ((hM' j).2 hj)).1
    have := inB_t hup
    rw [e2.pl] at this
    have hroots := hG.roots
    by_cases hneg : par2.getD j 0 < 0
    · exfalso
      have h2 : (M.filter fun i => decide (par2.getD i 0 < 0)).length = 1 := hroots
      obtain ⟨y, hy⟩ := List.length_eq_one_iff.1 h2
      have hj' : j ∈ [y] := by rw [← hy, List.mem_filter]; exact ⟨(hM' j).2 hj, by simpa using hneg⟩
      have hr' : r ∈ [y] := by rw [← hy, List.mem_filter]; exact ⟨(hM' r).2 r1, by rw [e2.np r r1 r2]; rfl⟩
      rw [List.mem_singleton] at hj' hr'
      exact hne (hj'.trans hr'.symm)
    · omega
end Go.Proofs.Ytbjpkfgkmilkdaa

/- Whether one atom remains, and the join tree; the program's way and the reference's. -/
namespace Go.Proofs.Ytbjpkfgkmilkdaa
open Go.RowKit

set_option maxHeartbeats 4000000 in
theorem IsAcyclic_any {A B : Option Addr} {c e1 : Nat} {d : Qd} {w : World} (hb : BQ d) (h : vQ w [.int .i64 d.1, .slice A d.2.1.length c, .slice B d.2.2.length e1] d) :
    Calls Try.prog 37 #[.agg #[.int .i64 d.1, .slice A d.2.1.length c, .slice B d.2.2.length e1]] w fun e w' => e = .returned (.bool (acyB d)) ∧ ∃ y, w' = ext w y := by
  have HB := Lib.hid hb
  have HV := Lib.hid h
  obtain ⟨r1, r2, _⟩ := vQ_get h
  have ra := (vAts_get r1).2
  clear r1 r2
  obtain ⟨z, ats, out⟩ := d
  dsimp only at ra ⊢
  clear h hb
  obtain ⟨t1, ht1⟩ : ∃ t, vqB (z, ats, out) = t := ⟨_, rfl⟩
  have N1 := Lib.hid ht1
  cases t1 with
  | false =>
    have HE := Lib.hid (show acyB (z, ats, out) = false by unfold acyB; rw [ht1]; rfl)
    clear ht1
    go_enter Try.func37, Try.ntmps37
    go_upto_region 1 with fail
    refine wp_name ?_
    intro W hW
    have xW : ∃ y, W = ext w y := by rw [hW.out]; exact (by refine Chg.isExt (F := []) ?_ (refl_ext _) (by simp); repeat (with_reducible (first | exact Chg.refl _ _ | exact Nat.le_refl _ | exact Chg.ofExt (by assumption) | refine Chg.trans0 ?_ (by assumption) | refine Chg.extS ?_ _ | refine Chg.alloc ?_ _ | refine Chg.drew ?_ | refine Chg.setCellE ?_ ?_ _ | refine le_addk ?_ _ | refine le_ext ?_ | refine le_alloc ?_ _ | refine le_setC ?_ _ _ | refine le_drew ?_ | assumption | (refine Nat.le_of_lt ?_; omega) | omega)))
    have BW0 : BoxAt W (w.heap.size) #[.int .i64 z, .slice A ats.length c, .slice B out.length e1] := by rw [hW.out]; refine ⟨?_, fun j => ?_, fun j => ?_⟩ <;> go_simp
    obtain ⟨lW0, bW0, fW0⟩ := BW0
    have cW0_0 : W.cell? ⟨w.heap.size, 0, none⟩ = some (.int .i64 z) := bW0 0
    have cW0_1 : W.cell? ⟨w.heap.size, 1, none⟩ = some (.slice A ats.length c) := bW0 1
    have cW0_2 : W.cell? ⟨w.heap.size, 2, none⟩ = some (.slice B out.length e1) := bW0 2
    clear hW
    go_wp2
    refine wp_region_ext (by kernel_rfl) (by kernel_rfl) ?_
    repeat (go_big_quiet_step ((go_at_call 29; exact quietEb (IsValidQuery_any (d := (z, ats, out)) HB.out (VD.toExt HV.out (trans_ext xW ⟨_, rfl⟩))) N1.out)))
    refine wpQuiet_nil ?_
    rintro _ ⟨zz, rfl⟩
    go_wp2
    go_ret
    exact ⟨by rw [HE.out]; rfl, (by refine Chg.isExt (F := []) ?_ (refl_ext _) (by simp); repeat (with_reducible (first | exact Chg.refl _ _ | exact Nat.le_refl _ | exact Chg.ofExt (by assumption) | refine Chg.trans0 ?_ (by assumption) | refine Chg.extS ?_ _ | refine Chg.alloc ?_ _ | refine Chg.drew ?_ | refine Chg.setCellE ?_ ?_ _ | refine le_addk ?_ _ | refine le_ext ?_ | refine le_alloc ?_ _ | refine le_setC ?_ _ _ | refine le_drew ?_ | assumption | (refine Nat.le_of_lt ?_; omega) | omega)))⟩
  | true =>
    have HE := Lib.hid (show acyB (z, ats, out) = decide (((gyoQ ats).1.length : Int) = (ats.length : Int) - 1) by unfold acyB; rw [ht1]; rfl)
    have HR := Lib.hid (show remQ (z, ats, out) = (gyoQ ats).1 by unfold remQ; rw [ht1]; rfl)
    obtain ⟨g1, _, g3⟩ := vqB_facts ht1
    dsimp only at g1 g3
    have Hx : Hid (∀ x ∈ ats, x.2.length ≤ 100000000) := Lib.hid fun x hx => by have := (g3 x hx).2; omega
    have HLn := Lib.hid (gyoQ_len ats)
    have g4 : ats.length ≤ 1000 := by omega
    clear ht1 g3
    go_enter Try.func37, Try.ntmps37
    go_upto_region 1 with fail
    refine wp_name ?_
    intro W hW
    have xW : ∃ y, W = ext w y := by rw [hW.out]; exact (by refine Chg.isExt (F := []) ?_ (refl_ext _) (by simp); repeat (with_reducible (first | exact Chg.refl _ _ | exact Nat.le_refl _ | exact Chg.ofExt (by assumption) | refine Chg.trans0 ?_ (by assumption) | refine Chg.extS ?_ _ | refine Chg.alloc ?_ _ | refine Chg.drew ?_ | refine Chg.setCellE ?_ ?_ _ | refine le_addk ?_ _ | refine le_ext ?_ | refine le_alloc ?_ _ | refine le_setC ?_ _ _ | refine le_drew ?_ | assumption | (refine Nat.le_of_lt ?_; omega) | omega)))
    have BW0 : BoxAt W (w.heap.size) #[.int .i64 z, .slice A ats.length c, .slice B out.length e1] := by rw [hW.out]; refine ⟨?_, fun j => ?_, fun j => ?_⟩ <;> go_simp
    obtain ⟨lW0, bW0, fW0⟩ := BW0
    have cW0_0 : W.cell? ⟨w.heap.size, 0, none⟩ = some (.int .i64 z) := bW0 0
    have cW0_1 : W.cell? ⟨w.heap.size, 1, none⟩ = some (.slice A ats.length c) := bW0 1
    have cW0_2 : W.cell? ⟨w.heap.size, 2, none⟩ = some (.slice B out.length e1) := bW0 2
    clear hW
    have g9 := HLn.out.1
    obtain ⟨L, hL⟩ : ∃ L, (gyoQ ats).1 = L := ⟨_, rfl⟩
    rw [hL] at g9
    have HLL := Lib.hid hL
    clear hL HLn
    go_wp2
    go_region_held3 (fun w' => (∀ a : Addr, a.block < W.heap.size → w'.cell? a = W.cell? a) ∧ ∃ y, w' = ext W y) (first | exact heldE (by refine Chg.isExt (F := []) ?_ (refl_ext _) (by simp); repeat (with_reducible (first | exact Chg.refl _ _ | exact Nat.le_refl _ | exact Chg.ofExt (by assumption) | refine Chg.trans0 ?_ (by assumption) | refine Chg.extS ?_ _ | refine Chg.alloc ?_ _ | refine Chg.drew ?_ | refine Chg.setCellE ?_ ?_ _ | refine le_addk ?_ _ | refine le_ext ?_ | refine le_alloc ?_ _ | refine le_setC ?_ _ _ | refine le_drew ?_ | assumption | (refine Nat.le_of_lt ?_; omega) | omega))))
      (first
        | (go_at_call 29; refine (IsValidQuery_any (d := (z, ats, out)) HB.out (VD.toExt HV.out (by refine Chg.isExt (F := []) ?_ (refl_ext _) (by simp); repeat (with_reducible (first | exact Chg.refl _ _ | exact Nat.le_refl _ | exact Chg.ofExt (by assumption) | refine Chg.trans0 ?_ (by assumption) | refine Chg.extS ?_ _ | refine Chg.alloc ?_ _ | refine Chg.drew ?_ | refine Chg.setCellE ?_ ?_ _ | refine le_addk ?_ _ | refine le_ext ?_ | refine le_alloc ?_ _ | refine le_setC ?_ _ _ | refine le_drew ?_ | assumption | (refine Nat.le_of_lt ?_; omega) | omega))))).mono ?_; rintro e w1 ⟨rfl, hx1⟩; rw [N1.out])
        | (go_at_call 34; refine (RemovableAtoms_any (d := (z, ats, out)) HB.out (VD.toExt HV.out (by refine Chg.isExt (F := []) ?_ (refl_ext _) (by simp); repeat (with_reducible (first | exact Chg.refl _ _ | exact Nat.le_refl _ | exact Chg.ofExt (by assumption) | refine Chg.trans0 ?_ (by assumption) | refine Chg.extS ?_ _ | refine Chg.alloc ?_ _ | refine Chg.drew ?_ | refine Chg.setCellE ?_ ?_ _ | refine le_addk ?_ _ | refine le_ext ?_ | refine le_alloc ?_ _ | refine le_setC ?_ _ _ | refine le_drew ?_ | assumption | (refine Nat.le_of_lt ?_; omega) | omega))))).mono ?_; rintro e w2 ⟨v2, F2, rfl, hx2, hS2, hF2⟩; rw [HR.out, HLL.out] at hS2; obtain ⟨A2, c2, rfl, _⟩ := hS2.form))
    all_goals
      go_wp2
      go_ret
      exact ⟨by rw [HE.out, HLL.out]; exact congrArg (fun b => Ending.returned (Value.bool b)) (show ((L.length : Int) == IntKind.i64.wrap ((ats.length : Int) - 1)) = decide ((L.length : Int) = (ats.length : Int) - 1) by rw [IntWalk.i64_in _ (by omega)]; rfl), (by refine Chg.isExt (F := []) ?_ (refl_ext _) (by simp); repeat (with_reducible (first | exact Chg.refl _ _ | exact Nat.le_refl _ | exact Chg.ofExt (by assumption) | refine Chg.trans0 ?_ (by assumption) | refine Chg.extS ?_ _ | refine Chg.alloc ?_ _ | refine Chg.drew ?_ | refine Chg.setCellE ?_ ?_ _ | refine le_addk ?_ _ | refine le_ext ?_ | refine le_alloc ?_ _ | refine le_setC ?_ _ _ | refine le_drew ?_ | assumption | (refine Nat.le_of_lt ?_; omega) | omega)))⟩
set_option maxHeartbeats 4000000 in
theorem specIsAcyclic_any {A B : Option Addr} {c e1 : Nat} {d : Qd} {w : World} (hb : BQ d) (h : vQ w [.int .i64 d.1, .slice A d.2.1.length c, .slice B d.2.2.length e1] d) :
    Calls Try.prog 38 #[.agg #[.int .i64 d.1, .slice A d.2.1.length c, .slice B d.2.2.length e1]] w fun e w' => e = .returned (.bool (acyB d)) ∧ ∃ y, w' = ext w y := by
  have HB := Lib.hid hb
  have HV := Lib.hid h
  obtain ⟨r1, r2, _⟩ := vQ_get h
  have ra := (vAts_get r1).2
  clear r1 r2
  obtain ⟨z, ats, out⟩ := d
  dsimp only at ra ⊢
  clear h hb
  obtain ⟨t1, ht1⟩ : ∃ t, vqB (z, ats, out) = t := ⟨_, rfl⟩
  have N1 := Lib.hid ht1
  cases t1 with
  | false =>
    have HE := Lib.hid (show acyB (z, ats, out) = false by unfold acyB; rw [ht1]; rfl)
    clear ht1
    go_enter Try.func38, Try.ntmps38
    go_upto_region 1 with fail
    refine wp_name ?_
    intro W hW
    have xW : ∃ y, W = ext w y := by rw [hW.out]; exact (by refine Chg.isExt (F := []) ?_ (refl_ext _) (by simp); repeat (with_reducible (first | exact Chg.refl _ _ | exact Nat.le_refl _ | exact Chg.ofExt (by assumption) | refine Chg.trans0 ?_ (by assumption) | refine Chg.extS ?_ _ | refine Chg.alloc ?_ _ | refine Chg.drew ?_ | refine Chg.setCellE ?_ ?_ _ | refine le_addk ?_ _ | refine le_ext ?_ | refine le_alloc ?_ _ | refine le_setC ?_ _ _ | refine le_drew ?_ | assumption | (refine Nat.le_of_lt ?_; omega) | omega)))
    have BW0 : BoxAt W (w.heap.size) #[.int .i64 z, .slice A ats.length c, .slice B out.length e1] := by rw [hW.out]; refine ⟨?_, fun j => ?_, fun j => ?_⟩ <;> go_simp
    obtain ⟨lW0, bW0, fW0⟩ := BW0
    have cW0_0 : W.cell? ⟨w.heap.size, 0, none⟩ = some (.int .i64 z) := bW0 0
    have cW0_1 : W.cell? ⟨w.heap.size, 1, none⟩ = some (.slice A ats.length c) := bW0 1
    have cW0_2 : W.cell? ⟨w.heap.size, 2, none⟩ = some (.slice B out.length e1) := bW0 2
    clear hW
    go_wp2
    refine wp_region_ext (by kernel_rfl) (by kernel_rfl) ?_
    repeat (go_big_quiet_step ((go_at_call 28; exact quietEb (specIsValidQuery_any (d := (z, ats, out)) HB.out (VD.toExt HV.out (trans_ext xW ⟨_, rfl⟩))) N1.out)))
    refine wpQuiet_nil ?_
    rintro _ ⟨zz, rfl⟩
    go_wp2
    go_ret
    exact ⟨by rw [HE.out]; rfl, (by refine Chg.isExt (F := []) ?_ (refl_ext _) (by simp); repeat (with_reducible (first | exact Chg.refl _ _ | exact Nat.le_refl _ | exact Chg.ofExt (by assumption) | refine Chg.trans0 ?_ (by assumption) | refine Chg.extS ?_ _ | refine Chg.alloc ?_ _ | refine Chg.drew ?_ | refine Chg.setCellE ?_ ?_ _ | refine le_addk ?_ _ | refine le_ext ?_ | refine le_alloc ?_ _ | refine le_setC ?_ _ _ | refine le_drew ?_ | assumption | (refine Nat.le_of_lt ?_; omega) | omega)))⟩
  | true =>
    have HE := Lib.hid (show acyB (z, ats, out) = decide (((gyoQ ats).1.length : Int) = (ats.length : Int) - 1) by unfold acyB; rw [ht1]; rfl)
    have HR := Lib.hid (show remQ (z, ats, out) = (gyoQ ats).1 by unfold remQ; rw [ht1]; rfl)
    obtain ⟨g1, _, g3⟩ := vqB_facts ht1
    dsimp only at g1 g3
    have Hx : Hid (∀ x ∈ ats, x.2.length ≤ 100000000) := Lib.hid fun x hx => by have := (g3 x hx).2; omega
    have HLn := Lib.hid (gyoQ_len ats)
    have g4 : ats.length ≤ 1000 := by omega
    clear ht1 g3
    go_enter Try.func38, Try.ntmps38
    go_upto_region 1 with fail
    refine wp_name ?_
    intro W hW
    have xW : ∃ y, W = ext w y := by rw [hW.out]; exact (by refine Chg.isExt (F := []) ?_ (refl_ext _) (by simp); repeat (with_reducible (first | exact Chg.refl _ _ | exact Nat.le_refl _ | exact Chg.ofExt (by assumption) | refine Chg.trans0 ?_ (by assumption) | refine Chg.extS ?_ _ | refine Chg.alloc ?_ _ | refine Chg.drew ?_ | refine Chg.setCellE ?_ ?_ _ | refine le_addk ?_ _ | refine le_ext ?_ | refine le_alloc ?_ _ | refine le_setC ?_ _ _ | refine le_drew ?_ | assumption | (refine Nat.le_of_lt ?_; omega) | omega)))
    have BW0 : BoxAt W (w.heap.size) #[.int .i64 z, .slice A ats.length c, .slice B out.length e1] := by rw [hW.out]; refine ⟨?_, fun j => ?_, fun j => ?_⟩ <;> go_simp
    obtain ⟨lW0, bW0, fW0⟩ := BW0
    have cW0_0 : W.cell? ⟨w.heap.size, 0, none⟩ = some (.int .i64 z) := bW0 0
    have cW0_1 : W.cell? ⟨w.heap.size, 1, none⟩ = some (.slice A ats.length c) := bW0 1
    have cW0_2 : W.cell? ⟨w.heap.size, 2, none⟩ = some (.slice B out.length e1) := bW0 2
    clear hW
    have g9 := HLn.out.1
    obtain ⟨L, hL⟩ : ∃ L, (gyoQ ats).1 = L := ⟨_, rfl⟩
    rw [hL] at g9
    have HLL := Lib.hid hL
    clear hL HLn
    go_wp2
    go_region_held3 (fun w' => (∀ a : Addr, a.block < W.heap.size → w'.cell? a = W.cell? a) ∧ ∃ y, w' = ext W y) (first | exact heldE (by refine Chg.isExt (F := []) ?_ (refl_ext _) (by simp); repeat (with_reducible (first | exact Chg.refl _ _ | exact Nat.le_refl _ | exact Chg.ofExt (by assumption) | refine Chg.trans0 ?_ (by assumption) | refine Chg.extS ?_ _ | refine Chg.alloc ?_ _ | refine Chg.drew ?_ | refine Chg.setCellE ?_ ?_ _ | refine le_addk ?_ _ | refine le_ext ?_ | refine le_alloc ?_ _ | refine le_setC ?_ _ _ | refine le_drew ?_ | assumption | (refine Nat.le_of_lt ?_; omega) | omega))))
      (first
        | (go_at_call 28; refine (specIsValidQuery_any (d := (z, ats, out)) HB.out (VD.toExt HV.out (by refine Chg.isExt (F := []) ?_ (refl_ext _) (by simp); repeat (with_reducible (first | exact Chg.refl _ _ | exact Nat.le_refl _ | exact Chg.ofExt (by assumption) | refine Chg.trans0 ?_ (by assumption) | refine Chg.extS ?_ _ | refine Chg.alloc ?_ _ | refine Chg.drew ?_ | refine Chg.setCellE ?_ ?_ _ | refine le_addk ?_ _ | refine le_ext ?_ | refine le_alloc ?_ _ | refine le_setC ?_ _ _ | refine le_drew ?_ | assumption | (refine Nat.le_of_lt ?_; omega) | omega))))).mono ?_; rintro e w1 ⟨rfl, hx1⟩; rw [N1.out])
        | (go_at_call 36; refine (specRemovableAtoms_any (d := (z, ats, out)) HB.out (VD.toExt HV.out (by refine Chg.isExt (F := []) ?_ (refl_ext _) (by simp); repeat (with_reducible (first | exact Chg.refl _ _ | exact Nat.le_refl _ | exact Chg.ofExt (by assumption) | refine Chg.trans0 ?_ (by assumption) | refine Chg.extS ?_ _ | refine Chg.alloc ?_ _ | refine Chg.drew ?_ | refine Chg.setCellE ?_ ?_ _ | refine le_addk ?_ _ | refine le_ext ?_ | refine le_alloc ?_ _ | refine le_setC ?_ _ _ | refine le_drew ?_ | assumption | (refine Nat.le_of_lt ?_; omega) | omega))))).mono ?_; rintro e w2 ⟨v2, F2, rfl, hx2, hS2, hF2⟩; rw [HR.out, HLL.out] at hS2; obtain ⟨A2, c2, rfl, _⟩ := hS2.form))
    all_goals
      go_wp2
      go_ret
      exact ⟨by rw [HE.out, HLL.out]; exact congrArg (fun b => Ending.returned (Value.bool b)) (show ((L.length : Int) == IntKind.i64.wrap ((ats.length : Int) - 1)) = decide ((L.length : Int) = (ats.length : Int) - 1) by rw [IntWalk.i64_in _ (by omega)]; rfl), (by refine Chg.isExt (F := []) ?_ (refl_ext _) (by simp); repeat (with_reducible (first | exact Chg.refl _ _ | exact Nat.le_refl _ | exact Chg.ofExt (by assumption) | refine Chg.trans0 ?_ (by assumption) | refine Chg.extS ?_ _ | refine Chg.alloc ?_ _ | refine Chg.drew ?_ | refine Chg.setCellE ?_ ?_ _ | refine le_addk ?_ _ | refine le_ext ?_ | refine le_alloc ?_ _ | refine le_setC ?_ _ _ | refine le_drew ?_ | assumption | (refine Nat.le_of_lt ?_; omega) | omega)))⟩
end Go.Proofs.Ytbjpkfgkmilkdaa

/- Whether one atom remains, and the join tree; the program's way and the reference's. -/
namespace Go.Proofs.Ytbjpkfgkmilkdaa
open Go.RowKit

def JtP (d : Qd) (w : World) (e : Ending) (w' : World) : Prop := ∃ v F, e = .returned (.tuple #[.agg #[v], .bool (acyB d)]) ∧ (∃ y, w' = ext w y) ∧ SV 3 1 sI w' v (jtQ d) F ∧ ∀ b ∈ F, w.heap.size ≤ b
set_option maxHeartbeats 4000000 in
theorem BuildJoinTree_any {A B : Option Addr} {c e1 : Nat} {d : Qd} {w : World} (hb : BQ d) (h : vQ w [.int .i64 d.1, .slice A d.2.1.length c, .slice B d.2.2.length e1] d) :
    Calls Try.prog 33 #[.agg #[.int .i64 d.1, .slice A d.2.1.length c, .slice B d.2.2.length e1]] w (JtP d w) := by
  have HB := Lib.hid hb
  have HV := Lib.hid h
  obtain ⟨r1, r2, _⟩ := vQ_get h
  have ra := (vAts_get r1).2
  clear r1 r2
  obtain ⟨z, ats, out⟩ := d
  dsimp only at ra ⊢
  clear h hb
  obtain ⟨t1, ht1⟩ : ∃ t, acyB (z, ats, out) = t := ⟨_, rfl⟩
  have N1 := Lib.hid ht1
  cases t1 with
  | false =>
    have HE := Lib.hid (show jtQ (z, ats, out) = [] by unfold jtQ; rw [ht1]; rfl)
    clear ht1
    go_enter Try.func33, Try.ntmps33
    go_upto_region 1 with fail
    refine wp_name ?_
    intro W hW
    have xW : ∃ y, W = ext w y := by rw [hW.out]; exact (by refine Chg.isExt (F := []) ?_ (refl_ext _) (by simp); repeat (with_reducible (first | exact Chg.refl _ _ | exact Nat.le_refl _ | exact Chg.ofExt (by assumption) | refine Chg.trans0 ?_ (by assumption) | refine Chg.extS ?_ _ | refine Chg.alloc ?_ _ | refine Chg.drew ?_ | refine Chg.setCellE ?_ ?_ _ | refine le_addk ?_ _ | refine le_ext ?_ | refine le_alloc ?_ _ | refine le_setC ?_ _ _ | refine le_drew ?_ | assumption | (refine Nat.le_of_lt ?_; omega) | omega)))
    have BW0 : BoxAt W (w.heap.size) #[.int .i64 z, .slice A ats.length c, .slice B out.length e1] := by rw [hW.out]; refine ⟨?_, fun j => ?_, fun j => ?_⟩ <;> go_simp
    obtain ⟨lW0, bW0, fW0⟩ := BW0
    have cW0_0 : W.cell? ⟨w.heap.size, 0, none⟩ = some (.int .i64 z) := bW0 0
    have cW0_1 : W.cell? ⟨w.heap.size, 1, none⟩ = some (.slice A ats.length c) := bW0 1
    have cW0_2 : W.cell? ⟨w.heap.size, 2, none⟩ = some (.slice B out.length e1) := bW0 2
    have BW1 : BoxAt W (w.heap.size + 1) #[.slice none 0 0] := by rw [hW.out]; refine ⟨?_, fun j => ?_, fun j => ?_⟩ <;> go_simp
    obtain ⟨lW1, bW1, fW1⟩ := BW1
    have cW1_0 : W.cell? ⟨w.heap.size + 1, 0, none⟩ = some (.slice none 0 0) := bW1 0
    clear hW
    go_wp2_with (go_at_call 37; refine (IsAcyclic_any (d := (z, ats, out)) HB.out (VD.toExt HV.out (by refine Chg.isExt (F := []) ?_ (refl_ext _) (by simp); repeat (with_reducible (first | exact Chg.refl _ _ | exact Nat.le_refl _ | exact Chg.ofExt (by assumption) | refine Chg.trans0 ?_ (by assumption) | refine Chg.extS ?_ _ | refine Chg.alloc ?_ _ | refine Chg.drew ?_ | refine Chg.setCellE ?_ ?_ _ | refine le_addk ?_ _ | refine le_ext ?_ | refine le_alloc ?_ _ | refine le_setC ?_ _ _ | refine le_drew ?_ | assumption | (refine Nat.le_of_lt ?_; omega) | omega))))).mono ?_; rintro e w1 ⟨rfl, hx1⟩; rw [N1.out]; have R1 := BoxAt.toExt (cs := #[.slice none 0 0]) ⟨lW1, bW1, fW1⟩ hx1; obtain ⟨l1, a1, f1⟩ := box1 R1)
    exact bodyPost_ret (v := .tuple #[.agg #[.slice none 0 0], .bool false]) (by simp [results, Try.results33, go_sem, *]) rfl ⟨_, [], by rw [N1.out], (by refine Chg.isExt (F := []) ?_ (refl_ext _) (by simp); repeat (with_reducible (first | exact Chg.refl _ _ | exact Nat.le_refl _ | exact Chg.ofExt (by assumption) | refine Chg.trans0 ?_ (by assumption) | refine Chg.extS ?_ _ | refine Chg.alloc ?_ _ | refine Chg.drew ?_ | refine Chg.setCellE ?_ ?_ _ | refine le_addk ?_ _ | refine le_ext ?_ | refine le_alloc ?_ _ | refine le_setC ?_ _ _ | refine le_drew ?_ | assumption | (refine Nat.le_of_lt ?_; omega) | omega))), by rw [HE.out]; exact SV.nil, by simp⟩
  | true =>
    have HE := Lib.hid (show jtQ (z, ats, out) = (gyoQ ats).2 by unfold jtQ; rw [ht1]; rfl)
    have hv1 : vqB (z, ats, out) = true := by unfold acyB at ht1; rw [Bool.and_eq_true] at ht1; exact ht1.1
    have HAC := Lib.hid ht1
    clear ht1
    have ht1 := hv1
    have ht2 := hv1
    clear hv1
    obtain ⟨g1, _, g3⟩ := vqB_facts ht1
    dsimp only at g1 g3
    have Hx : Hid (∀ x ∈ ats, x.2.length ≤ 100000000) := Lib.hid fun x hx => by have := (g3 x hx).2; omega
    have HLn := Lib.hid (gyoQ_len ats)
    have g4 : ats.length ≤ 1000 := by omega
    clear ht1 g3
    clear ht2
    go_enter Try.func33, Try.ntmps33
    go_upto_region 1 with fail
    refine wp_name ?_
    intro W hW
    have xW : ∃ y, W = ext w y := by rw [hW.out]; exact (by refine Chg.isExt (F := []) ?_ (refl_ext _) (by simp); repeat (with_reducible (first | exact Chg.refl _ _ | exact Nat.le_refl _ | exact Chg.ofExt (by assumption) | refine Chg.trans0 ?_ (by assumption) | refine Chg.extS ?_ _ | refine Chg.alloc ?_ _ | refine Chg.drew ?_ | refine Chg.setCellE ?_ ?_ _ | refine le_addk ?_ _ | refine le_ext ?_ | refine le_alloc ?_ _ | refine le_setC ?_ _ _ | refine le_drew ?_ | assumption | (refine Nat.le_of_lt ?_; omega) | omega)))
    have BW0 : BoxAt W (w.heap.size) #[.int .i64 z, .slice A ats.length c, .slice B out.length e1] := by rw [hW.out]; refine ⟨?_, fun j => ?_, fun j => ?_⟩ <;> go_simp
    obtain ⟨lW0, bW0, fW0⟩ := BW0
    have cW0_0 : W.cell? ⟨w.heap.size, 0, none⟩ = some (.int .i64 z) := bW0 0
    have cW0_1 : W.cell? ⟨w.heap.size, 1, none⟩ = some (.slice A ats.length c) := bW0 1
    have cW0_2 : W.cell? ⟨w.heap.size, 2, none⟩ = some (.slice B out.length e1) := bW0 2
    have BW1 : BoxAt W (w.heap.size + 1) #[.slice none 0 0] := by rw [hW.out]; refine ⟨?_, fun j => ?_, fun j => ?_⟩ <;> go_simp
    obtain ⟨lW1, bW1, fW1⟩ := BW1
    have cW1_0 : W.cell? ⟨w.heap.size + 1, 0, none⟩ = some (.slice none 0 0) := bW1 0
    clear hW
    have Z1 : w.heap.size < w.heap.size + 1 := by omega
    go_wp2_with (first
      | (go_at_call 37; refine (IsAcyclic_any (d := (z, ats, out)) HB.out (VD.toExt HV.out (by refine Chg.isExt (F := []) ?_ (refl_ext _) (by simp); repeat (with_reducible (first | exact Chg.refl _ _ | exact Nat.le_refl _ | exact Chg.ofExt (by assumption) | refine Chg.trans0 ?_ (by assumption) | refine Chg.extS ?_ _ | refine Chg.alloc ?_ _ | refine Chg.drew ?_ | refine Chg.setCellE ?_ ?_ _ | refine le_addk ?_ _ | refine le_ext ?_ | refine le_alloc ?_ _ | refine le_setC ?_ _ _ | refine le_drew ?_ | assumption | (refine Nat.le_of_lt ?_; omega) | omega))))).mono ?_; rintro e w1 ⟨rfl, hx1⟩; rw [N1.out]; have R1 := BoxAt.toExt (cs := #[.slice none 0 0]) ⟨lW1, bW1, fW1⟩ hx1; have P1 := BoxAt.toExt (cs := #[.int .i64 z, .slice A ats.length c, .slice B out.length e1]) ⟨lW0, bW0, fW0⟩ hx1; obtain ⟨l0, a0, a0', a0'', f0⟩ := box3 P1)
      | (go_at_call 81; refine (reduce_any g4 Hx.out (ra.toExt (by refine Chg.isExt (F := []) ?_ (refl_ext _) (by simp); repeat (with_reducible (first | exact Chg.refl _ _ | exact Nat.le_refl _ | exact Chg.ofExt (by assumption) | refine Chg.trans0 ?_ (by assumption) | refine Chg.extS ?_ _ | refine Chg.alloc ?_ _ | refine Chg.drew ?_ | refine Chg.setCellE ?_ ?_ _ | refine le_addk ?_ _ | refine le_ext ?_ | refine le_alloc ?_ _ | refine le_setC ?_ _ _ | refine le_drew ?_ | assumption | (refine Nat.le_of_lt ?_; omega) | omega))))).mono ?_; rintro e w2 ⟨v1, v2, F1, F2, rfl, hx2, hS1, hS2, hF1, hF2⟩; obtain ⟨A2, c2, rfl, _⟩ := hS2.form; have R2 := R1.toExt hx2; obtain ⟨l2, a2, f2⟩ := box1 R2))
    have hz2 := size_of_ext xW
    have hz1 := size_of_ext hx1
    have hF3 : ∀ b ∈ F2, b ∉ [w.heap.size + 1] := fun b hb h => by have := hF2 b hb; simp at h; omega
    have hS3 := hS2.chg ((Chg.refl [w.heap.size + 1] w2).setCell (p := ⟨w.heap.size + 1, 0, none⟩) (.inl (by simp)) (.slice A2 (gyoQ ats).2.length c2)) hF3
    exact bodyPost_ret (v := .tuple #[.agg #[.slice A2 (gyoQ ats).2.length c2], .bool true]) (by simp [results, Try.results33, go_sem, *]) rfl ⟨_, F2, by rw [N1.out], (by refine Chg.isExt (F := []) ?_ (refl_ext _) (by simp); repeat (with_reducible (first | exact Chg.refl _ _ | exact Nat.le_refl _ | exact Chg.ofExt (by assumption) | refine Chg.trans0 ?_ (by assumption) | refine Chg.extS ?_ _ | refine Chg.alloc ?_ _ | refine Chg.drew ?_ | refine Chg.setCellE ?_ ?_ _ | refine le_addk ?_ _ | refine le_ext ?_ | refine le_alloc ?_ _ | refine le_setC ?_ _ _ | refine le_drew ?_ | assumption | (refine Nat.le_of_lt ?_; omega) | omega))), by rw [HE.out]; exact hS3, fun b hb => Nat.le_trans (size_of_ext (by refine Chg.isExt (F := []) ?_ (refl_ext _) (by simp); repeat (with_reducible (first | exact Chg.refl _ _ | exact Nat.le_refl _ | exact Chg.ofExt (by assumption) | refine Chg.trans0 ?_ (by assumption) | refine Chg.extS ?_ _ | refine Chg.alloc ?_ _ | refine Chg.drew ?_ | refine Chg.setCellE ?_ ?_ _ | refine le_addk ?_ _ | refine le_ext ?_ | refine le_alloc ?_ _ | refine le_setC ?_ _ _ | refine le_drew ?_ | assumption | (refine Nat.le_of_lt ?_; omega) | omega)))) (hF2 b hb)⟩
end Go.Proofs.Ytbjpkfgkmilkdaa

/- Whether parents are a join tree of a query: what the program's and the reference's helpers give. -/
namespace Go.Proofs.Ytbjpkfgkmilkdaa
open Go.RowKit

theorem RV.atIv {w : World} {b o : Nat} {d : List Int} (h : RI w (some ⟨b, o, none⟩) d) {k : Nat} (hk : k < d.length) : b < w.heap.size ∧ w.cell? ⟨b, o + k, none⟩ = some (.int .i64 (d.getD k 0)) := by
  obtain ⟨b', o', e, h1, h2⟩ := h.atI hk
  injection e with e
  injection e with e1 e2 _
  subst e1 e2
  exact ⟨h1, by rw [h2, List.getD_eq_getElem?_getD, List.getElem?_eq_getElem hk]; rfl⟩
theorem rootsG_snoc : ∀ (l : List Int) (r p : Int), rootsG r (l ++ [p]) = if p < 0 then rootsG r l + 1 else rootsG r l
  | [], r, p => by simp [rootsG]
  | x :: l, r, p => by
    rw [List.cons_append, rootsG, rootsG, rootsG_snoc l]
theorem rootsG_take {ps : List Int} {k : Nat} (h : k < ps.length) : rootsG 0 (ps.take (k + 1)) = if ps.getD k 0 < 0 then rootsG 0 (ps.take k) + 1 else rootsG 0 (ps.take k) := by
  rw [List.take_succ_eq_append_getElem h, rootsG_snoc, List.getD_eq_getElem?_getD, List.getElem?_eq_getElem h]
  rfl
theorem rootsG_bd : ∀ (l : List Int) (r : Int), r ≤ rootsG r l ∧ rootsG r l ≤ r + l.length
  | [], r => by simp [rootsG]
  | x :: l, r => by
    have := rootsG_bd l (if x < 0 then r + 1 else r)
    rw [rootsG, List.length_cons]
    split at this <;> rename_i h <;> simp only [h, if_true, if_false] <;> omega
theorem treeB_f {ps : List Int} (h : allF (upB ps) ps.length 0 = false) : treeB ps = false := by unfold treeB; rw [h]; rfl
set_option maxRecDepth 100000 in
set_option maxHeartbeats 8000000 in
theorem isTree_any {A : Option Addr} {c : Nat} {ps : List Int} {w : World} (hx : ps.length ≤ 100000000) (h1 : RI w A ps) :
    Calls Try.prog 83 #[.slice A ps.length c] w fun e w' => e = .returned (.bool (treeB ps)) ∧ w = w' := by
  go_enter Try.func83, Try.ntmps83
  go_wp2
  go_loop [3, 10] (fun r i => ∃ k : Nat, i = .int .i64 k ∧ r = .int .i64 (rootsG 0 (ps.take k)) ∧ k ≤ ps.length ∧ Hid (allF (upB ps) (ps.length - k) k = allF (upB ps) ps.length 0)) (fun _ i => ps.length - (intOf i).toNat)
  case atStart => exact ⟨0, rfl, by simp [rootsG], by omega, Lib.hid rfl⟩
  case round =>
    obtain ⟨k, rfl, rfl, hk, Hj⟩ := hrel
    have hrb := rootsG_bd (ps.take k) 0
    have hrl : (ps.take k).length = k := by simp; omega
    by_cases hlt : k < ps.length
    · obtain ⟨b, o, rfl⟩ := h1.place (by omega)
      obtain ⟨hb, hc⟩ := h1.atIv hlt
      have hst := rootsG_take hlt
      have e := Hj.out
      rw [allF_step hlt] at e
      have eU : upB ps k = (inB (ps.getD k 0) (-1) ((ps.length : Int) - 1) && clB ps (ps.length + 1) k) := rfl
      rw [eU] at e
      obtain ⟨R, hR⟩ : ∃ R, rootsG 0 (ps.take k) = R := ⟨_, rfl⟩
      obtain ⟨p, hp⟩ : ∃ p, ps.getD k 0 = p := ⟨_, rfl⟩
      rw [hR] at hst hrb ⊢
      rw [hp] at hst hc e
      rw [hrl] at hrb
      obtain ⟨t1, ht1⟩ : ∃ t, inB p (-1) ((ps.length : Int) - 1) = t := ⟨_, rfl⟩
      rw [ht1] at e
      have N1 := Lib.hid ht1
      have He := Lib.hid e
      have HST := Lib.hid hst
      clear e eU hR hp ht1 hst hrl Hj
      obtain ⟨hr1, hr2⟩ := hrb
      cases t1 with
      | false =>
        have HT := Lib.hid (treeB_f (ps := ps) (by rw [← He.out]; rfl))
        go_wp2_with (go_at_call 76; refine (within_any _ _ _ _).mono ?_; rintro e w' ⟨rfl, rfl⟩; rw [N1.out])
        go_ret
        exact ⟨by rw [HT.out]; rfl, rfl⟩
      | true =>
        have hpb := inB_t N1.out
        by_cases hp0 : p < 0
        all_goals
          have HS2 := Lib.hid HST.out
          first
            | (have HS3 : Hid (rootsG 0 (ps.take (k + 1)) = R + 1) := Lib.hid (by rw [HST.out, if_pos hp0]))
            | (have HS3 : Hid (rootsG 0 (ps.take (k + 1)) = R) := Lib.hid (by rw [HST.out, if_neg hp0]))
          go_wp2_with (go_at_call 76; refine (within_any _ _ _ _).mono ?_; rintro e w' ⟨rfl, rfl⟩; rw [N1.out])
          go_loop [6, 7] (fun a q => ∃ (av : Int) (q' : Nat), a = .int .i64 av ∧ q = .int .i64 q' ∧ q' ≤ ps.length + 1 ∧ av ≤ (ps.length : Int) - 1 ∧ Hid (clB ps (ps.length + 1 - q') av = clB ps (ps.length + 1) k)) (fun _ q => ps.length + 1 - (intOf q).toNat)
          case atStart => exact ⟨(k : Int), 0, rfl, rfl, by omega, by omega, Lib.hid rfl⟩
          case round =>
            obtain ⟨av, q, rfl, rfl, hq, hav, Hq⟩ := hrel
            by_cases hql : q ≤ ps.length
            · by_cases ha : 0 ≤ av
              · obtain ⟨a, rfl⟩ : ∃ a : Nat, av = a := ⟨av.toNat, by omega⟩
                obtain ⟨_, hc2⟩ := h1.atIv (k := a) (by omega)
                have e := Hq.out
                rw [show ps.length + 1 - q = (ps.length - q) + 1 by omega, clB, if_neg (by omega), show ((a : Int)).toNat = a by omega] at e
                obtain ⟨p2, hp2⟩ : ∃ p, ps.getD a 0 = p := ⟨_, rfl⟩
                rw [hp2] at hc2 e
                obtain ⟨t2, ht2⟩ : ∃ t, inB p2 (-1) ((ps.length : Int) - 1) = t := ⟨_, rfl⟩
                rw [ht2] at e
                have N2 := Lib.hid ht2
                have He2 := Lib.hid e
                clear e hp2 ht2 Hq
                cases t2 with
                | false =>
                  have HT := Lib.hid (treeB_f (ps := ps) (by rw [← He.out, ← He2.out]; rfl))
                  go_wp2_with (go_at_call 76; refine (within_any _ _ _ _).mono ?_; rintro e w' ⟨rfl, rfl⟩; rw [N2.out])
                  go_ret
                  exact ⟨by rw [HT.out]; rfl, rfl⟩
                | true =>
                  have hpb2 := inB_t N2.out
                  go_wp2_with (go_at_call 76; refine (within_any _ _ _ _).mono ?_; rintro e w' ⟨rfl, rfl⟩; rw [N2.out])
                  exact ⟨⟨p2, q + 1, rfl, by go_num, by omega, by omega, Lib.hid (by rw [show ps.length + 1 - (q + 1) = ps.length - q by omega]; simpa using He2.out)⟩, by simp [intOf]; omega⟩
              · have e := Hq.out
                rw [show ps.length + 1 - q = (ps.length - q) + 1 by omega, clB, if_pos (by omega)] at e
                have HK := Lib.hid (show allF (upB ps) (ps.length - (k + 1)) (k + 1) = allF (upB ps) ps.length 0 by have := He.out; rw [← e] at this; simpa using this)
                clear e Hq
                go_wp2
                exact ⟨⟨k + 1, by go_num, by rw [HS3.out], by omega, HK⟩, by simp [intOf]; omega⟩
            · have e := Hq.out
              rw [show ps.length + 1 - q = 0 by omega, clB] at e
              by_cases ha : 0 ≤ av
              · have HT := Lib.hid (treeB_f (ps := ps) (by rw [← He.out, ← e, decide_eq_false (by omega)]; rfl))
                clear e Hq
                go_wp2
                go_ret
                exact ⟨by rw [HT.out]; rfl, rfl⟩
              · have HK := Lib.hid (show allF (upB ps) (ps.length - (k + 1)) (k + 1) = allF (upB ps) ps.length 0 by have := He.out; rw [← e, decide_eq_true (by omega)] at this; simpa using this)
                clear e Hq
                go_wp2
                exact ⟨⟨k + 1, by go_num, by rw [HS3.out], by omega, HK⟩, by simp [intOf]; omega⟩
    · have e := Hj.out
      rw [allF_end hlt] at e
      have HT := Lib.hid (show treeB ps = decide (rootsG 0 (ps.take k) = 1) by unfold treeB; rw [← e, show ps.take k = ps from List.take_of_length_le (by omega)]; rfl)
      clear e Hj hrl
      go_wp2
      go_ret
      exact ⟨by rw [HT.out]; rfl, rfl⟩
def vS0 : VE (List Int) := fun w c ds => ∃ A c', c = [.slice A ds.length c'] ∧ RI w A ds
instance : VMono vS0 := ⟨fun ⟨A, c', h, k⟩ => ⟨A, c', h, k.ext⟩⟩
theorem RV.atS0 {w : World} {b o : Nat} {ats : List At} (h : RV 1 vS0 w (some ⟨b, o, none⟩) (ats.map (·.2))) {k : Nat} (hk : k < ats.length) : b < w.heap.size ∧ ∃ A' c', w.cell? ⟨b, o + k, none⟩ = some (.slice A' (vof ats k).length c') ∧ RI w A' (vof ats k) := by
  obtain ⟨b', o', e, h1, cs, h2, h3, A', c', h4, h5⟩ := h.get (k := k) (by simpa using hk)
  injection e with e
  injection e with e1 e2 _
  subst e1 e2 h4
  have := h3 0 (by simp)
  simp only [List.getElem_map, Nat.mul_one, Nat.add_zero, List.getElem_cons_zero] at this h5
  rw [vof_get hk] at this h5
  exact ⟨h1, A', c', this, h5⟩
set_option maxRecDepth 100000 in
set_option maxHeartbeats 8000000 in
theorem topsOf_any {A B : Option Addr} {c c' : Nat} {ats : List At} {ps : List Int} {v : Int} {w : World} (hx : ats.length ≤ 1000) (hxl : ∀ j, (vof ats j).length ≤ 100000000) (hpl : Hid (ps.length = ats.length)) (hr : ∀ j, j < ats.length → -1 ≤ ps.getD j 0 ∧ ps.getD j 0 ≤ (ats.length : Int) - 1)
    (h1 : RV 1 vS0 w A (ats.map (·.2))) (h2 : RI w B ps) :
    Calls Try.prog 84 #[.slice A ats.length c, .slice B ps.length c', .int .i64 v] w fun e w' => e = .returned (.int .i64 (tops ats ps v)) ∧ ∃ y, w' = ext w y := by
  have Hx := Lib.hid hxl
  have Hr := Lib.hid hr
  clear hxl hr
  go_enter Try.func84, Try.ntmps84
  go_wp2
  go_loopw [7, 12] (fun t i wr => ∃ (k : Nat) (tv : Int), i = .int .i64 k ∧ t = .int .i64 tv ∧ k ≤ ats.length ∧ 0 ≤ tv ∧ tv ≤ k ∧ (∃ y, wr = ext w y) ∧ Hid (topsG ats ps v (ats.length - k) k tv = tops ats ps v)) (fun _ i _ => ats.length - (intOf i).toNat)
  case atStart => exact ⟨0, 0, rfl, rfl, by omega, by omega, by omega, refl_ext w, Lib.hid rfl⟩
  case round =>
    obtain ⟨k, tv, rfl, rfl, hk, ht0, ht1, hy, Hj⟩ := hrel
    by_cases hlt : k < ats.length
    · obtain ⟨b, o, rfl⟩ := h1.place (by rw [List.length_map]; omega)
      have hkp : k < ps.length := by rw [hpl.out]; exact hlt
      obtain ⟨b2, o2, rfl⟩ := h2.place (by omega)
      obtain ⟨lb, A1, c1, a1, hV1⟩ := (h1.toExt hy).atS0 hlt
      obtain ⟨lb2, a2⟩ := (h2.toExt hy).atIv hkp
      have x1 := Hx.out k
      obtain ⟨r1, r2⟩ := Hr.out k hlt
      have e := Hj.out
      rw [topsG_step hlt] at e
      obtain ⟨p, hp⟩ : ∃ p, ps.getD k 0 = p := ⟨_, rfl⟩
      have eT : topB ats ps v k = (decide (v ∈ vof ats k) && (decide (p < 0) || !decide (v ∈ vof ats p.toNat))) := by unfold topB; rw [hp]
      rw [hp] at a2 r1 r2
      obtain ⟨t1, ht1'⟩ : ∃ t, decide (v ∈ vof ats k) = t := ⟨_, rfl⟩
      rw [ht1'] at eT
      have N1 := Lib.hid ht1'
      clear hp ht1' Hj
      cases t1 with
      | false =>
        have HK := Lib.hid (show topsG ats ps v (ats.length - (k + 1)) (k + 1) tv = tops ats ps v by rw [eT] at e; simpa using e)
        clear e eT
        go_wp2_with (go_at_call 104; refine (hasInt_any (by omega) (hV1.toExt (by refine Chg.isExt (F := []) ?_ (refl_ext _) (by simp); repeat (with_reducible (first | exact Chg.refl _ _ | exact Nat.le_refl _ | exact Chg.ofExt (by assumption) | refine Chg.trans0 ?_ (by assumption) | refine Chg.extS ?_ _ | refine Chg.alloc ?_ _ | refine Chg.drew ?_ | refine Chg.setCellE ?_ ?_ _ | refine le_addk ?_ _ | refine le_ext ?_ | refine le_alloc ?_ _ | refine le_setC ?_ _ _ | refine le_drew ?_ | assumption | (refine Nat.le_of_lt ?_; omega) | omega))))).mono ?_; rintro e w1 ⟨rfl, y1, rfl⟩; rw [N1.out])
        exact ⟨⟨k + 1, tv, by go_num, rfl, by omega, by omega, by omega, (by refine Chg.isExt (F := []) ?_ (refl_ext _) (by simp); repeat (with_reducible (first | exact Chg.refl _ _ | exact Nat.le_refl _ | exact Chg.ofExt (by assumption) | refine Chg.trans0 ?_ (by assumption) | refine Chg.extS ?_ _ | refine Chg.alloc ?_ _ | refine Chg.drew ?_ | refine Chg.setCellE ?_ ?_ _ | refine le_addk ?_ _ | refine le_ext ?_ | refine le_alloc ?_ _ | refine le_setC ?_ _ _ | refine le_drew ?_ | assumption | (refine Nat.le_of_lt ?_; omega) | omega))), HK⟩, by simp [intOf]; omega⟩
      | true =>
        by_cases hp0 : p < 0
        · have HK := Lib.hid (show topsG ats ps v (ats.length - (k + 1)) (k + 1) (tv + 1) = tops ats ps v by rw [eT, decide_eq_true hp0] at e; simpa using e)
          clear e eT
          go_wp2_with (go_at_call 104; refine (hasInt_any (by omega) (hV1.toExt (by refine Chg.isExt (F := []) ?_ (refl_ext _) (by simp); repeat (with_reducible (first | exact Chg.refl _ _ | exact Nat.le_refl _ | exact Chg.ofExt (by assumption) | refine Chg.trans0 ?_ (by assumption) | refine Chg.extS ?_ _ | refine Chg.alloc ?_ _ | refine Chg.drew ?_ | refine Chg.setCellE ?_ ?_ _ | refine le_addk ?_ _ | refine le_ext ?_ | refine le_alloc ?_ _ | refine le_setC ?_ _ _ | refine le_drew ?_ | assumption | (refine Nat.le_of_lt ?_; omega) | omega))))).mono ?_; rintro e w1 ⟨rfl, y1, rfl⟩; rw [N1.out])
          exact ⟨⟨k + 1, tv + 1, by go_num, rfl, by omega, by omega, by omega, (by refine Chg.isExt (F := []) ?_ (refl_ext _) (by simp); repeat (with_reducible (first | exact Chg.refl _ _ | exact Nat.le_refl _ | exact Chg.ofExt (by assumption) | refine Chg.trans0 ?_ (by assumption) | refine Chg.extS ?_ _ | refine Chg.alloc ?_ _ | refine Chg.drew ?_ | refine Chg.setCellE ?_ ?_ _ | refine le_addk ?_ _ | refine le_ext ?_ | refine le_alloc ?_ _ | refine le_setC ?_ _ _ | refine le_drew ?_ | assumption | (refine Nat.le_of_lt ?_; omega) | omega))), HK⟩, by simp [intOf]; omega⟩
        · obtain ⟨q, rfl⟩ : ∃ q : Nat, p = q := ⟨p.toNat, by omega⟩
          have hq : q < ats.length := by omega
          obtain ⟨_, A3, c3, a3, hV3⟩ := (h1.toExt hy).atS0 hq
          have x3 := Hx.out q
          obtain ⟨t3, ht3⟩ : ∃ t, decide (v ∈ vof ats q) = t := ⟨_, rfl⟩
          have N3 := Lib.hid ht3
          rw [eT, decide_eq_false hp0, show ((q : Int)).toNat = q by omega, ht3] at e
          have He := Lib.hid e
          clear e eT ht3
          cases t3 with
          | false =>
            go_wp2_with (first
              | (go_at_call_of 104 (A1); refine (hasInt_any (by omega) (hV1.toExt (by refine Chg.isExt (F := []) ?_ (refl_ext _) (by simp); repeat (with_reducible (first | exact Chg.refl _ _ | exact Nat.le_refl _ | exact Chg.ofExt (by assumption) | refine Chg.trans0 ?_ (by assumption) | refine Chg.extS ?_ _ | refine Chg.alloc ?_ _ | refine Chg.drew ?_ | refine Chg.setCellE ?_ ?_ _ | refine le_addk ?_ _ | refine le_ext ?_ | refine le_alloc ?_ _ | refine le_setC ?_ _ _ | refine le_drew ?_ | assumption | (refine Nat.le_of_lt ?_; omega) | omega))))).mono ?_; rintro e w1 ⟨rfl, y1, rfl⟩; rw [N1.out])
              | (go_at_call_of 104 (A3); refine (hasInt_any (by omega) (hV3.toExt (by refine Chg.isExt (F := []) ?_ (refl_ext _) (by simp); repeat (with_reducible (first | exact Chg.refl _ _ | exact Nat.le_refl _ | exact Chg.ofExt (by assumption) | refine Chg.trans0 ?_ (by assumption) | refine Chg.extS ?_ _ | refine Chg.alloc ?_ _ | refine Chg.drew ?_ | refine Chg.setCellE ?_ ?_ _ | refine le_addk ?_ _ | refine le_ext ?_ | refine le_alloc ?_ _ | refine le_setC ?_ _ _ | refine le_drew ?_ | assumption | (refine Nat.le_of_lt ?_; omega) | omega))))).mono ?_; rintro e w1 ⟨rfl, y2, rfl⟩; rw [N3.out]))
            exact ⟨⟨k + 1, tv + 1, by go_num, rfl, by omega, by omega, by omega, (by refine Chg.isExt (F := []) ?_ (refl_ext _) (by simp); repeat (with_reducible (first | exact Chg.refl _ _ | exact Nat.le_refl _ | exact Chg.ofExt (by assumption) | refine Chg.trans0 ?_ (by assumption) | refine Chg.extS ?_ _ | refine Chg.alloc ?_ _ | refine Chg.drew ?_ | refine Chg.setCellE ?_ ?_ _ | refine le_addk ?_ _ | refine le_ext ?_ | refine le_alloc ?_ _ | refine le_setC ?_ _ _ | refine le_drew ?_ | assumption | (refine Nat.le_of_lt ?_; omega) | omega))), Lib.hid (by simpa using He.out)⟩, by simp [intOf]; omega⟩
          | true =>
            go_wp2_with (first
              | (go_at_call_of 104 (A1); refine (hasInt_any (by omega) (hV1.toExt (by refine Chg.isExt (F := []) ?_ (refl_ext _) (by simp); repeat (with_reducible (first | exact Chg.refl _ _ | exact Nat.le_refl _ | exact Chg.ofExt (by assumption) | refine Chg.trans0 ?_ (by assumption) | refine Chg.extS ?_ _ | refine Chg.alloc ?_ _ | refine Chg.drew ?_ | refine Chg.setCellE ?_ ?_ _ | refine le_addk ?_ _ | refine le_ext ?_ | refine le_alloc ?_ _ | refine le_setC ?_ _ _ | refine le_drew ?_ | assumption | (refine Nat.le_of_lt ?_; omega) | omega))))).mono ?_; rintro e w1 ⟨rfl, y1, rfl⟩; rw [N1.out])
              | (go_at_call_of 104 (A3); refine (hasInt_any (by omega) (hV3.toExt (by refine Chg.isExt (F := []) ?_ (refl_ext _) (by simp); repeat (with_reducible (first | exact Chg.refl _ _ | exact Nat.le_refl _ | exact Chg.ofExt (by assumption) | refine Chg.trans0 ?_ (by assumption) | refine Chg.extS ?_ _ | refine Chg.alloc ?_ _ | refine Chg.drew ?_ | refine Chg.setCellE ?_ ?_ _ | refine le_addk ?_ _ | refine le_ext ?_ | refine le_alloc ?_ _ | refine le_setC ?_ _ _ | refine le_drew ?_ | assumption | (refine Nat.le_of_lt ?_; omega) | omega))))).mono ?_; rintro e w1 ⟨rfl, y2, rfl⟩; rw [N3.out]))
            exact ⟨⟨k + 1, tv, by go_num, rfl, by omega, by omega, by omega, (by refine Chg.isExt (F := []) ?_ (refl_ext _) (by simp); repeat (with_reducible (first | exact Chg.refl _ _ | exact Nat.le_refl _ | exact Chg.ofExt (by assumption) | refine Chg.trans0 ?_ (by assumption) | refine Chg.extS ?_ _ | refine Chg.alloc ?_ _ | refine Chg.drew ?_ | refine Chg.setCellE ?_ ?_ _ | refine le_addk ?_ _ | refine le_ext ?_ | refine le_alloc ?_ _ | refine le_setC ?_ _ _ | refine le_drew ?_ | assumption | (refine Nat.le_of_lt ?_; omega) | omega))), Lib.hid (by simpa using He.out)⟩, by simp [intOf]; omega⟩
    · have e := Hj.out
      rw [topsG_end hlt] at e
      have He := Lib.hid e
      clear e Hj
      go_wp2
      go_ret
      exact ⟨by rw [← He.out]; rfl, hy⟩
theorem pth_len (ps : List Int) : ∀ (f : Nat) (k : Int), (pth ps f k).length ≤ f
  | 0, _ => by simp [pth]
  | f + 1, k => by
    rw [pth]
    split
    · have := pth_len ps f (ps.getD k.toNat 0)
      rw [List.length_cons]; omega
    · simp
set_option maxRecDepth 100000 in
set_option maxHeartbeats 4000000 in
theorem l10Path_any {A : Option Addr} {c : Nat} {ps : List Int} {k0 : Int} {w : World} (hx : ps.length ≤ 100000000) (h1 : RI w A ps) :
    Calls Try.prog 86 #[.agg #[.slice A ps.length c], .int .i64 k0] w fun e w' => ∃ v F, e = .returned v ∧ (∃ y, w' = ext w y) ∧ SV 3 1 sI w' v (pth ps (ps.length + 1) k0) F ∧ ∀ b ∈ F, w.heap.size ≤ b := by
  go_enter Try.func86, Try.ntmps86
  go_upto_region 1 with fail
  refine wp_name ?_
  intro W hW
  have xW : ∃ y, W = ext w y := by rw [hW.out]; exact (by refine Chg.isExt (F := []) ?_ (refl_ext _) (by simp); repeat (with_reducible (first | exact Chg.refl _ _ | exact Nat.le_refl _ | exact Chg.ofExt (by assumption) | refine Chg.trans0 ?_ (by assumption) | refine Chg.extS ?_ _ | refine Chg.alloc ?_ _ | refine Chg.drew ?_ | refine Chg.setCellE ?_ ?_ _ | refine le_addk ?_ _ | refine le_ext ?_ | refine le_alloc ?_ _ | refine le_setC ?_ _ _ | refine le_drew ?_ | assumption | (refine Nat.le_of_lt ?_; omega) | omega)))
  have BW0 : BoxAt W (w.heap.size) #[.slice A ps.length c] := by rw [hW.out]; refine ⟨?_, fun j => ?_, fun j => ?_⟩ <;> go_simp
  obtain ⟨lW0, bW0, fW0⟩ := BW0
  have cW0_0 : W.cell? ⟨w.heap.size, 0, none⟩ = some (.slice A ps.length c) := bW0 0
  clear hW
  have P1 : BoxAt W w.heap.size #[.slice A ps.length c] := ⟨lW0, bW0, fW0⟩
  have hz := size_of_ext xW
  clear lW0 bW0 fW0 cW0_0
  go_wp2
  go_loopw [1, 5] (fun a v wr => ∃ (av : Int) (pre : List Int) (F : List Nat), a = .int .i64 av ∧ SV 3 1 sI wr v pre F ∧ (∀ b ∈ F, W.heap.size ≤ b) ∧ (∃ y, wr = ext W y) ∧ pre.length ≤ ps.length + 1 ∧ Hid (pre ++ pth ps (ps.length + 1 - pre.length) av = pth ps (ps.length + 1) k0)) (fun _ v _ => ps.length + 1 - (match v with | .slice _ n _ => n | _ => 0))
  case atStart => exact ⟨k0, [], [W.heap.size], rfl, SV.empty W, by simp, alloc_ext _ _, by simp, Lib.hid (by simp)⟩
  case round =>
    obtain ⟨av, pre, F, rfl, hS, hF, hy, hpl, Hj⟩ := hrel
    have HF := Lib.hid hF
    have HR := Lib.hid hS
    obtain ⟨l2, a2, f2⟩ := box1 (P1.toExt hy)
    obtain ⟨A1, c1, rfl, hc1, _⟩ := hS.form
    obtain ⟨t1, ht1⟩ : ∃ t, inB av 0 ((ps.length : Int) - 1) = t := ⟨_, rfl⟩
    have N1 := Lib.hid ht1
    clear hF hS ht1
    by_cases hle : pre.length ≤ ps.length
    · have e := Hj.out
      rw [show ps.length + 1 - pre.length = (ps.length - pre.length) + 1 by omega, pth, N1.out] at e
      cases t1 with
      | false =>
        have He := Lib.hid (show pre = pth ps (ps.length + 1) k0 by simpa using e)
        clear e Hj
        go_wp2_with (go_at_call 72; refine (l1In_any _ _ _ _).mono ?_; rintro e w' ⟨rfl, rfl⟩; rw [N1.out])
        go_ret
        exact ⟨_, F, rfl, trans_ext xW hy, by rw [← He.out]; exact HR.out, fun b hb => Nat.le_trans hz (HF.out b hb)⟩
      | true =>
        have hab := inB_t N1.out
        obtain ⟨a, rfl⟩ : ∃ a : Nat, av = a := ⟨av.toNat, by omega⟩
        obtain ⟨b, o, rfl⟩ := h1.place (by omega)
        obtain ⟨hb, hc⟩ := (h1.toExt (trans_ext xW hy)).atIv (k := a) (by omega)
        have hbw := (h1.atIv (k := a) (by omega)).1
        have hcw := (h1.atIv (k := a) (by omega)).2
        obtain ⟨p, hp⟩ : ∃ p, ps.getD a 0 = p := ⟨_, rfl⟩
        rw [show ((a : Int)).toNat = a by omega, hp] at e
        rw [hp] at hc hcw
        have He := Lib.hid (show (pre ++ [(a : Int)]) ++ pth ps (ps.length - pre.length) p = pth ps (ps.length + 1) k0 by simpa using e)
        clear e Hj hp
        have P1' := P1.toExt hy
        have hbF : b ∉ F := fun h => by have := HF.out b h; have := ltX xW hbw; have h9 : b < w.heap.size := hbw; omega
        have hwF : w.heap.size ∉ F := fun h => by have := HF.out _ h; have := P1.1; omega
        go_wp2_with (first
          | (go_at_call 72; refine (l1In_any _ _ _ _).mono ?_; rintro e w' ⟨rfl, rfl⟩; rw [N1.out])
          | (at_builtin; refine wpList_app1 (E := sI) (d := (a : Int)) rfl _ _ _ rfl tI rfl rfl rfl (by simp) (fun _ => ⟨rfl, rfl⟩) rfl (by simp [Value.oneCell']) HR.out (by omega) (by omega) ?_; intro v6 w6 F6 hS6 hC6 hF6; have k6 : w6.cell? ⟨b, o + a, none⟩ = some (.int .i64 p) := (by rw [hC6.cell hbF hb]; exact hc); obtain ⟨l6, a6, f6⟩ := box1 (P1'.chg hC6 hwF); have l7 : b < w6.heap.size := Nat.lt_of_lt_of_le hb hC6.size))
        have e6 := hS6.form
        obtain ⟨A6, c6, rfl, _⟩ := e6
        exact ⟨⟨p, pre ++ [(a : Int)], F6, rfl, hS6, newer HF.out (size_of_ext hy) hF6, hC6.isExt hy HF.out, by simp; omega, Lib.hid (by rw [List.length_append, List.length_singleton, show ps.length + 1 - (pre.length + 1) = ps.length - pre.length by omega]; exact He.out)⟩, by simp; omega⟩
    · have e := Hj.out
      rw [show ps.length + 1 - pre.length = 0 by omega, pth, List.append_nil] at e
      have He := Lib.hid e
      clear e Hj
      cases t1 <;> (
        go_wp2_with (go_at_call 72; refine (l1In_any _ _ _ _).mono ?_; rintro e w' ⟨rfl, rfl⟩; rw [N1.out])
        go_ret
        exact ⟨_, F, rfl, trans_ext xW hy, by rw [← He.out]; exact HR.out, fun b hb => Nat.le_trans hz (HF.out b hb)⟩)
end Go.Proofs.Ytbjpkfgkmilkdaa
