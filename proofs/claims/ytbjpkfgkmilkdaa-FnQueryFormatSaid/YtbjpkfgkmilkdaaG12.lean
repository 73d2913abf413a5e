/- Contracts of functions that the statement reaches. -/
import Derived.Test.YtbjpkfgkmilkdaaG03
import Derived.Test.YtbjpkfgkmilkdaaG05
namespace Go.Proofs.Ytbjpkfgkmilkdaa
open Go.RowKit
theorem int_bnef {a b : Nat} (h : ¬ a = b) : ((a : Int) != (b : Int)) = true := by simp; omega
theorem int_bnet {a b : Nat} (h : a = b) : ((a : Int) != (b : Int)) = false := by simp; omega
theorem quietEi {P : Program} {f : FuncId} {args : Array Value} {w y : World} {m n : Int}
    (h : Calls P f args (ext w y) fun e w' => e = .returned (.int .i64 m) ∧ ∃ z, w' = ext (ext w y) z) (hc : m = n) : Calls P f args (ext w y) fun e w' => e = .returned (.int .i64 n) ∧ ∃ z, w' = ext w z := by
  subst hc; exact quietE h
theorem same_t {xs ys : List Int} (h : xs = ys) : decide (xs = ys) = true := decide_eq_true h
theorem same_f {xs ys : List Int} (h : ¬ xs = ys) : decide (xs = ys) = false := decide_eq_false h
theorem cmp_t {xs ys : List Int} (h : xs = ys) : cmpL xs ys = 0 := cmpL_zero.2 h
set_option maxHeartbeats 2000000 in
theorem EqualQueries_any {A B A' B' : Option Addr} {c e1 c' e1' : Nat} {d d' : Qd} {w : World} (hb : BQ d) (h : vQ w [.int .i64 d.1, .slice A d.2.1.length c, .slice B d.2.2.length e1] d) (hb' : BQ d') (h' : vQ w [.int .i64 d'.1, .slice A' d'.2.1.length c', .slice B' d'.2.2.length e1'] d') :
    Calls Try.prog 31 #[.agg #[.int .i64 d.1, .slice A d.2.1.length c, .slice B d.2.2.length e1], .agg #[.int .i64 d'.1, .slice A' d'.2.1.length c', .slice B' d'.2.2.length e1']] w fun e w' => e = .returned (.bool (decide (d = d'))) ∧ ∃ y, w' = ext w y := by
  obtain ⟨r1, r2, _⟩ := vQ_get h
  obtain ⟨_, b1, b2⟩ := hb
  obtain ⟨s1, s2, _⟩ := vQ_get h'
  obtain ⟨_, p1, p2⟩ := hb'
  have r1 := (vAts_get r1).2
  have s1 := (vAts_get s1).2
  have m2 : d.2.2.length ≤ 1000000000 := by omega
  have n2 : d'.2.2.length ≤ 1000000000 := by omega
  have b4 := b1.1
  have p4 := p1.1
  have Hx := Lib.hid b1.each
  have Hy := Lib.hid p1.each
  clear h h' b1 p1
  by_cases h1 : d.1 = d'.1
  · have hq1 : (d.1 != d'.1) = false := by simp [h1]
    by_cases h2 : d.2.1.length = d'.2.1.length
    · have hq2 := int_bnet h2
      by_cases h3 : d.2.2 = d'.2.2
      · have H3 := Lib.hid (same_t h3)
        have HL := Lib.hid h2
        have k1 : d.2.1.length ≤ d'.2.1.length := by omega
        have k2 : d'.2.1.length ≤ d.2.1.length := by omega
        have HF := Lib.hid (show d.2.1 ≠ d'.2.1 → decide (d = d') = false from fun h => decide_eq_false fun e => h (by rw [e]))
        have HT := Lib.hid (show d.2.1 = d'.2.1 → decide (d = d') = true from fun h => decide_eq_true (Prod.ext h1 (Prod.ext h h3)))
        clear h1 h2 h3
        go_enter Try.func31, Try.ntmps31
        go_upto_region 1 with fail
        refine wp_name ?_
        intro W hW
        have xW : ∃ y, W = ext w y := by rw [hW.out]; exact (by refine x'z ?_; repeat (with_reducible (first | exact x'a _ _ | exact x'b _ | exact x'c (by assumption) | refine x'd ?_ (by assumption) | refine x'e ?_ _ | refine x'f ?_ _ | refine x'g ?_ | refine x'h ?_ ?_ _ | refine x'i ?_ _ | refine x'j ?_ | refine x'k ?_ _ | refine x'l ?_ _ _ | refine x'm ?_ | assumption | (refine x'n ?_; omega) | omega)))
        have BW0 : BoxAt W (w.heap.size) #[.int .i64 d.1, .slice A d.2.1.length c, .slice B d.2.2.length e1] := by rw [hW.out]; refine ⟨?_, fun j => ?_, fun j => ?_⟩ <;> go_simp
        obtain ⟨lW0, bW0, fW0⟩ := BW0
        have cW0_0 : W.cell? ⟨w.heap.size, 0, none⟩ = some (.int .i64 d.1) := bW0 0
        have cW0_1 : W.cell? ⟨w.heap.size, 1, none⟩ = some (.slice A d.2.1.length c) := bW0 1
        have cW0_2 : W.cell? ⟨w.heap.size, 2, none⟩ = some (.slice B d.2.2.length e1) := bW0 2
        have BW1 : BoxAt W (w.heap.size + 1) #[.int .i64 d'.1, .slice A' d'.2.1.length c', .slice B' d'.2.2.length e1'] := by rw [hW.out]; refine ⟨?_, fun j => ?_, fun j => ?_⟩ <;> go_simp
        obtain ⟨lW1, bW1, fW1⟩ := BW1
        have cW1_0 : W.cell? ⟨w.heap.size + 1, 0, none⟩ = some (.int .i64 d'.1) := bW1 0
        have cW1_1 : W.cell? ⟨w.heap.size + 1, 1, none⟩ = some (.slice A' d'.2.1.length c') := bW1 1
        have cW1_2 : W.cell? ⟨w.heap.size + 1, 2, none⟩ = some (.slice B' d'.2.2.length e1') := bW1 2
        clear hW
        go_wp2_with (go_at_call 80; refine (sameInts_any m2 (r2.toExt (by refine x'z ?_; repeat (with_reducible (first | exact x'a _ _ | exact x'b _ | exact x'c (by assumption) | refine x'd ?_ (by assumption) | refine x'e ?_ _ | refine x'f ?_ _ | refine x'g ?_ | refine x'h ?_ ?_ _ | refine x'i ?_ _ | refine x'j ?_ | refine x'k ?_ _ | refine x'l ?_ _ _ | refine x'm ?_ | assumption | (refine x'n ?_; omega) | omega)))) n2 (s2.toExt (by refine x'z ?_; repeat (with_reducible (first | exact x'a _ _ | exact x'b _ | exact x'c (by assumption) | refine x'd ?_ (by assumption) | refine x'e ?_ _ | refine x'f ?_ _ | refine x'g ?_ | refine x'h ?_ ?_ _ | refine x'i ?_ _ | refine x'j ?_ | refine x'k ?_ _ | refine x'l ?_ _ _ | refine x'm ?_ | assumption | (refine x'n ?_; omega) | omega))))).mono ?_; rintro e w1 ⟨rfl, hx1⟩; rw [H3.out]; have P1 := BoxAt.toExt (cs := #[.int .i64 d.1, .slice A d.2.1.length c, .slice B d.2.2.length e1]) ⟨lW0, bW0, fW0⟩ hx1; have Q1 := BoxAt.toExt (cs := #[.int .i64 d'.1, .slice A' d'.2.1.length c', .slice B' d'.2.2.length e1']) ⟨lW1, bW1, fW1⟩ hx1; obtain ⟨l1, a1, a1', a1'', f1⟩ := box3 P1; obtain ⟨o1, z1, z1', z1'', g1⟩ := box3 Q1)
        go_loopw [31] (fun i wr => ∃ k : Nat, i = .int .i64 k ∧ k ≤ d.2.1.length ∧ d.2.1.take k = d'.2.1.take k ∧ ∃ y, wr = ext W y) (fun i _ => d.2.1.length - (intOf i).toNat)
        case atStart => exact ⟨0, rfl, by omega, by simp, hx1⟩
        case round =>
          obtain ⟨k, rfl, hk, ht, hy⟩ := hrel
          have Ht := Lib.hid ht
          clear ht
          have P1 := BoxAt.toExt (cs := #[.int .i64 d.1, .slice A d.2.1.length c, .slice B d.2.2.length e1]) ⟨lW0, bW0, fW0⟩ hy
          have Q1 := BoxAt.toExt (cs := #[.int .i64 d'.1, .slice A' d'.2.1.length c', .slice B' d'.2.2.length e1']) ⟨lW1, bW1, fW1⟩ hy
          obtain ⟨l1, a1, a1', a1'', f1⟩ := box3 P1
          obtain ⟨o1, z1, z1', z1'', g1⟩ := box3 Q1
          have hyw := trans_ext xW hy
          by_cases hlt : k < d.2.1.length
          · have hlt2 : k < d'.2.1.length := by omega
            obtain ⟨b, o, A1, c1, rfl, hb, hc, hd, hv⟩ := (r1.toExt hyw).atA hlt
            obtain ⟨b', o', A2, c2, rfl, hb', hc', hd', hv'⟩ := (s1.toExt hyw).atA hlt2
            have q1 : d.2.1[k].2.length ≤ 1000000000 := by have := (Hx.out d.2.1[k] (List.getElem_mem hlt)).2; omega
            have q2 : d'.2.1[k].2.length ≤ 1000000000 := by have := (Hy.out d'.2.1[k] (List.getElem_mem hlt2)).2; omega
            by_cases hs : d.2.1[k].1 = d'.2.1[k].1
            · have hs1 := str_bnet hs
              have hs2 := str_beqt hs
              by_cases he : d.2.1[k].2 = d'.2.1[k].2
              · have He := Lib.hid (show d.2.1[k] = d'.2.1[k] from Prod.ext hs he)
                have Hd := Lib.hid (same_t he)
                clear he hs
                go_wp2
                refine wp_region_ext (by kernel_rfl) (by kernel_rfl) ?_
                repeat (go_big_quiet_step ((go_at_call 80; exact quietEb (sameInts_any q1 hv.ext q2 hv'.ext) Hd.out)))
                refine wpQuiet_nil ?_
                rintro _ ⟨z, rfl⟩
                go_wp2
                exact ⟨⟨k + 1, by go_num, by omega, take_snoc_eq _ _ Ht.out He.out, (by refine x'z ?_; repeat (with_reducible (first | exact x'a _ _ | exact x'b _ | exact x'c (by assumption) | refine x'd ?_ (by assumption) | refine x'e ?_ _ | refine x'f ?_ _ | refine x'g ?_ | refine x'h ?_ ?_ _ | refine x'i ?_ _ | refine x'j ?_ | refine x'k ?_ _ | refine x'l ?_ _ _ | refine x'm ?_ | assumption | (refine x'n ?_; omega) | omega)))⟩, by simp [intOf]; omega⟩
              · have He := Lib.hid (show ¬ d.2.1[k] = d'.2.1[k] from fun e => he (by rw [e]))
                have Hd := Lib.hid (same_f he)
                clear he hs
                go_wp2
                refine wp_region_ext (by kernel_rfl) (by kernel_rfl) ?_
                repeat (go_big_quiet_step ((go_at_call 80; exact quietEb (sameInts_any q1 hv.ext q2 hv'.ext) Hd.out)))
                refine wpQuiet_nil ?_
                rintro _ ⟨z, rfl⟩
                go_wp2
                go_ret
                exact ⟨by rw [HF.out (fun e => ne_of_at hlt hlt2 He.out e)]; rfl, (by refine x'z ?_; repeat (with_reducible (first | exact x'a _ _ | exact x'b _ | exact x'c (by assumption) | refine x'd ?_ (by assumption) | refine x'e ?_ _ | refine x'f ?_ _ | refine x'g ?_ | refine x'h ?_ ?_ _ | refine x'i ?_ _ | refine x'j ?_ | refine x'k ?_ _ | refine x'l ?_ _ _ | refine x'm ?_ | assumption | (refine x'n ?_; omega) | omega)))⟩
            · have He := Lib.hid (show ¬ d.2.1[k] = d'.2.1[k] from fun e => hs (by rw [e]))
              have hs1 := str_bnef hs
              have hs2 := str_beqf hs
              clear hs
              go_wp2
              refine wp_region_ext (by kernel_rfl) (by kernel_rfl) ?_
              repeat (go_big_quiet_step (fail))
              refine wpQuiet_nil ?_
              rintro _ ⟨z, rfl⟩
              go_wp2
              go_ret
              exact ⟨by rw [HF.out (fun e => ne_of_at hlt hlt2 He.out e)]; rfl, (by refine x'z ?_; repeat (with_reducible (first | exact x'a _ _ | exact x'b _ | exact x'c (by assumption) | refine x'd ?_ (by assumption) | refine x'e ?_ _ | refine x'f ?_ _ | refine x'g ?_ | refine x'h ?_ ?_ _ | refine x'i ?_ _ | refine x'j ?_ | refine x'k ?_ _ | refine x'l ?_ _ _ | refine x'm ?_ | assumption | (refine x'n ?_; omega) | omega)))⟩
          · go_wp2
            go_ret
            exact ⟨by rw [HT.out (all_eq HL.out hlt Ht.out)]; rfl, hyw⟩
      · have H3 := Lib.hid (same_f h3)
        have HE := Lib.hid (show decide (d = d') = false from decide_eq_false fun e => h3 (by rw [e]))
        clear h1 h2 h3
        go_enter Try.func31, Try.ntmps31
        go_upto_region 1 with fail
        refine wp_name ?_
        intro W hW
        have xW : ∃ y, W = ext w y := by rw [hW.out]; exact (by refine x'z ?_; repeat (with_reducible (first | exact x'a _ _ | exact x'b _ | exact x'c (by assumption) | refine x'd ?_ (by assumption) | refine x'e ?_ _ | refine x'f ?_ _ | refine x'g ?_ | refine x'h ?_ ?_ _ | refine x'i ?_ _ | refine x'j ?_ | refine x'k ?_ _ | refine x'l ?_ _ _ | refine x'm ?_ | assumption | (refine x'n ?_; omega) | omega)))
        have BW0 : BoxAt W (w.heap.size) #[.int .i64 d.1, .slice A d.2.1.length c, .slice B d.2.2.length e1] := by rw [hW.out]; refine ⟨?_, fun j => ?_, fun j => ?_⟩ <;> go_simp
        obtain ⟨lW0, bW0, fW0⟩ := BW0
        have cW0_0 : W.cell? ⟨w.heap.size, 0, none⟩ = some (.int .i64 d.1) := bW0 0
        have cW0_1 : W.cell? ⟨w.heap.size, 1, none⟩ = some (.slice A d.2.1.length c) := bW0 1
        have cW0_2 : W.cell? ⟨w.heap.size, 2, none⟩ = some (.slice B d.2.2.length e1) := bW0 2
        have BW1 : BoxAt W (w.heap.size + 1) #[.int .i64 d'.1, .slice A' d'.2.1.length c', .slice B' d'.2.2.length e1'] := by rw [hW.out]; refine ⟨?_, fun j => ?_, fun j => ?_⟩ <;> go_simp
        obtain ⟨lW1, bW1, fW1⟩ := BW1
        have cW1_0 : W.cell? ⟨w.heap.size + 1, 0, none⟩ = some (.int .i64 d'.1) := bW1 0
        have cW1_1 : W.cell? ⟨w.heap.size + 1, 1, none⟩ = some (.slice A' d'.2.1.length c') := bW1 1
        have cW1_2 : W.cell? ⟨w.heap.size + 1, 2, none⟩ = some (.slice B' d'.2.2.length e1') := bW1 2
        clear hW
        go_wp2_with (go_at_call 80; refine (sameInts_any m2 (r2.toExt (by refine x'z ?_; repeat (with_reducible (first | exact x'a _ _ | exact x'b _ | exact x'c (by assumption) | refine x'd ?_ (by assumption) | refine x'e ?_ _ | refine x'f ?_ _ | refine x'g ?_ | refine x'h ?_ ?_ _ | refine x'i ?_ _ | refine x'j ?_ | refine x'k ?_ _ | refine x'l ?_ _ _ | refine x'm ?_ | assumption | (refine x'n ?_; omega) | omega)))) n2 (s2.toExt (by refine x'z ?_; repeat (with_reducible (first | exact x'a _ _ | exact x'b _ | exact x'c (by assumption) | refine x'd ?_ (by assumption) | refine x'e ?_ _ | refine x'f ?_ _ | refine x'g ?_ | refine x'h ?_ ?_ _ | refine x'i ?_ _ | refine x'j ?_ | refine x'k ?_ _ | refine x'l ?_ _ _ | refine x'm ?_ | assumption | (refine x'n ?_; omega) | omega))))).mono ?_; rintro e w1 ⟨rfl, hx1⟩; rw [H3.out]; have P1 := BoxAt.toExt (cs := #[.int .i64 d.1, .slice A d.2.1.length c, .slice B d.2.2.length e1]) ⟨lW0, bW0, fW0⟩ hx1; have Q1 := BoxAt.toExt (cs := #[.int .i64 d'.1, .slice A' d'.2.1.length c', .slice B' d'.2.2.length e1']) ⟨lW1, bW1, fW1⟩ hx1; obtain ⟨l1, a1, a1', a1'', f1⟩ := box3 P1; obtain ⟨o1, z1, z1', z1'', g1⟩ := box3 Q1)
        go_ret
        exact ⟨by rw [HE.out]; rfl, (by refine x'z ?_; repeat (with_reducible (first | exact x'a _ _ | exact x'b _ | exact x'c (by assumption) | refine x'd ?_ (by assumption) | refine x'e ?_ _ | refine x'f ?_ _ | refine x'g ?_ | refine x'h ?_ ?_ _ | refine x'i ?_ _ | refine x'j ?_ | refine x'k ?_ _ | refine x'l ?_ _ _ | refine x'm ?_ | assumption | (refine x'n ?_; omega) | omega)))⟩
    · have hq2 := int_bnef h2
      have HE := Lib.hid (show decide (d = d') = false from decide_eq_false fun e => h2 (by rw [e]))
      clear h1 h2
      go_enter Try.func31, Try.ntmps31
      go_wp2
      go_ret
      exact ⟨by rw [HE.out]; rfl, (by refine x'z ?_; repeat (with_reducible (first | exact x'a _ _ | exact x'b _ | exact x'c (by assumption) | refine x'd ?_ (by assumption) | refine x'e ?_ _ | refine x'f ?_ _ | refine x'g ?_ | refine x'h ?_ ?_ _ | refine x'i ?_ _ | refine x'j ?_ | refine x'k ?_ _ | refine x'l ?_ _ _ | refine x'm ?_ | assumption | (refine x'n ?_; omega) | omega)))⟩
  · have hq1 : (d.1 != d'.1) = true := by simp [h1]
    have HE := Lib.hid (show decide (d = d') = false from decide_eq_false fun e => h1 (by rw [e]))
    clear h1
    go_enter Try.func31, Try.ntmps31
    go_wp2
    go_ret
    exact ⟨by rw [HE.out]; rfl, (by refine x'z ?_; repeat (with_reducible (first | exact x'a _ _ | exact x'b _ | exact x'c (by assumption) | refine x'd ?_ (by assumption) | refine x'e ?_ _ | refine x'f ?_ _ | refine x'g ?_ | refine x'h ?_ ?_ _ | refine x'i ?_ _ | refine x'j ?_ | refine x'k ?_ _ | refine x'l ?_ _ _ | refine x'm ?_ | assumption | (refine x'n ?_; omega) | omega)))⟩
set_option maxHeartbeats 2000000 in
theorem specEqualQueries_any {A B A' B' : Option Addr} {c e1 c' e1' : Nat} {d d' : Qd} {w : World} (hb : BQ d) (h : vQ w [.int .i64 d.1, .slice A d.2.1.length c, .slice B d.2.2.length e1] d) (hb' : BQ d') (h' : vQ w [.int .i64 d'.1, .slice A' d'.2.1.length c', .slice B' d'.2.2.length e1'] d') :
    Calls Try.prog 30 #[.agg #[.int .i64 d.1, .slice A d.2.1.length c, .slice B d.2.2.length e1], .agg #[.int .i64 d'.1, .slice A' d'.2.1.length c', .slice B' d'.2.2.length e1']] w fun e w' => e = .returned (.bool (decide (d = d'))) ∧ ∃ y, w' = ext w y := by
  obtain ⟨r1, r2, _⟩ := vQ_get h
  obtain ⟨_, b1, b2⟩ := hb
  obtain ⟨s1, s2, _⟩ := vQ_get h'
  obtain ⟨_, p1, p2⟩ := hb'
  have r1 := (vAts_get r1).2
  have s1 := (vAts_get s1).2
  have m2 : d.2.2.length ≤ 1000000000 := by omega
  have n2 : d'.2.2.length ≤ 1000000000 := by omega
  have b4 := b1.1
  have p4 := p1.1
  have Hx := Lib.hid b1.each
  have Hy := Lib.hid p1.each
  clear h h' b1 p1
  by_cases h1 : d.1 = d'.1
  · have hq1 : (d.1 != d'.1) = false := by simp [h1]
    by_cases h2 : d.2.1.length = d'.2.1.length
    · have hq2 := int_bnet h2
      by_cases h3 : d.2.2 = d'.2.2
      · have H3 := Lib.hid (cmp_t h3)
        have HL := Lib.hid h2
        have k1 : d.2.1.length ≤ d'.2.1.length := by omega
        have k2 : d'.2.1.length ≤ d.2.1.length := by omega
        have HF := Lib.hid (show d.2.1 ≠ d'.2.1 → decide (d = d') = false from fun h => decide_eq_false fun e => h (by rw [e]))
        have HT := Lib.hid (show d.2.1 = d'.2.1 → decide (d = d') = true from fun h => decide_eq_true (Prod.ext h1 (Prod.ext h h3)))
        clear h1 h2 h3
        go_enter Try.func30, Try.ntmps30
        go_upto_region 1 with fail
        refine wp_name ?_
        intro W hW
        have xW : ∃ y, W = ext w y := by rw [hW.out]; exact (by refine x'z ?_; repeat (with_reducible (first | exact x'a _ _ | exact x'b _ | exact x'c (by assumption) | refine x'd ?_ (by assumption) | refine x'e ?_ _ | refine x'f ?_ _ | refine x'g ?_ | refine x'h ?_ ?_ _ | refine x'i ?_ _ | refine x'j ?_ | refine x'k ?_ _ | refine x'l ?_ _ _ | refine x'm ?_ | assumption | (refine x'n ?_; omega) | omega)))
        have BW0 : BoxAt W (w.heap.size) #[.int .i64 d.1, .slice A d.2.1.length c, .slice B d.2.2.length e1] := by rw [hW.out]; refine ⟨?_, fun j => ?_, fun j => ?_⟩ <;> go_simp
        obtain ⟨lW0, bW0, fW0⟩ := BW0
        have cW0_0 : W.cell? ⟨w.heap.size, 0, none⟩ = some (.int .i64 d.1) := bW0 0
        have cW0_1 : W.cell? ⟨w.heap.size, 1, none⟩ = some (.slice A d.2.1.length c) := bW0 1
        have cW0_2 : W.cell? ⟨w.heap.size, 2, none⟩ = some (.slice B d.2.2.length e1) := bW0 2
        have BW1 : BoxAt W (w.heap.size + 1) #[.int .i64 d'.1, .slice A' d'.2.1.length c', .slice B' d'.2.2.length e1'] := by rw [hW.out]; refine ⟨?_, fun j => ?_, fun j => ?_⟩ <;> go_simp
        obtain ⟨lW1, bW1, fW1⟩ := BW1
        have cW1_0 : W.cell? ⟨w.heap.size + 1, 0, none⟩ = some (.int .i64 d'.1) := bW1 0
        have cW1_1 : W.cell? ⟨w.heap.size + 1, 1, none⟩ = some (.slice A' d'.2.1.length c') := bW1 1
        have cW1_2 : W.cell? ⟨w.heap.size + 1, 2, none⟩ = some (.slice B' d'.2.2.length e1') := bW1 2
        clear hW
        go_wp2_with (go_at_call 79; refine (specCompareRows_any m2 (r2.toExt (by refine x'z ?_; repeat (with_reducible (first | exact x'a _ _ | exact x'b _ | exact x'c (by assumption) | refine x'd ?_ (by assumption) | refine x'e ?_ _ | refine x'f ?_ _ | refine x'g ?_ | refine x'h ?_ ?_ _ | refine x'i ?_ _ | refine x'j ?_ | refine x'k ?_ _ | refine x'l ?_ _ _ | refine x'm ?_ | assumption | (refine x'n ?_; omega) | omega)))) n2 (s2.toExt (by refine x'z ?_; repeat (with_reducible (first | exact x'a _ _ | exact x'b _ | exact x'c (by assumption) | refine x'd ?_ (by assumption) | refine x'e ?_ _ | refine x'f ?_ _ | refine x'g ?_ | refine x'h ?_ ?_ _ | refine x'i ?_ _ | refine x'j ?_ | refine x'k ?_ _ | refine x'l ?_ _ _ | refine x'm ?_ | assumption | (refine x'n ?_; omega) | omega))))).mono ?_; rintro e w1 ⟨rfl, hx1⟩; rw [H3.out]; have P1 := BoxAt.toExt (cs := #[.int .i64 d.1, .slice A d.2.1.length c, .slice B d.2.2.length e1]) ⟨lW0, bW0, fW0⟩ hx1; have Q1 := BoxAt.toExt (cs := #[.int .i64 d'.1, .slice A' d'.2.1.length c', .slice B' d'.2.2.length e1']) ⟨lW1, bW1, fW1⟩ hx1; obtain ⟨l1, a1, a1', a1'', f1⟩ := box3 P1; obtain ⟨o1, z1, z1', z1'', g1⟩ := box3 Q1)
        go_loopw [5] (fun i wr => ∃ k : Nat, i = .int .i64 k ∧ k ≤ d.2.1.length ∧ d.2.1.take k = d'.2.1.take k ∧ ∃ y, wr = ext W y) (fun i _ => d.2.1.length - (intOf i).toNat)
        case atStart => exact ⟨0, rfl, by omega, by simp, hx1⟩
        case round =>
          obtain ⟨k, rfl, hk, ht, hy⟩ := hrel
          have Ht := Lib.hid ht
          clear ht
          have P1 := BoxAt.toExt (cs := #[.int .i64 d.1, .slice A d.2.1.length c, .slice B d.2.2.length e1]) ⟨lW0, bW0, fW0⟩ hy
          have Q1 := BoxAt.toExt (cs := #[.int .i64 d'.1, .slice A' d'.2.1.length c', .slice B' d'.2.2.length e1']) ⟨lW1, bW1, fW1⟩ hy
          obtain ⟨l1, a1, a1', a1'', f1⟩ := box3 P1
          obtain ⟨o1, z1, z1', z1'', g1⟩ := box3 Q1
          have hyw := trans_ext xW hy
          by_cases hlt : k < d.2.1.length
          · have hlt2 : k < d'.2.1.length := by omega
            obtain ⟨b, o, A1, c1, rfl, hb, hc, hd, hv⟩ := (r1.toExt hyw).atA hlt
            obtain ⟨b', o', A2, c2, rfl, hb', hc', hd', hv'⟩ := (s1.toExt hyw).atA hlt2
            have q1 : d.2.1[k].2.length ≤ 1000000000 := by have := (Hx.out d.2.1[k] (List.getElem_mem hlt)).2; omega
            have q2 : d'.2.1[k].2.length ≤ 1000000000 := by have := (Hy.out d'.2.1[k] (List.getElem_mem hlt2)).2; omega
            by_cases hs : d.2.1[k].1 = d'.2.1[k].1
            · have hs1 := str_bnet hs
              have hs2 := str_beqt hs
              by_cases he : d.2.1[k].2 = d'.2.1[k].2
              · have He := Lib.hid (show d.2.1[k] = d'.2.1[k] from Prod.ext hs he)
                have Hd := Lib.hid (cmp_t he)
                clear he hs
                go_wp2
                refine wp_region_ext (by kernel_rfl) (by kernel_rfl) ?_
                repeat (go_big_quiet_step ((go_at_call 79; exact quietEi (specCompareRows_any q1 hv.ext q2 hv'.ext) Hd.out)))
                refine wpQuiet_nil ?_
                rintro _ ⟨z, rfl⟩
                go_wp2
                exact ⟨⟨k + 1, by go_num, by omega, take_snoc_eq _ _ Ht.out He.out, (by refine x'z ?_; repeat (with_reducible (first | exact x'a _ _ | exact x'b _ | exact x'c (by assumption) | refine x'd ?_ (by assumption) | refine x'e ?_ _ | refine x'f ?_ _ | refine x'g ?_ | refine x'h ?_ ?_ _ | refine x'i ?_ _ | refine x'j ?_ | refine x'k ?_ _ | refine x'l ?_ _ _ | refine x'm ?_ | assumption | (refine x'n ?_; omega) | omega)))⟩, by simp [intOf]; omega⟩
              · have He := Lib.hid (show ¬ d.2.1[k] = d'.2.1[k] from fun e => he (by rw [e]))
                obtain ⟨m, hm⟩ : ∃ m, cmpL d.2.1[k].2 d'.2.1[k].2 = m := ⟨_, rfl⟩
                have hm0 : (m != 0) = true := by rw [← hm]; simpa using fun h => he (cmpL_zero.1 h)
                have Hd := Lib.hid hm
                clear he hs hm
                go_wp2
                refine wp_region_ext (by kernel_rfl) (by kernel_rfl) ?_
                repeat (go_big_quiet_step ((go_at_call 79; exact quietEi (specCompareRows_any q1 hv.ext q2 hv'.ext) Hd.out)))
                refine wpQuiet_nil ?_
                rintro _ ⟨z, rfl⟩
                go_wp2
                go_ret
                exact ⟨by rw [HF.out (fun e => ne_of_at hlt hlt2 He.out e)]; rfl, (by refine x'z ?_; repeat (with_reducible (first | exact x'a _ _ | exact x'b _ | exact x'c (by assumption) | refine x'd ?_ (by assumption) | refine x'e ?_ _ | refine x'f ?_ _ | refine x'g ?_ | refine x'h ?_ ?_ _ | refine x'i ?_ _ | refine x'j ?_ | refine x'k ?_ _ | refine x'l ?_ _ _ | refine x'm ?_ | assumption | (refine x'n ?_; omega) | omega)))⟩
            · have He := Lib.hid (show ¬ d.2.1[k] = d'.2.1[k] from fun e => hs (by rw [e]))
              have hs1 := str_bnef hs
              have hs2 := str_beqf hs
              clear hs
              go_wp2
              refine wp_region_ext (by kernel_rfl) (by kernel_rfl) ?_
              repeat (go_big_quiet_step (fail))
              refine wpQuiet_nil ?_
              rintro _ ⟨z, rfl⟩
              go_wp2
              go_ret
              exact ⟨by rw [HF.out (fun e => ne_of_at hlt hlt2 He.out e)]; rfl, (by refine x'z ?_; repeat (with_reducible (first | exact x'a _ _ | exact x'b _ | exact x'c (by assumption) | refine x'd ?_ (by assumption) | refine x'e ?_ _ | refine x'f ?_ _ | refine x'g ?_ | refine x'h ?_ ?_ _ | refine x'i ?_ _ | refine x'j ?_ | refine x'k ?_ _ | refine x'l ?_ _ _ | refine x'm ?_ | assumption | (refine x'n ?_; omega) | omega)))⟩
          · go_wp2
            go_ret
            exact ⟨by rw [HT.out (all_eq HL.out hlt Ht.out)]; rfl, hyw⟩
      · obtain ⟨m, hm⟩ : ∃ m, cmpL d.2.2 d'.2.2 = m := ⟨_, rfl⟩
        have hm0 : (m != 0) = true := by rw [← hm]; simpa using fun h => h3 (cmpL_zero.1 h)
        have H3 := Lib.hid hm
        have HE := Lib.hid (show decide (d = d') = false from decide_eq_false fun e => h3 (by rw [e]))
        clear h1 h2 h3
        go_enter Try.func30, Try.ntmps30
        go_upto_region 1 with fail
        refine wp_name ?_
        intro W hW
        have xW : ∃ y, W = ext w y := by rw [hW.out]; exact (by refine x'z ?_; repeat (with_reducible (first | exact x'a _ _ | exact x'b _ | exact x'c (by assumption) | refine x'd ?_ (by assumption) | refine x'e ?_ _ | refine x'f ?_ _ | refine x'g ?_ | refine x'h ?_ ?_ _ | refine x'i ?_ _ | refine x'j ?_ | refine x'k ?_ _ | refine x'l ?_ _ _ | refine x'm ?_ | assumption | (refine x'n ?_; omega) | omega)))
        have BW0 : BoxAt W (w.heap.size) #[.int .i64 d.1, .slice A d.2.1.length c, .slice B d.2.2.length e1] := by rw [hW.out]; refine ⟨?_, fun j => ?_, fun j => ?_⟩ <;> go_simp
        obtain ⟨lW0, bW0, fW0⟩ := BW0
        have cW0_0 : W.cell? ⟨w.heap.size, 0, none⟩ = some (.int .i64 d.1) := bW0 0
        have cW0_1 : W.cell? ⟨w.heap.size, 1, none⟩ = some (.slice A d.2.1.length c) := bW0 1
        have cW0_2 : W.cell? ⟨w.heap.size, 2, none⟩ = some (.slice B d.2.2.length e1) := bW0 2
        have BW1 : BoxAt W (w.heap.size + 1) #[.int .i64 d'.1, .slice A' d'.2.1.length c', .slice B' d'.2.2.length e1'] := by rw [hW.out]; refine ⟨?_, fun j => ?_, fun j => ?_⟩ <;> go_simp
        obtain ⟨lW1, bW1, fW1⟩ := BW1
        have cW1_0 : W.cell? ⟨w.heap.size + 1, 0, none⟩ = some (.int .i64 d'.1) := bW1 0
        have cW1_1 : W.cell? ⟨w.heap.size + 1, 1, none⟩ = some (.slice A' d'.2.1.length c') := bW1 1
        have cW1_2 : W.cell? ⟨w.heap.size + 1, 2, none⟩ = some (.slice B' d'.2.2.length e1') := bW1 2
        clear hW
        go_wp2_with (go_at_call 79; refine (specCompareRows_any m2 (r2.toExt (by refine x'z ?_; repeat (with_reducible (first | exact x'a _ _ | exact x'b _ | exact x'c (by assumption) | refine x'd ?_ (by assumption) | refine x'e ?_ _ | refine x'f ?_ _ | refine x'g ?_ | refine x'h ?_ ?_ _ | refine x'i ?_ _ | refine x'j ?_ | refine x'k ?_ _ | refine x'l ?_ _ _ | refine x'm ?_ | assumption | (refine x'n ?_; omega) | omega)))) n2 (s2.toExt (by refine x'z ?_; repeat (with_reducible (first | exact x'a _ _ | exact x'b _ | exact x'c (by assumption) | refine x'd ?_ (by assumption) | refine x'e ?_ _ | refine x'f ?_ _ | refine x'g ?_ | refine x'h ?_ ?_ _ | refine x'i ?_ _ | refine x'j ?_ | refine x'k ?_ _ | refine x'l ?_ _ _ | refine x'm ?_ | assumption | (refine x'n ?_; omega) | omega))))).mono ?_; rintro e w1 ⟨rfl, hx1⟩; rw [H3.out]; have P1 := BoxAt.toExt (cs := #[.int .i64 d.1, .slice A d.2.1.length c, .slice B d.2.2.length e1]) ⟨lW0, bW0, fW0⟩ hx1; have Q1 := BoxAt.toExt (cs := #[.int .i64 d'.1, .slice A' d'.2.1.length c', .slice B' d'.2.2.length e1']) ⟨lW1, bW1, fW1⟩ hx1; obtain ⟨l1, a1, a1', a1'', f1⟩ := box3 P1; obtain ⟨o1, z1, z1', z1'', g1⟩ := box3 Q1)
        go_ret
        exact ⟨by rw [HE.out]; rfl, (by refine x'z ?_; repeat (with_reducible (first | exact x'a _ _ | exact x'b _ | exact x'c (by assumption) | refine x'd ?_ (by assumption) | refine x'e ?_ _ | refine x'f ?_ _ | refine x'g ?_ | refine x'h ?_ ?_ _ | refine x'i ?_ _ | refine x'j ?_ | refine x'k ?_ _ | refine x'l ?_ _ _ | refine x'm ?_ | assumption | (refine x'n ?_; omega) | omega)))⟩
    · have hq2 := int_bnef h2
      have HE := Lib.hid (show decide (d = d') = false from decide_eq_false fun e => h2 (by rw [e]))
      clear h1 h2
      by_cases h3 : d.2.2 = d'.2.2
      · have H3 := Lib.hid (cmp_t h3)
        clear h3
        go_enter Try.func30, Try.ntmps30
        go_upto_region 1 with fail
        refine wp_name ?_
        intro W hW
        have xW : ∃ y, W = ext w y := by rw [hW.out]; exact (by refine x'z ?_; repeat (with_reducible (first | exact x'a _ _ | exact x'b _ | exact x'c (by assumption) | refine x'd ?_ (by assumption) | refine x'e ?_ _ | refine x'f ?_ _ | refine x'g ?_ | refine x'h ?_ ?_ _ | refine x'i ?_ _ | refine x'j ?_ | refine x'k ?_ _ | refine x'l ?_ _ _ | refine x'm ?_ | assumption | (refine x'n ?_; omega) | omega)))
        have BW0 : BoxAt W (w.heap.size) #[.int .i64 d.1, .slice A d.2.1.length c, .slice B d.2.2.length e1] := by rw [hW.out]; refine ⟨?_, fun j => ?_, fun j => ?_⟩ <;> go_simp
        obtain ⟨lW0, bW0, fW0⟩ := BW0
        have cW0_0 : W.cell? ⟨w.heap.size, 0, none⟩ = some (.int .i64 d.1) := bW0 0
        have cW0_1 : W.cell? ⟨w.heap.size, 1, none⟩ = some (.slice A d.2.1.length c) := bW0 1
        have cW0_2 : W.cell? ⟨w.heap.size, 2, none⟩ = some (.slice B d.2.2.length e1) := bW0 2
        have BW1 : BoxAt W (w.heap.size + 1) #[.int .i64 d'.1, .slice A' d'.2.1.length c', .slice B' d'.2.2.length e1'] := by rw [hW.out]; refine ⟨?_, fun j => ?_, fun j => ?_⟩ <;> go_simp
        obtain ⟨lW1, bW1, fW1⟩ := BW1
        have cW1_0 : W.cell? ⟨w.heap.size + 1, 0, none⟩ = some (.int .i64 d'.1) := bW1 0
        have cW1_1 : W.cell? ⟨w.heap.size + 1, 1, none⟩ = some (.slice A' d'.2.1.length c') := bW1 1
        have cW1_2 : W.cell? ⟨w.heap.size + 1, 2, none⟩ = some (.slice B' d'.2.2.length e1') := bW1 2
        clear hW
        go_wp2_with (go_at_call 79; refine (specCompareRows_any m2 (r2.toExt (by refine x'z ?_; repeat (with_reducible (first | exact x'a _ _ | exact x'b _ | exact x'c (by assumption) | refine x'd ?_ (by assumption) | refine x'e ?_ _ | refine x'f ?_ _ | refine x'g ?_ | refine x'h ?_ ?_ _ | refine x'i ?_ _ | refine x'j ?_ | refine x'k ?_ _ | refine x'l ?_ _ _ | refine x'm ?_ | assumption | (refine x'n ?_; omega) | omega)))) n2 (s2.toExt (by refine x'z ?_; repeat (with_reducible (first | exact x'a _ _ | exact x'b _ | exact x'c (by assumption) | refine x'd ?_ (by assumption) | refine x'e ?_ _ | refine x'f ?_ _ | refine x'g ?_ | refine x'h ?_ ?_ _ | refine x'i ?_ _ | refine x'j ?_ | refine x'k ?_ _ | refine x'l ?_ _ _ | refine x'm ?_ | assumption | (refine x'n ?_; omega) | omega))))).mono ?_; rintro e w1 ⟨rfl, hx1⟩; rw [H3.out]; have P1 := BoxAt.toExt (cs := #[.int .i64 d.1, .slice A d.2.1.length c, .slice B d.2.2.length e1]) ⟨lW0, bW0, fW0⟩ hx1; have Q1 := BoxAt.toExt (cs := #[.int .i64 d'.1, .slice A' d'.2.1.length c', .slice B' d'.2.2.length e1']) ⟨lW1, bW1, fW1⟩ hx1; obtain ⟨l1, a1, a1', a1'', f1⟩ := box3 P1; obtain ⟨o1, z1, z1', z1'', g1⟩ := box3 Q1)
        go_ret
        exact ⟨by rw [HE.out]; rfl, (by refine x'z ?_; repeat (with_reducible (first | exact x'a _ _ | exact x'b _ | exact x'c (by assumption) | refine x'd ?_ (by assumption) | refine x'e ?_ _ | refine x'f ?_ _ | refine x'g ?_ | refine x'h ?_ ?_ _ | refine x'i ?_ _ | refine x'j ?_ | refine x'k ?_ _ | refine x'l ?_ _ _ | refine x'm ?_ | assumption | (refine x'n ?_; omega) | omega)))⟩
      · obtain ⟨m, hm⟩ : ∃ m, cmpL d.2.2 d'.2.2 = m := ⟨_, rfl⟩
        have hm0 : (m != 0) = true := by rw [← hm]; simpa using fun h => h3 (cmpL_zero.1 h)
        have H3 := Lib.hid hm
        clear h3
        go_enter Try.func30, Try.ntmps30
        go_upto_region 1 with fail
        refine wp_name ?_
        intro W hW
        have xW : ∃ y, W = ext w y := by rw [hW.out]; exact (by refine x'z ?_; repeat (with_reducible (first | exact x'a _ _ | exact x'b _ | exact x'c (by assumption) | refine x'd ?_ (by assumption) | refine x'e ?_ _ | refine x'f ?_ _ | refine x'g ?_ | refine x'h ?_ ?_ _ | refine x'i ?_ _ | refine x'j ?_ | refine x'k ?_ _ | refine x'l ?_ _ _ | refine x'm ?_ | assumption | (refine x'n ?_; omega) | omega)))
        have BW0 : BoxAt W (w.heap.size) #[.int .i64 d.1, .slice A d.2.1.length c, .slice B d.2.2.length e1] := by rw [hW.out]; refine ⟨?_, fun j => ?_, fun j => ?_⟩ <;> go_simp
        obtain ⟨lW0, bW0, fW0⟩ := BW0
        have cW0_0 : W.cell? ⟨w.heap.size, 0, none⟩ = some (.int .i64 d.1) := bW0 0
        have cW0_1 : W.cell? ⟨w.heap.size, 1, none⟩ = some (.slice A d.2.1.length c) := bW0 1
        have cW0_2 : W.cell? ⟨w.heap.size, 2, none⟩ = some (.slice B d.2.2.length e1) := bW0 2
        have BW1 : BoxAt W (w.heap.size + 1) #[.int .i64 d'.1, .slice A' d'.2.1.length c', .slice B' d'.2.2.length e1'] := by rw [hW.out]; refine ⟨?_, fun j => ?_, fun j => ?_⟩ <;> go_simp
        obtain ⟨lW1, bW1, fW1⟩ := BW1
        have cW1_0 : W.cell? ⟨w.heap.size + 1, 0, none⟩ = some (.int .i64 d'.1) := bW1 0
        have cW1_1 : W.cell? ⟨w.heap.size + 1, 1, none⟩ = some (.slice A' d'.2.1.length c') := bW1 1
        have cW1_2 : W.cell? ⟨w.heap.size + 1, 2, none⟩ = some (.slice B' d'.2.2.length e1') := bW1 2
        clear hW
        go_wp2_with (go_at_call 79; refine (specCompareRows_any m2 (r2.toExt (by refine x'z ?_; repeat (with_reducible (first | exact x'a _ _ | exact x'b _ | exact x'c (by assumption) | refine x'd ?_ (by assumption) | refine x'e ?_ _ | refine x'f ?_ _ | refine x'g ?_ | refine x'h ?_ ?_ _ | refine x'i ?_ _ | refine x'j ?_ | refine x'k ?_ _ | refine x'l ?_ _ _ | refine x'm ?_ | assumption | (refine x'n ?_; omega) | omega)))) n2 (s2.toExt (by refine x'z ?_; repeat (with_reducible (first | exact x'a _ _ | exact x'b _ | exact x'c (by assumption) | refine x'd ?_ (by assumption) | refine x'e ?_ _ | refine x'f ?_ _ | refine x'g ?_ | refine x'h ?_ ?_ _ | refine x'i ?_ _ | refine x'j ?_ | refine x'k ?_ _ | refine x'l ?_ _ _ | refine x'm ?_ | assumption | (refine x'n ?_; omega) | omega))))).mono ?_; rintro e w1 ⟨rfl, hx1⟩; rw [H3.out]; have P1 := BoxAt.toExt (cs := #[.int .i64 d.1, .slice A d.2.1.length c, .slice B d.2.2.length e1]) ⟨lW0, bW0, fW0⟩ hx1; have Q1 := BoxAt.toExt (cs := #[.int .i64 d'.1, .slice A' d'.2.1.length c', .slice B' d'.2.2.length e1']) ⟨lW1, bW1, fW1⟩ hx1; obtain ⟨l1, a1, a1', a1'', f1⟩ := box3 P1; obtain ⟨o1, z1, z1', z1'', g1⟩ := box3 Q1)
        go_ret
        exact ⟨by rw [HE.out]; rfl, (by refine x'z ?_; repeat (with_reducible (first | exact x'a _ _ | exact x'b _ | exact x'c (by assumption) | refine x'd ?_ (by assumption) | refine x'e ?_ _ | refine x'f ?_ _ | refine x'g ?_ | refine x'h ?_ ?_ _ | refine x'i ?_ _ | refine x'j ?_ | refine x'k ?_ _ | refine x'l ?_ _ _ | refine x'm ?_ | assumption | (refine x'n ?_; omega) | omega)))⟩
  · have hq1 : (d.1 != d'.1) = true := by simp [h1]
    have HE := Lib.hid (show decide (d = d') = false from decide_eq_false fun e => h1 (by rw [e]))
    clear h1
    go_enter Try.func30, Try.ntmps30
    go_wp2
    go_ret
    exact ⟨by rw [HE.out]; rfl, (by refine x'z ?_; repeat (with_reducible (first | exact x'a _ _ | exact x'b _ | exact x'c (by assumption) | refine x'd ?_ (by assumption) | refine x'e ?_ _ | refine x'f ?_ _ | refine x'g ?_ | refine x'h ?_ ?_ _ | refine x'i ?_ _ | refine x'j ?_ | refine x'k ?_ _ | refine x'l ?_ _ _ | refine x'm ?_ | assumption | (refine x'n ?_; omega) | omega)))⟩
end Go.Proofs.Ytbjpkfgkmilkdaa
