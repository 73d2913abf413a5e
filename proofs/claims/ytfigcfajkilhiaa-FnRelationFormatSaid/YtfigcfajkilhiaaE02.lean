/- Contracts of functions that the statements reach, joined from several texts: RelEq, Basic, RelOk, RowPl, RowsT, AppL, AppV, RelOk2, Atom, Common, Asc, JoinPl, Row1, Row2, Names, Unite. -/
import Derived.Test.YtfigcfajkilhiaaE01
import Derived.Test.YtfigcfajkilhiaaRows
/- Relations compared; the program's way and the reference's. -/
namespace Go.Proofs.Ytfigcfajkilhiaa
open Go.RowKit

theorem quietEj {P : Program} {f : FuncId} {args : Array Value} {w y : World} {m n : Int}
    (h : Calls P f args (ext w y) fun e w' => e = .returned (.int .i64 m) ∧ ∃ z, w' = ext (ext w y) z) (hc : m = n) : Calls P f args (ext w y) fun e w' => e = .returned (.int .i64 n) ∧ ∃ z, w' = ext w z := by
  subst hc; exact quietE h
set_option maxHeartbeats 1000000 in
theorem sameRows_any {A A' : Option Addr} {c c' : Nat} {xs ys : List (List Int)} {w : World} (hx : xs.length ≤ 1000000000) (hxl : ∀ x ∈ xs, x.length ≤ 1000000000) (h1 : RII w A xs) (hy : ys.length ≤ 1000000000) (hyl : ∀ x ∈ ys, x.length ≤ 1000000000) (h2 : RII w A' ys) :
    Calls Try.prog 182 #[.slice A xs.length c, .slice A' ys.length c'] w fun e w' => e = .returned (.bool (decide (xs = ys))) ∧ ∃ y, w' = ext w y := by
  have Hxl := Lib.hid hxl
  have Hyl := Lib.hid hyl
  clear hxl hyl
  by_cases hl : xs.length = ys.length
  · have hn : ((xs.length : Int) != (ys.length : Int)) = false := by simp [hl]
    have hl2 : ys.length ≤ xs.length := by omega
    have hl3 : xs.length ≤ ys.length := by omega
    have HL := Lib.hid hl
    clear hl
    go_enter Try.func182, Try.ntmps182
    go_wp2
    go_loopw [13] (fun i wr => ∃ k : Nat, i = .int .i64 k ∧ k ≤ xs.length ∧ xs.take k = ys.take k ∧ ∃ y, wr = ext w y) (fun i _ => xs.length - (intOf i).toNat)
    case atStart => exact ⟨0, rfl, by omega, by simp, refl_ext w⟩
    case round =>
      obtain ⟨k, rfl, hk, ht, hw⟩ := hrel
      have Ht := Lib.hid ht
      clear ht
      by_cases hlt : k < xs.length
      · have hlt2 : k < ys.length := by omega
        obtain ⟨b, o, A1, c1, rfl, hb, hc, hv⟩ := (h1.toExt hw).atV hlt
        obtain ⟨b', o', A2, c2, rfl, hb', hc', hv'⟩ := (h2.toExt hw).atV hlt2
        have lx := Hxl.out xs[k] (List.getElem_mem hlt)
        have ly := Hyl.out ys[k] (List.getElem_mem hlt2)
        have HS := Lib.hid (fun he : xs[k] = ys[k] => take_snoc_eq hlt hlt2 Ht.out he)
        have HNE := Lib.hid (fun he : ¬ xs[k] = ys[k] => ne_of_at hlt hlt2 he)
        obtain ⟨x, hx1⟩ : ∃ x, xs[k] = x := ⟨_, rfl⟩
        obtain ⟨y, hy1⟩ : ∃ y, ys[k] = y := ⟨_, rfl⟩
        rw [hx1] at hc hv lx HS HNE
        rw [hy1] at hc' hv' ly HS HNE
        obtain ⟨t, ht⟩ : ∃ t, decide (x = y) = t := ⟨_, rfl⟩
        have NT := Lib.hid ht
        clear hx1 hy1 ht
        cases t with
        | true =>
          go_wp2
          refine wp_region_ext (by kernel_rfl) (by kernel_rfl) ?_
          repeat (go_big_quiet_step ((go_at_call 127; exact quietEb (sameInts_any lx hv.ext ly hv'.ext) NT.out)))
          refine wpQuiet_nil ?_
          rintro _ ⟨z, rfl⟩
          go_wp2
          exact ⟨⟨k + 1, by go_num, by omega, HS.out (by simpa using NT.out), (by refine x'z ?_; repeat (with_reducible (first | exact x'a _ _ | exact x'b _ | exact x'c (by assumption) | refine x'd ?_ (by assumption) | refine x'e ?_ _ | refine x'f ?_ _ | refine x'g ?_ | refine x'h ?_ ?_ _ | refine x'i ?_ _ | refine x'j ?_ | refine x'k ?_ _ | refine x'l ?_ _ _ | refine x'm ?_ | assumption | (refine x'n ?_; omega) | omega)))⟩, by simp [intOf]; omega⟩
        | false =>
          go_wp2
          refine wp_region_ext (by kernel_rfl) (by kernel_rfl) ?_
          repeat (go_big_quiet_step ((go_at_call 127; exact quietEb (sameInts_any lx hv.ext ly hv'.ext) NT.out)))
          refine wpQuiet_nil ?_
          rintro _ ⟨z, rfl⟩
          go_wp2
          go_ret
          exact ⟨by rw [decide_eq_false (HNE.out (by simpa using NT.out))]; rfl, (by refine x'z ?_; repeat (with_reducible (first | exact x'a _ _ | exact x'b _ | exact x'c (by assumption) | refine x'd ?_ (by assumption) | refine x'e ?_ _ | refine x'f ?_ _ | refine x'g ?_ | refine x'h ?_ ?_ _ | refine x'i ?_ _ | refine x'j ?_ | refine x'k ?_ _ | refine x'l ?_ _ _ | refine x'm ?_ | assumption | (refine x'n ?_; omega) | omega)))⟩
      · go_wp2
        go_ret
        exact ⟨by rw [decide_eq_true (all_eq HL.out hlt Ht.out)]; rfl, hw⟩
  · have hn : ((xs.length : Int) != (ys.length : Int)) = true := by simp; omega
    go_enter Try.func182, Try.ntmps182
    go_wp2
    go_ret
    exact ⟨by rw [decide_eq_false (by rintro rfl; exact hl rfl)]; rfl, refl_ext w⟩
set_option maxHeartbeats 1000000 in
theorem EqualRelations_any {A A' : Option Addr} {c c' : Nat} {d d' : Rd} {w : World} (hb : BRel d) (h : vRel w [.int .i64 d.1, .slice A d.2.length c] d) (hb' : BRel d') (h' : vRel w [.int .i64 d'.1, .slice A' d'.2.length c'] d') :
    Calls Try.prog 128 #[.agg #[.int .i64 d.1, .slice A d.2.length c], .agg #[.int .i64 d'.1, .slice A' d'.2.length c']] w fun e w' => e = .returned (.bool (decide (d = d'))) ∧ ∃ y, w' = ext w y := by
  have r1 := (vII_get (vRel_get h).2).2
  have s1 := (vII_get (vRel_get h').2).2
  have b1 := hb.2
  have p1 := hb'.2
  have HD := Lib.hid (show decide (d = d') = (decide (d.1 = d'.1) && decide (d.2 = d'.2)) by
    rw [Bool.eq_iff_iff]
    simp [Prod.ext_iff])
  obtain ⟨z, rows⟩ := d
  obtain ⟨z', rows'⟩ := d'
  dsimp only at r1 s1 b1 p1 HD ⊢
  have B1 := Lib.hid b1.big
  have P1' := Lib.hid p1.big
  have m1 : rows.length ≤ 1000000000 := Nat.le_trans b1.1 (by omega)
  have m2 : rows'.length ≤ 1000000000 := Nat.le_trans p1.1 (by omega)
  obtain ⟨t1, ht1⟩ : ∃ t, decide (z = z') = t := ⟨_, rfl⟩
  obtain ⟨t2, ht2⟩ : ∃ t, decide (rows = rows') = t := ⟨_, rfl⟩
  have D2 := Lib.hid ht2
  have hq0 : (z == z') = t1 := by rw [← ht1]; rfl
  have hq : (z != z') = !t1 := by rw [← ht1]; by_cases q : z = z' <;> simp [q]
  have HE := Lib.hid (show decide ((z, rows) = (z', rows')) = (t1 && t2) by rw [HD.out, ht1, ht2])
  clear h h' hb hb' b1 p1 ht1 ht2 HD
  cases t1
  all_goals
    go_enter Try.func128, Try.ntmps128
    go_upto_region 1 with fail
    refine wp_name ?_
    intro W hW
    have xW : ∃ y, W = ext w y := by rw [hW.out]; exact (by refine x'z ?_; repeat (with_reducible (first | exact x'a _ _ | exact x'b _ | exact x'c (by assumption) | refine x'd ?_ (by assumption) | refine x'e ?_ _ | refine x'f ?_ _ | refine x'g ?_ | refine x'h ?_ ?_ _ | refine x'i ?_ _ | refine x'j ?_ | refine x'k ?_ _ | refine x'l ?_ _ _ | refine x'm ?_ | assumption | (refine x'n ?_; omega) | omega)))
    have BW0 : BoxAt W (w.heap.size) #[.int .i64 z, .slice A rows.length c] := by rw [hW.out]; refine ⟨?_, fun j => ?_, fun j => ?_⟩ <;> go_simp
    obtain ⟨lW0, bW0, fW0⟩ := BW0
    have cW0_0 : W.cell? ⟨w.heap.size, 0, none⟩ = some (.int .i64 z) := bW0 0
    have cW0_1 : W.cell? ⟨w.heap.size, 1, none⟩ = some (.slice A rows.length c) := bW0 1
    have BW1 : BoxAt W (w.heap.size + 1) #[.int .i64 z', .slice A' rows'.length c'] := by rw [hW.out]; refine ⟨?_, fun j => ?_, fun j => ?_⟩ <;> go_simp
    obtain ⟨lW1, bW1, fW1⟩ := BW1
    have cW1_0 : W.cell? ⟨w.heap.size + 1, 0, none⟩ = some (.int .i64 z') := bW1 0
    have cW1_1 : W.cell? ⟨w.heap.size + 1, 1, none⟩ = some (.slice A' rows'.length c') := bW1 1
    clear hW
    go_wp2_with (go_at_call 182; refine (sameRows_any m1 B1.out (r1.toExt (by refine x'z ?_; repeat (with_reducible (first | exact x'a _ _ | exact x'b _ | exact x'c (by assumption) | refine x'd ?_ (by assumption) | refine x'e ?_ _ | refine x'f ?_ _ | refine x'g ?_ | refine x'h ?_ ?_ _ | refine x'i ?_ _ | refine x'j ?_ | refine x'k ?_ _ | refine x'l ?_ _ _ | refine x'm ?_ | assumption | (refine x'n ?_; omega) | omega)))) m2 P1'.out (s1.toExt (by refine x'z ?_; repeat (with_reducible (first | exact x'a _ _ | exact x'b _ | exact x'c (by assumption) | refine x'd ?_ (by assumption) | refine x'e ?_ _ | refine x'f ?_ _ | refine x'g ?_ | refine x'h ?_ ?_ _ | refine x'i ?_ _ | refine x'j ?_ | refine x'k ?_ _ | refine x'l ?_ _ _ | refine x'm ?_ | assumption | (refine x'n ?_; omega) | omega))))).mono ?_; rintro e w1 ⟨rfl, hx1⟩; rw [D2.out])
    go_ret
    exact ⟨by rw [HE.out]; rfl, (by refine x'z ?_; repeat (with_reducible (first | exact x'a _ _ | exact x'b _ | exact x'c (by assumption) | refine x'd ?_ (by assumption) | refine x'e ?_ _ | refine x'f ?_ _ | refine x'g ?_ | refine x'h ?_ ?_ _ | refine x'i ?_ _ | refine x'j ?_ | refine x'k ?_ _ | refine x'l ?_ _ _ | refine x'm ?_ | assumption | (refine x'n ?_; omega) | omega)))⟩
set_option maxHeartbeats 4000000 in
theorem specEqualRelations_any {A A' : Option Addr} {c c' : Nat} {d d' : Rd} {w : World} (hb : BRel d) (h : vRel w [.int .i64 d.1, .slice A d.2.length c] d) (hb' : BRel d') (h' : vRel w [.int .i64 d'.1, .slice A' d'.2.length c'] d') :
    Calls Try.prog 48 #[.agg #[.int .i64 d.1, .slice A d.2.length c], .agg #[.int .i64 d'.1, .slice A' d'.2.length c']] w fun e w' => e = .returned (.bool (decide (d = d'))) ∧ ∃ y, w' = ext w y := by
  have r1 := (vII_get (vRel_get h).2).2
  have s1 := (vII_get (vRel_get h').2).2
  have b1 := hb.2
  have p1 := hb'.2
  have HD := Lib.hid (show decide (d = d') = (decide (d.1 = d'.1) && decide (d.2 = d'.2)) by
    rw [Bool.eq_iff_iff]
    simp [Prod.ext_iff])
  obtain ⟨z, rows⟩ := d
  obtain ⟨z', rows'⟩ := d'
  dsimp only at r1 s1 b1 p1 HD ⊢
  have B1 := Lib.hid b1.big
  have P1' := Lib.hid p1.big
  have m1 : rows.length ≤ 1000000000 := Nat.le_trans b1.1 (by omega)
  have m2 : rows'.length ≤ 1000000000 := Nat.le_trans p1.1 (by omega)
  obtain ⟨t1, ht1⟩ : ∃ t, decide (z = z') = t := ⟨_, rfl⟩
  obtain ⟨t2, ht2⟩ : ∃ t, decide (rows = rows') = t := ⟨_, rfl⟩
  have D2 := Lib.hid ht2
  have hq0 : (z == z') = t1 := by rw [← ht1]; rfl
  have hq : (z != z') = !t1 := by rw [← ht1]; by_cases q : z = z' <;> simp [q]
  have HE := Lib.hid (show decide ((z, rows) = (z', rows')) = (t1 && t2) by rw [HD.out, ht1, ht2])
  clear h h' hb hb' b1 p1 ht1 ht2 HD
  cases t1 with
  | false =>
    go_enter Try.func48, Try.ntmps48
    go_wp2
    go_ret
    exact ⟨by rw [HE.out]; rfl, (by refine x'z ?_; repeat (with_reducible (first | exact x'a _ _ | exact x'b _ | exact x'c (by assumption) | refine x'd ?_ (by assumption) | refine x'e ?_ _ | refine x'f ?_ _ | refine x'g ?_ | refine x'h ?_ ?_ _ | refine x'i ?_ _ | refine x'j ?_ | refine x'k ?_ _ | refine x'l ?_ _ _ | refine x'm ?_ | assumption | (refine x'n ?_; omega) | omega)))⟩
  | true =>
    by_cases hl : rows.length = rows'.length
    · have hn : ((rows.length : Int) != (rows'.length : Int)) = false := by simp [hl]
      have hl2 : rows'.length ≤ rows.length := by omega
      have hl3 : rows.length ≤ rows'.length := by omega
      have HL := Lib.hid hl
      clear hl
      go_enter Try.func48, Try.ntmps48
      go_upto_region 1 with fail
      refine wp_name ?_
      intro W hW
      have xW : ∃ y, W = ext w y := by rw [hW.out]; exact (by refine x'z ?_; repeat (with_reducible (first | exact x'a _ _ | exact x'b _ | exact x'c (by assumption) | refine x'd ?_ (by assumption) | refine x'e ?_ _ | refine x'f ?_ _ | refine x'g ?_ | refine x'h ?_ ?_ _ | refine x'i ?_ _ | refine x'j ?_ | refine x'k ?_ _ | refine x'l ?_ _ _ | refine x'm ?_ | assumption | (refine x'n ?_; omega) | omega)))
      have BW0 : BoxAt W (w.heap.size) #[.int .i64 z, .slice A rows.length c] := by rw [hW.out]; refine ⟨?_, fun j => ?_, fun j => ?_⟩ <;> go_simp
      obtain ⟨lW0, bW0, fW0⟩ := BW0
      have cW0_0 : W.cell? ⟨w.heap.size, 0, none⟩ = some (.int .i64 z) := bW0 0
      have cW0_1 : W.cell? ⟨w.heap.size, 1, none⟩ = some (.slice A rows.length c) := bW0 1
      have BW1 : BoxAt W (w.heap.size + 1) #[.int .i64 z', .slice A' rows'.length c'] := by rw [hW.out]; refine ⟨?_, fun j => ?_, fun j => ?_⟩ <;> go_simp
      obtain ⟨lW1, bW1, fW1⟩ := BW1
      have cW1_0 : W.cell? ⟨w.heap.size + 1, 0, none⟩ = some (.int .i64 z') := bW1 0
      have cW1_1 : W.cell? ⟨w.heap.size + 1, 1, none⟩ = some (.slice A' rows'.length c') := bW1 1
      clear hW
      have PW : BoxAt W w.heap.size #[.int .i64 z, .slice A rows.length c] := ⟨lW0, bW0, fW0⟩
      have QW : BoxAt W (w.heap.size + 1) #[.int .i64 z', .slice A' rows'.length c'] := ⟨lW1, bW1, fW1⟩
      go_wp2
      clear lW0 bW0 fW0 cW0_0 cW0_1 lW1 bW1 fW1 cW1_0 cW1_1
      go_loopw [5] (fun i wr => ∃ k : Nat, i = .int .i64 k ∧ k ≤ rows.length ∧ Hid (rows.take k = rows'.take k) ∧ ∃ y, wr = ext W y) (fun i _ => rows.length - (intOf i).toNat)
      case atStart => exact ⟨0, rfl, by omega, Lib.hid (by simp), refl_ext W⟩
      case round =>
        obtain ⟨k, rfl, hk, Ht, hy⟩ := hrel
        obtain ⟨l1, a1, a1', f1⟩ := bx2 (PW.toExt hy)
        obtain ⟨l2, a2, a2', f2⟩ := bx2 (QW.toExt hy)
        by_cases hlt : k < rows.length
        · have hlt2 : k < rows'.length := by omega
          obtain ⟨b, o, A1, c1, rfl, hb, hc, hv⟩ := (r1.toExt (trans_ext xW hy)).atV hlt
          obtain ⟨b', o', A2, c2, rfl, hb', hc', hv'⟩ := (s1.toExt (trans_ext xW hy)).atV hlt2
          have lx := B1.out rows[k] (List.getElem_mem hlt)
          have ly := P1'.out rows'[k] (List.getElem_mem hlt2)
          have HS := Lib.hid (fun he : rows[k] = rows'[k] => take_snoc_eq hlt hlt2 Ht.out he)
          have HNE := Lib.hid (fun he : ¬ rows[k] = rows'[k] => ne_of_at hlt hlt2 he)
          obtain ⟨x, hx1⟩ : ∃ x, rows[k] = x := ⟨_, rfl⟩
          obtain ⟨y, hy1⟩ : ∃ y, rows'[k] = y := ⟨_, rfl⟩
          rw [hx1] at hc hv lx HS HNE
          rw [hy1] at hc' hv' ly HS HNE
          obtain ⟨C, hC⟩ : ∃ C, cmpL x y = C := ⟨_, rfl⟩
          have HC := Lib.hid hC
          have HZ := Lib.hid (show C = 0 ↔ x = y by rw [← hC]; exact cmpL_zero)
          clear hx1 hy1 hC
          by_cases h0 : C = 0
          · have HXY := Lib.hid (HZ.out.1 h0)
            subst h0
            go_wp2
            refine wp_region_ext (by kernel_rfl) (by kernel_rfl) ?_
            repeat (go_big_quiet_step ((go_at_call 120; exact quietEj (specCompareRows_any lx hv.ext ly hv'.ext) HC.out)))
            refine wpQuiet_nil ?_
            rintro _ ⟨z, rfl⟩
            go_wp2
            exact ⟨⟨k + 1, by go_num, by omega, Lib.hid (HS.out HXY.out), (by refine x'z ?_; repeat (with_reducible (first | exact x'a _ _ | exact x'b _ | exact x'c (by assumption) | refine x'd ?_ (by assumption) | refine x'e ?_ _ | refine x'f ?_ _ | refine x'g ?_ | refine x'h ?_ ?_ _ | refine x'i ?_ _ | refine x'j ?_ | refine x'k ?_ _ | refine x'l ?_ _ _ | refine x'm ?_ | assumption | (refine x'n ?_; omega) | omega)))⟩, by simp [intOf]; omega⟩
          · have h9 : (C != 0) = true := by simpa using h0
            have HN0 := Lib.hid h0
            clear h0
            go_wp2
            refine wp_region_ext (by kernel_rfl) (by kernel_rfl) ?_
            repeat (go_big_quiet_step ((go_at_call 120; exact quietEj (specCompareRows_any lx hv.ext ly hv'.ext) HC.out)))
            refine wpQuiet_nil ?_
            rintro _ ⟨z, rfl⟩
            go_wp2
            go_ret
            exact ⟨by rw [HE.out, ← D2.out, decide_eq_false (HNE.out (fun e => HN0.out (HZ.out.2 e)))]; rfl, (by refine x'z ?_; repeat (with_reducible (first | exact x'a _ _ | exact x'b _ | exact x'c (by assumption) | refine x'd ?_ (by assumption) | refine x'e ?_ _ | refine x'f ?_ _ | refine x'g ?_ | refine x'h ?_ ?_ _ | refine x'i ?_ _ | refine x'j ?_ | refine x'k ?_ _ | refine x'l ?_ _ _ | refine x'm ?_ | assumption | (refine x'n ?_; omega) | omega)))⟩
        · go_wp2
          go_ret
          exact ⟨by rw [HE.out, ← D2.out, decide_eq_true (all_eq HL.out hlt Ht.out)]; rfl, trans_ext xW hy⟩
    · have hn : ((rows.length : Int) != (rows'.length : Int)) = true := by simp; omega
      have HN := Lib.hid (show t2 = false by rw [← D2.out, decide_eq_false (by rintro rfl; exact hl rfl)])
      clear hl
      go_enter Try.func48, Try.ntmps48
      go_wp2
      go_ret
      exact ⟨by rw [HE.out, HN.out]; rfl, (by refine x'z ?_; repeat (with_reducible (first | exact x'a _ _ | exact x'b _ | exact x'c (by assumption) | refine x'd ?_ (by assumption) | refine x'e ?_ _ | refine x'f ?_ _ | refine x'g ?_ | refine x'h ?_ ?_ _ | refine x'i ?_ _ | refine x'j ?_ | refine x'k ?_ _ | refine x'l ?_ _ _ | refine x'm ?_ | assumption | (refine x'n ?_; omega) | omega)))⟩
set_option maxHeartbeats 1000000 in
theorem EqualVarRelations_any {A B A' B' : Option Addr} {a b a' b' : Nat} {d d' : VRd} {w : World} (hb : BVR d) (h : vVR w [.slice A d.1.length a, .int .i64 d.2.1, .slice B d.2.2.length b] d) (hb' : BVR d') (h' : vVR w [.slice A' d'.1.length a', .int .i64 d'.2.1, .slice B' d'.2.2.length b'] d') :
    Calls Try.prog 51 #[.agg #[.slice A d.1.length a, .int .i64 d.2.1, .slice B d.2.2.length b], .agg #[.slice A' d'.1.length a', .int .i64 d'.2.1, .slice B' d'.2.2.length b']] w fun e w' => e = .returned (.bool (decide (d = d'))) ∧ ∃ y, w' = ext w y := by
  obtain ⟨r1, r2, _⟩ := vVR_get h
  obtain ⟨s1, s2, _⟩ := vVR_get h'
  obtain ⟨b1, b2⟩ := hb
  obtain ⟨p1, p2⟩ := hb'
  have m1 : d.1.length ≤ 1000000000 := by omega
  have m2 : d'.1.length ≤ 1000000000 := by omega
  have HD := Lib.hid (show decide (d = d') = (decide (d.1 = d'.1) && decide (d.2 = d'.2)) by
    rw [Bool.eq_iff_iff]
    simp [Prod.ext_iff])
  obtain ⟨t1, ht1⟩ : ∃ t, decide (d.1 = d'.1) = t := ⟨_, rfl⟩
  obtain ⟨t2, ht2⟩ : ∃ t, decide (d.2 = d'.2) = t := ⟨_, rfl⟩
  have D1 := Lib.hid ht1
  have D2 := Lib.hid ht2
  have HE := Lib.hid (show decide (d = d') = (t1 && t2) by rw [HD.out, ht1, ht2])
  clear h h' ht1 ht2 HD
  cases t1
  all_goals
    go_enter Try.func51, Try.ntmps51
    go_upto_region 1 with fail
    refine wp_name ?_
    intro W hW
    have xW : ∃ y, W = ext w y := by rw [hW.out]; exact (by refine x'z ?_; repeat (with_reducible (first | exact x'a _ _ | exact x'b _ | exact x'c (by assumption) | refine x'd ?_ (by assumption) | refine x'e ?_ _ | refine x'f ?_ _ | refine x'g ?_ | refine x'h ?_ ?_ _ | refine x'i ?_ _ | refine x'j ?_ | refine x'k ?_ _ | refine x'l ?_ _ _ | refine x'm ?_ | assumption | (refine x'n ?_; omega) | omega)))
    have BW0 : BoxAt W (w.heap.size) #[.slice A d.1.length a, .int .i64 d.2.1, .slice B d.2.2.length b] := by rw [hW.out]; refine ⟨?_, fun j => ?_, fun j => ?_⟩ <;> go_simp
    obtain ⟨lW0, bW0, fW0⟩ := BW0
    have cW0_0 : W.cell? ⟨w.heap.size, 0, none⟩ = some (.slice A d.1.length a) := bW0 0
    have cW0_1 : W.cell? ⟨w.heap.size, 1, none⟩ = some (.int .i64 d.2.1) := bW0 1
    have cW0_2 : W.cell? ⟨w.heap.size, 2, none⟩ = some (.slice B d.2.2.length b) := bW0 2
    have BW1 : BoxAt W (w.heap.size + 1) #[.slice A' d'.1.length a', .int .i64 d'.2.1, .slice B' d'.2.2.length b'] := by rw [hW.out]; refine ⟨?_, fun j => ?_, fun j => ?_⟩ <;> go_simp
    obtain ⟨lW1, bW1, fW1⟩ := BW1
    have cW1_0 : W.cell? ⟨w.heap.size + 1, 0, none⟩ = some (.slice A' d'.1.length a') := bW1 0
    have cW1_1 : W.cell? ⟨w.heap.size + 1, 1, none⟩ = some (.int .i64 d'.2.1) := bW1 1
    have cW1_2 : W.cell? ⟨w.heap.size + 1, 2, none⟩ = some (.slice B' d'.2.2.length b') := bW1 2
    clear hW
    go_wp2_with (first
      | (go_at_call 127; (with_reducible refine (sameInts_any m1 (r1.toExt ?_) m2 (s1.toExt ?_)).mono ?_); (focus (exact (by refine x'z ?_; repeat (with_reducible (first | exact x'a _ _ | exact x'b _ | exact x'c (by assumption) | refine x'd ?_ (by assumption) | refine x'e ?_ _ | refine x'f ?_ _ | refine x'g ?_ | refine x'h ?_ ?_ _ | refine x'i ?_ _ | refine x'j ?_ | refine x'k ?_ _ | refine x'l ?_ _ _ | refine x'm ?_ | assumption | (refine x'n ?_; omega) | omega))))); (focus (exact (by refine x'z ?_; repeat (with_reducible (first | exact x'a _ _ | exact x'b _ | exact x'c (by assumption) | refine x'd ?_ (by assumption) | refine x'e ?_ _ | refine x'f ?_ _ | refine x'g ?_ | refine x'h ?_ ?_ _ | refine x'i ?_ _ | refine x'j ?_ | refine x'k ?_ _ | refine x'l ?_ _ _ | refine x'm ?_ | assumption | (refine x'n ?_; omega) | omega))))); rintro e w1 ⟨rfl, hx1⟩; rw [D1.out]; have P1 := BoxAt.toExt (cs := #[.slice A d.1.length a, .int .i64 d.2.1, .slice B d.2.2.length b]) ⟨lW0, bW0, fW0⟩ hx1; have Q1 := BoxAt.toExt (cs := #[.slice A' d'.1.length a', .int .i64 d'.2.1, .slice B' d'.2.2.length b']) ⟨lW1, bW1, fW1⟩ hx1; obtain ⟨l1, a1, a1', a1'', f1⟩ := box3 P1; obtain ⟨o1, z1, z1', z1'', g1⟩ := box3 Q1)
      | (go_at_call 128; refine (EqualRelations_any b2 (VD.toExt r2 (by refine x'z ?_; repeat (with_reducible (first | exact x'a _ _ | exact x'b _ | exact x'c (by assumption) | refine x'd ?_ (by assumption) | refine x'e ?_ _ | refine x'f ?_ _ | refine x'g ?_ | refine x'h ?_ ?_ _ | refine x'i ?_ _ | refine x'j ?_ | refine x'k ?_ _ | refine x'l ?_ _ _ | refine x'm ?_ | assumption | (refine x'n ?_; omega) | omega)))) p2 (VD.toExt s2 (by refine x'z ?_; repeat (with_reducible (first | exact x'a _ _ | exact x'b _ | exact x'c (by assumption) | refine x'd ?_ (by assumption) | refine x'e ?_ _ | refine x'f ?_ _ | refine x'g ?_ | refine x'h ?_ ?_ _ | refine x'i ?_ _ | refine x'j ?_ | refine x'k ?_ _ | refine x'l ?_ _ _ | refine x'm ?_ | assumption | (refine x'n ?_; omega) | omega))))).mono ?_; rintro e w2 ⟨rfl, hx2⟩; rw [D2.out]))
    go_ret
    exact ⟨by rw [HE.out]; rfl, (by refine x'z ?_; repeat (with_reducible (first | exact x'a _ _ | exact x'b _ | exact x'c (by assumption) | refine x'd ?_ (by assumption) | refine x'e ?_ _ | refine x'f ?_ _ | refine x'g ?_ | refine x'h ?_ ?_ _ | refine x'i ?_ _ | refine x'j ?_ | refine x'k ?_ _ | refine x'l ?_ _ _ | refine x'm ?_ | assumption | (refine x'n ?_; omega) | omega)))⟩
set_option maxHeartbeats 1000000 in
theorem specEqualVarRelations_any {A B A' B' : Option Addr} {a b a' b' : Nat} {d d' : VRd} {w : World} (hb : BVR d) (h : vVR w [.slice A d.1.length a, .int .i64 d.2.1, .slice B d.2.2.length b] d) (hb' : BVR d') (h' : vVR w [.slice A' d'.1.length a', .int .i64 d'.2.1, .slice B' d'.2.2.length b'] d') :
    Calls Try.prog 43 #[.agg #[.slice A d.1.length a, .int .i64 d.2.1, .slice B d.2.2.length b], .agg #[.slice A' d'.1.length a', .int .i64 d'.2.1, .slice B' d'.2.2.length b']] w fun e w' => e = .returned (.bool (decide (d = d'))) ∧ ∃ y, w' = ext w y := by
  obtain ⟨r1, r2, _⟩ := vVR_get h
  obtain ⟨s1, s2, _⟩ := vVR_get h'
  obtain ⟨b1, b2⟩ := hb
  obtain ⟨p1, p2⟩ := hb'
  have m1 : d.1.length ≤ 1000000000 := by omega
  have m2 : d'.1.length ≤ 1000000000 := by omega
  have HD := Lib.hid (show decide (d = d') = (decide (d.1 = d'.1) && decide (d.2 = d'.2)) by
    rw [Bool.eq_iff_iff]
    simp [Prod.ext_iff])
  obtain ⟨t1, ht1⟩ : ∃ t, decide (d.1 = d'.1) = t := ⟨_, rfl⟩
  obtain ⟨t2, ht2⟩ : ∃ t, decide (d.2 = d'.2) = t := ⟨_, rfl⟩
  have D1 := Lib.hid ht1
  have D2 := Lib.hid ht2
  have HE := Lib.hid (show decide (d = d') = (t1 && t2) by rw [HD.out, ht1, ht2])
  clear h h' ht1 ht2 HD
  obtain ⟨C, hC⟩ : ∃ C, cmpL d.1 d'.1 = C := ⟨_, rfl⟩
  have HC := Lib.hid hC
  have hCq : (C == 0) = t1 := by rw [← D1.out, ← hC, Bool.eq_iff_iff]; simp [cmpL_zero]
  clear hC
  cases t1
  all_goals
    go_enter Try.func43, Try.ntmps43
    go_upto_region 1 with fail
    refine wp_name ?_
    intro W hW
    have xW : ∃ y, W = ext w y := by rw [hW.out]; exact (by refine x'z ?_; repeat (with_reducible (first | exact x'a _ _ | exact x'b _ | exact x'c (by assumption) | refine x'd ?_ (by assumption) | refine x'e ?_ _ | refine x'f ?_ _ | refine x'g ?_ | refine x'h ?_ ?_ _ | refine x'i ?_ _ | refine x'j ?_ | refine x'k ?_ _ | refine x'l ?_ _ _ | refine x'm ?_ | assumption | (refine x'n ?_; omega) | omega)))
    have BW0 : BoxAt W (w.heap.size) #[.slice A d.1.length a, .int .i64 d.2.1, .slice B d.2.2.length b] := by rw [hW.out]; refine ⟨?_, fun j => ?_, fun j => ?_⟩ <;> go_simp
    obtain ⟨lW0, bW0, fW0⟩ := BW0
    have cW0_0 : W.cell? ⟨w.heap.size, 0, none⟩ = some (.slice A d.1.length a) := bW0 0
    have cW0_1 : W.cell? ⟨w.heap.size, 1, none⟩ = some (.int .i64 d.2.1) := bW0 1
    have cW0_2 : W.cell? ⟨w.heap.size, 2, none⟩ = some (.slice B d.2.2.length b) := bW0 2
    have BW1 : BoxAt W (w.heap.size + 1) #[.slice A' d'.1.length a', .int .i64 d'.2.1, .slice B' d'.2.2.length b'] := by rw [hW.out]; refine ⟨?_, fun j => ?_, fun j => ?_⟩ <;> go_simp
    obtain ⟨lW1, bW1, fW1⟩ := BW1
    have cW1_0 : W.cell? ⟨w.heap.size + 1, 0, none⟩ = some (.slice A' d'.1.length a') := bW1 0
    have cW1_1 : W.cell? ⟨w.heap.size + 1, 1, none⟩ = some (.int .i64 d'.2.1) := bW1 1
    have cW1_2 : W.cell? ⟨w.heap.size + 1, 2, none⟩ = some (.slice B' d'.2.2.length b') := bW1 2
    clear hW
    go_wp2_with (first
      | (go_at_call 120; (with_reducible refine (specCompareRows_any m1 (r1.toExt ?_) m2 (s1.toExt ?_)).mono ?_); (focus (exact (by refine x'z ?_; repeat (with_reducible (first | exact x'a _ _ | exact x'b _ | exact x'c (by assumption) | refine x'd ?_ (by assumption) | refine x'e ?_ _ | refine x'f ?_ _ | refine x'g ?_ | refine x'h ?_ ?_ _ | refine x'i ?_ _ | refine x'j ?_ | refine x'k ?_ _ | refine x'l ?_ _ _ | refine x'm ?_ | assumption | (refine x'n ?_; omega) | omega))))); (focus (exact (by refine x'z ?_; repeat (with_reducible (first | exact x'a _ _ | exact x'b _ | exact x'c (by assumption) | refine x'd ?_ (by assumption) | refine x'e ?_ _ | refine x'f ?_ _ | refine x'g ?_ | refine x'h ?_ ?_ _ | refine x'i ?_ _ | refine x'j ?_ | refine x'k ?_ _ | refine x'l ?_ _ _ | refine x'm ?_ | assumption | (refine x'n ?_; omega) | omega))))); rintro e w1 ⟨rfl, hx1⟩; rw [HC.out]; have P1 := BoxAt.toExt (cs := #[.slice A d.1.length a, .int .i64 d.2.1, .slice B d.2.2.length b]) ⟨lW0, bW0, fW0⟩ hx1; have Q1 := BoxAt.toExt (cs := #[.slice A' d'.1.length a', .int .i64 d'.2.1, .slice B' d'.2.2.length b']) ⟨lW1, bW1, fW1⟩ hx1; obtain ⟨l1, a1, a1', a1'', f1⟩ := box3 P1; obtain ⟨o1, z1, z1', z1'', g1⟩ := box3 Q1)
      | (go_at_call 48; refine (specEqualRelations_any b2 (VD.toExt r2 (by refine x'z ?_; repeat (with_reducible (first | exact x'a _ _ | exact x'b _ | exact x'c (by assumption) | refine x'd ?_ (by assumption) | refine x'e ?_ _ | refine x'f ?_ _ | refine x'g ?_ | refine x'h ?_ ?_ _ | refine x'i ?_ _ | refine x'j ?_ | refine x'k ?_ _ | refine x'l ?_ _ _ | refine x'm ?_ | assumption | (refine x'n ?_; omega) | omega)))) p2 (VD.toExt s2 (by refine x'z ?_; repeat (with_reducible (first | exact x'a _ _ | exact x'b _ | exact x'c (by assumption) | refine x'd ?_ (by assumption) | refine x'e ?_ _ | refine x'f ?_ _ | refine x'g ?_ | refine x'h ?_ ?_ _ | refine x'i ?_ _ | refine x'j ?_ | refine x'k ?_ _ | refine x'l ?_ _ _ | refine x'm ?_ | assumption | (refine x'n ?_; omega) | omega))))).mono ?_; rintro e w2 ⟨rfl, hx2⟩; rw [D2.out]))
    go_ret
    exact ⟨by rw [HE.out]; rfl, (by refine x'z ?_; repeat (with_reducible (first | exact x'a _ _ | exact x'b _ | exact x'c (by assumption) | refine x'd ?_ (by assumption) | refine x'e ?_ _ | refine x'f ?_ _ | refine x'g ?_ | refine x'h ?_ ?_ _ | refine x'i ?_ _ | refine x'j ?_ | refine x'k ?_ _ | refine x'l ?_ _ _ | refine x'm ?_ | assumption | (refine x'n ?_; omega) | omega)))⟩
end Go.Proofs.Ytfigcfajkilhiaa

/- Contracts of the smallest functions: a number within bounds, a variable's name. -/
namespace Go.Proofs.Ytfigcfajkilhiaa
open Go.ChangeShapes Go.WideShapes Go.ChangeAt Go.RowKit

def inB (x a b : Int) : Bool := decide (a ≤ x ∧ x ≤ b)
theorem inB_t {x a b : Int} (h : inB x a b = true) : a ≤ x ∧ x ≤ b := by simpa [inB] using h
theorem inB_f {x a b : Int} (h : inB x a b = false) : x < a ∨ b < x := by simp [inB] at h; omega

theorem within_any (x a b : Int) (w : World) : Calls Try.prog 121 #[.int .i64 x, .int .i64 a, .int .i64 b] w fun e w' => e = .returned (.bool (inB x a b)) ∧ w = w' := by
  unfold inB
  by_cases h1 : a ≤ x <;> by_cases h2 : x ≤ b <;> (go_enter Try.func121, Try.ntmps121; go_wp2; go_ret; exact ⟨by simp [h1, h2], rfl⟩)
theorem l1In_any (x a b : Int) (w : World) : Calls Try.prog 123 #[.int .i64 x, .int .i64 a, .int .i64 b] w fun e w' => e = .returned (.bool (inB x a b)) ∧ w = w' := by
  unfold inB
  by_cases h1 : a ≤ x <;> by_cases h2 : x ≤ b <;> (go_enter Try.func123, Try.ntmps123; go_wp2; go_ret; exact ⟨by simp [h1, h2], rfl⟩)

def vname (v : Int) : ByteArray := if inB v 0 4 = true then (⟨#[88, 89, 90, 85, 86]⟩ : ByteArray).extract v.toNat (v.toNat + 1) else ⟨#[]⟩

theorem specVariableName_any (x : Int) (w : World) : Calls Try.prog 200 #[.int .i64 x] w fun e w' => e = .returned (.string (vname x)) ∧ w = w' := by
  unfold vname
  by_cases h : inB x 0 4 = true
  · rw [if_pos h]
    obtain ⟨h3, h4⟩ := inB_t h
    go_enter Try.func200, Try.ntmps200
    go_wp2_with (go_at_call 123; refine (l1In_any _ _ _ _).mono ?_; rintro e w' ⟨rfl, rfl⟩)
    go_ret
    exact ⟨by rw [show (x + 1).toNat = x.toNat + 1 by omega]; rfl, rfl⟩
  · rw [if_neg h]
    have h : inB x 0 4 = false := by simpa using h
    go_enter Try.func200, Try.ntmps200
    go_wp2_with (go_at_call 123; refine (l1In_any _ _ _ _).mono ?_; rintro e w' ⟨rfl, rfl⟩)
    go_ret
    exact ⟨rfl, rfl⟩
end Go.Proofs.Ytfigcfajkilhiaa

/- Whether a relation is valid; the program's way and the reference's. -/
namespace Go.Proofs.Ytfigcfajkilhiaa
open Go.RowKit

def rowV (xs : List Int) : Bool := xs.all fun v => inB v 0 99
def allN (p : Nat → Bool) : Nat → Nat → Bool
  | 0, _ => true
  | f + 1, k => p k && allN p f (k + 1)
theorem allN_step {p : Nat → Bool} {n k : Nat} (h : k < n) : allN p (n - k) k = (p k && allN p (n - (k + 1)) (k + 1)) := by
  rw [show n - k = (n - (k + 1)) + 1 by omega, allN]
theorem allN_end {p : Nat → Bool} {n k : Nat} (h : ¬ k < n) : allN p (n - k) k = true := by
  rw [show n - k = 0 by omega, allN]
def rowOk (a : Int) (rows : List (List Int)) (i : Nat) : Bool := decide (((rows.getD i []).length : Int) = a) && rowV (rows.getD i []) && (decide (i = 0) || decide (cmpL (rows.getD (i - 1) []) (rows.getD i []) < 0))
def rowsB (a : Int) (rows : List (List Int)) : Bool := inB a 0 5 && decide (rows.length ≤ 4000) && allN (rowOk a rows) rows.length 0
def vars1 (xs : List Int) (i : Nat) : Bool := inB (xs.getD i 0) 0 4 && (decide (i = 0) || decide (xs.getD (i - 1) 0 < xs.getD i 0))
def varsB (xs : List Int) : Bool := allN (vars1 xs) xs.length 0
def vrB (d : VRd) : Bool := varsB d.1 && rowsB d.2.1 d.2.2 && decide (d.2.1 = (d.1.length : Int))
theorem allR_step {p : Int → Bool} {xs : List Int} {k : Nat} (h : k < xs.length) : (xs.drop k).all p = (p xs[k] && (xs.drop (k + 1)).all p) := by
  rw [List.drop_eq_getElem_cons h, List.all_cons]
theorem allR_end {p : Int → Bool} {xs : List Int} {k : Nat} (h : ¬ k < xs.length) : (xs.drop k).all p = true := by
  rw [List.drop_eq_nil_of_le (by omega)]; rfl
set_option maxHeartbeats 400000 in
theorem AreValidValues_any {A : Option Addr} {c : Nat} {xs : List Int} {w : World} (hx : xs.length ≤ 1000000000) (h1 : RI w A xs) :
    Calls Try.prog 189 #[.slice A xs.length c] w fun e w' => e = .returned (.bool (rowV xs)) ∧ w = w' := by
  go_enter Try.func189, Try.ntmps189
  go_wp2
  go_loop [7] (fun i => ∃ k : Nat, i = .int .i64 k ∧ k ≤ xs.length ∧ Hid ((xs.drop k).all (fun v => inB v 0 99) = rowV xs)) (fun i => xs.length - (intOf i).toNat)
  case atStart => exact ⟨0, rfl, by omega, Lib.hid rfl⟩
  case round =>
    obtain ⟨k, rfl, hk, Hj⟩ := hrel
    by_cases hlt : k < xs.length
    · obtain ⟨b, o, rfl, hb, hc⟩ := h1.atI hlt
      have e := Hj.out
      rw [allR_step hlt] at e
      obtain ⟨t, ht⟩ : ∃ t, inB xs[k] 0 99 = t := ⟨_, rfl⟩
      rw [ht] at e
      have NT := Lib.hid ht
      have He := Lib.hid e
      clear e ht Hj
      cases t with
      | true =>
        go_wp2_with (go_at_call 121; refine (within_any _ _ _ _).mono ?_; rintro e w' ⟨rfl, rfl⟩; rw [NT.out])
        exact ⟨⟨k + 1, by go_num, by omega, Lib.hid (by simpa using He.out)⟩, by simp [intOf]; omega⟩
      | false =>
        go_wp2_with (go_at_call 121; refine (within_any _ _ _ _).mono ?_; rintro e w' ⟨rfl, rfl⟩; rw [NT.out])
        go_ret
        exact ⟨by rw [← He.out]; rfl, rfl⟩
    · have e := Hj.out
      rw [allR_end hlt] at e
      have He := Lib.hid e
      clear e Hj
      go_wp2
      go_ret
      exact ⟨by rw [← He.out]; rfl, rfl⟩
set_option maxHeartbeats 400000 in
theorem specAreValidValues_any {A : Option Addr} {c : Nat} {xs : List Int} {w : World} (hx : xs.length ≤ 1000000000) (h1 : RI w A xs) :
    Calls Try.prog 140 #[.slice A xs.length c] w fun e w' => e = .returned (.bool (rowV xs)) ∧ w = w' := by
  go_enter Try.func140, Try.ntmps140
  go_wp2
  go_loop [3] (fun i => ∃ k : Nat, i = .int .i64 k ∧ k ≤ xs.length ∧ Hid ((xs.drop k).all (fun v => inB v 0 99) = rowV xs)) (fun i => xs.length - (intOf i).toNat)
  case atStart => exact ⟨0, rfl, by omega, Lib.hid rfl⟩
  case round =>
    obtain ⟨k, rfl, hk, Hj⟩ := hrel
    by_cases hlt : k < xs.length
    · obtain ⟨b, o, rfl, hb, hc⟩ := h1.atI hlt
      have e := Hj.out
      rw [allR_step hlt] at e
      obtain ⟨t, ht⟩ : ∃ t, inB xs[k] 0 99 = t := ⟨_, rfl⟩
      rw [ht] at e
      have NT := Lib.hid ht
      have He := Lib.hid e
      clear e ht Hj
      cases t with
      | true =>
        go_wp2_with (go_at_call 123; refine (l1In_any _ _ _ _).mono ?_; rintro e w' ⟨rfl, rfl⟩; rw [NT.out])
        exact ⟨⟨k + 1, by go_num, by omega, Lib.hid (by simpa using He.out)⟩, by simp [intOf]; omega⟩
      | false =>
        go_wp2_with (go_at_call 123; refine (l1In_any _ _ _ _).mono ?_; rintro e w' ⟨rfl, rfl⟩; rw [NT.out])
        go_ret
        exact ⟨by rw [← He.out]; rfl, rfl⟩
    · have e := Hj.out
      rw [allR_end hlt] at e
      have He := Lib.hid e
      clear e Hj
      go_wp2
      go_ret
      exact ⟨by rw [← He.out]; rfl, rfl⟩
theorem compareInts_any (a b : Int) (w : World) : Calls Try.prog 193 #[.int .i64 a, .int .i64 b] w fun e w' => e = .returned (.int .i64 (cmpI a b)) ∧ w = w' := by
  by_cases h1 : a < b
  · have HE := Lib.hid (show cmpI a b = -1 by unfold cmpI; rw [if_pos h1])
    go_enter Try.func193, Try.ntmps193
    go_wp2
    go_ret
    exact ⟨by rw [HE.out]; rfl, rfl⟩
  · by_cases h2 : b < a
    · have HE := Lib.hid (show cmpI a b = 1 by unfold cmpI; rw [if_neg h1, if_pos h2])
      go_enter Try.func193, Try.ntmps193
      go_wp2
      go_ret
      exact ⟨by rw [HE.out]; rfl, rfl⟩
    · have HE := Lib.hid (show cmpI a b = 0 by unfold cmpI; rw [if_neg h1, if_neg h2])
      go_enter Try.func193, Try.ntmps193
      go_wp2
      go_ret
      exact ⟨by rw [HE.out]; rfl, rfl⟩
theorem quietSj {P : Program} {f : FuncId} {args : Array Value} {w y : World} {m n : Int}
    (h : Calls P f args (ext w y) fun e w' => e = .returned (.int .i64 m) ∧ ext w y = w') (hc : m = n) : Calls P f args (ext w y) fun e w' => e = .returned (.int .i64 n) ∧ ∃ z, w' = ext w z := by
  subst hc; exact quietS h
set_option maxHeartbeats 1000000 in
theorem CompareRows_any {A A' : Option Addr} {c c' : Nat} {xs ys : List Int} {w : World} (hx : xs.length ≤ 1000000000) (h1 : RI w A xs) (hy : ys.length ≤ 1000000000) (h2 : RI w A' ys) :
    Calls Try.prog 181 #[.slice A xs.length c, .slice A' ys.length c'] w fun e w' => e = .returned (.int .i64 (cmpL xs ys)) ∧ ∃ y, w' = ext w y := by
  go_enter Try.func181, Try.ntmps181
  go_wp2
  go_loopw [5] (fun i wr => ∃ k : Nat, i = .int .i64 k ∧ k ≤ xs.length ∧ k ≤ ys.length ∧ Hid (cmpL (xs.drop k) (ys.drop k) = cmpL xs ys) ∧ ∃ y, wr = ext w y) (fun i _ => xs.length - (intOf i).toNat)
  case atStart => exact ⟨0, rfl, by omega, by omega, Lib.hid (by simp), refl_ext w⟩
  case round =>
    obtain ⟨k, rfl, hk, hk2, Ht, hw⟩ := hrel
    by_cases hlt : k < xs.length
    · by_cases hlt2 : k < ys.length
      · obtain ⟨b, o, rfl, hb, hc⟩ := (h1.toExt hw).atI hlt
        obtain ⟨b', o', rfl, hb', hc'⟩ := (h2.toExt hw).atI hlt2
        by_cases he : xs[k] = ys[k]
        · have He := Lib.hid ((cmpL_step hlt hlt2 he).symm.trans Ht.out)
          have hq : (xs[k] != ys[k]) = false := by simp [he]
          clear he Ht
          go_wp2
          refine wp_region_ext (by kernel_rfl) (by kernel_rfl) ?_
          repeat (go_big_quiet_step (fail))
          refine wpQuiet_nil ?_
          rintro _ ⟨z, rfl⟩
          go_wp2
          exact ⟨⟨k + 1, by go_num, by omega, by omega, He, (by refine x'z ?_; repeat (with_reducible (first | exact x'a _ _ | exact x'b _ | exact x'c (by assumption) | refine x'd ?_ (by assumption) | refine x'e ?_ _ | refine x'f ?_ _ | refine x'g ?_ | refine x'h ?_ ?_ _ | refine x'i ?_ _ | refine x'j ?_ | refine x'k ?_ _ | refine x'l ?_ _ _ | refine x'm ?_ | assumption | (refine x'n ?_; omega) | omega)))⟩, by simp [intOf]; omega⟩
        · have He := Lib.hid ((cmpL_stop hlt hlt2 he).symm.trans Ht.out)
          have hq : (xs[k] != ys[k]) = true := by simp [he]
          clear he Ht
          go_wp2
          refine wp_region_ext (by kernel_rfl) (by kernel_rfl) ?_
          repeat (go_big_quiet_step (fail))
          refine wpQuiet_nil ?_
          rintro _ ⟨z, rfl⟩
          have hb2 := lt_ext (x := z) hb
          have hb3 := lt_ext (x := z) hb'
          go_wp2
          refine wp_region_ext (by kernel_rfl) (by kernel_rfl) ?_
          repeat (go_big_quiet_step ((go_at_call 193; exact quietSj (compareInts_any _ _ _) He.out)))
          refine wpQuiet_nil ?_
          rintro _ ⟨z2, rfl⟩
          go_wp2
          go_ret
          exact ⟨rfl, (by refine x'z ?_; repeat (with_reducible (first | exact x'a _ _ | exact x'b _ | exact x'c (by assumption) | refine x'd ?_ (by assumption) | refine x'e ?_ _ | refine x'f ?_ _ | refine x'g ?_ | refine x'h ?_ ?_ _ | refine x'i ?_ _ | refine x'j ?_ | refine x'k ?_ _ | refine x'l ?_ _ _ | refine x'm ?_ | assumption | (refine x'n ?_; omega) | omega)))⟩
      · have He := Lib.hid ((cmpL_end hk hk2 (by omega)).symm.trans Ht.out)
        clear Ht
        go_wp2_with (go_at_call 193; refine (compareInts_any _ _ _).mono ?_; rintro e w' ⟨rfl, rfl⟩; rw [He.out])
        go_ret
        exact ⟨rfl, hw⟩
    · have He := Lib.hid ((cmpL_end hk hk2 (by omega)).symm.trans Ht.out)
      clear Ht
      go_wp2_with (go_at_call 193; refine (compareInts_any _ _ _).mono ?_; rintro e w' ⟨rfl, rfl⟩; rw [He.out])
      go_ret
      exact ⟨rfl, hw⟩
theorem RV.atV' {w : World} {b o : Nat} {d : List (List Int)} (h : RII w (some ⟨b, o, none⟩) d) {k : Nat} (hk : k < d.length) : b < w.heap.size ∧ ∃ A' c', w.cell? ⟨b, o + k, none⟩ = some (.slice A' (d.getD k []).length c') ∧ RI w A' (d.getD k []) := by
  obtain ⟨b', o', A', c', e, h1, h2, h3⟩ := h.atV hk
  injection e with e
  injection e with e1 e2 _
  subst e1 e2
  have eg : d.getD k [] = d[k] := by rw [List.getD_eq_getElem?_getD, List.getElem?_eq_getElem hk]; rfl
  rw [eg]
  exact ⟨h1, A', c', h2, h3⟩
theorem RV.pl {w : World} {α : Type} {size : Nat} {E : VE α} {A : Option Addr} {d : List α} (h : RV size E w A d) (hk : 0 < d.length) : ∃ b o, A = some ⟨b, o, none⟩ := by
  obtain ⟨b, o, e, _⟩ := h (by intro e; rw [e] at hk; simp at hk)
  exact ⟨b, o, e⟩
theorem rows_f {a : Int} {rows : List (List Int)} (h : allN (rowOk a rows) rows.length 0 = false) : rowsB a rows = false := by unfold rowsB; rw [h, Bool.and_false]
set_option maxRecDepth 100000 in
set_option maxHeartbeats 8000000 in
theorem rowsValid_any {a : Int} {A : Option Addr} {c : Nat} {rows : List (List Int)} {w : World} (hx : rows.length ≤ 1000000000) (hxl : ∀ j, (rows.getD j []).length ≤ 1000000000) (h1 : RII w A rows) :
    Calls Try.prog 180 #[.int .i64 a, .slice A rows.length c] w fun e w' => e = .returned (.bool (rowsB a rows)) ∧ ∃ y, w' = ext w y := by
  have HL := Lib.hid hxl
  clear hxl
  obtain ⟨t1, ht1⟩ : ∃ t, inB a 0 5 = t := ⟨_, rfl⟩
  have N1 := Lib.hid ht1
  have HE := Lib.hid (show rowsB a rows = (t1 && decide (rows.length ≤ 4000) && allN (rowOk a rows) rows.length 0) by unfold rowsB; rw [ht1])
  clear ht1
  cases t1 with
  | false =>
    go_enter Try.func180, Try.ntmps180
    go_wp2_with (go_at_call 121; refine (within_any _ _ _ _).mono ?_; rintro e w' ⟨rfl, rfl⟩; rw [N1.out])
    go_ret
    exact ⟨by rw [HE.out]; rfl, refl_ext w⟩
  | true =>
    by_cases h4 : rows.length ≤ 4000
    · have HE2 := Lib.hid (show rowsB a rows = allN (rowOk a rows) rows.length 0 by rw [HE.out, decide_eq_true h4]; simp)
      go_enter Try.func180, Try.ntmps180
      go_wp2_with (go_at_call 121; refine (within_any _ _ _ _).mono ?_; rintro e w' ⟨rfl, rfl⟩; rw [N1.out])
      go_loopw [17] (fun i wr => ∃ k : Nat, i = .int .i64 k ∧ k ≤ rows.length ∧ (∃ y, wr = ext w y) ∧ Hid (allN (rowOk a rows) (rows.length - k) k = allN (rowOk a rows) rows.length 0)) (fun i _ => rows.length - (intOf i).toNat)
      case atStart => exact ⟨0, rfl, by omega, refl_ext w, Lib.hid rfl⟩
      case round =>
        obtain ⟨k, rfl, hk, hy, Hj⟩ := hrel
        by_cases hlt : k < rows.length
        · obtain ⟨b, o, rfl⟩ := h1.pl (by omega)
          obtain ⟨hb, A1, c1, hc, hv⟩ := (h1.toExt hy).atV' hlt
          have e := Hj.out
          rw [allN_step hlt] at e
          obtain ⟨r, hr⟩ : ∃ r, rows.getD k [] = r := ⟨_, rfl⟩
          have lr := HL.out k
          rw [hr] at hc hv lr
          obtain ⟨t3, ht3⟩ : ∃ t, decide ((r.length : Int) = a) = t := ⟨_, rfl⟩
          obtain ⟨t4, ht4⟩ : ∃ t, rowV r = t := ⟨_, rfl⟩
          have q3 : ((r.length : Int) != a) = !t3 := by rw [← ht3]; by_cases q : (r.length : Int) = a <;> simp [q]
          have eR : rowOk a rows k = (t3 && t4 && (decide (k = 0) || decide (cmpL (rows.getD (k - 1) []) r < 0))) := by unfold rowOk; rw [hr, ht3, ht4]
          rw [eR] at e
          have N4 := Lib.hid ht4
          clear hr ht3 ht4 eR Hj
          cases t3 with
          | false =>
            have HF := Lib.hid (rows_f (a := a) (rows := rows) (by rw [← e]; rfl))
            clear e
            go_wp2
            go_ret
            exact ⟨by rw [HF.out]; rfl, hy⟩
          | true =>
            cases t4 with
            | false =>
              have HF := Lib.hid (rows_f (a := a) (rows := rows) (by rw [← e]; rfl))
              clear e
              go_wp2_with (go_at_call 189; refine (AreValidValues_any lr hv).mono ?_; rintro e w' ⟨rfl, rfl⟩; rw [N4.out])
              go_ret
              exact ⟨by rw [HF.out]; rfl, hy⟩
            | true =>
              by_cases hk0 : 0 < k
              · obtain ⟨_, A2, c2, hc2, hv2⟩ := (h1.toExt hy).atV' (k := k - 1) (by omega)
                have lr2 := HL.out (k - 1)
                obtain ⟨r2, hr2⟩ : ∃ r, rows.getD (k - 1) [] = r := ⟨_, rfl⟩
                rw [hr2] at hc2 hv2 lr2 e
                obtain ⟨C, hC⟩ : ∃ C, cmpL r2 r = C := ⟨_, rfl⟩
                rw [hC, decide_eq_false (show ¬ k = 0 by omega)] at e
                have HC := Lib.hid hC
                have s2 : ((k : Int) - 1).toNat = k - 1 := by omega
                clear hr2 hC
                by_cases hC0 : C < 0
                · have HK := Lib.hid (show allN (rowOk a rows) (rows.length - (k + 1)) (k + 1) = allN (rowOk a rows) rows.length 0 by rw [decide_eq_true hC0] at e; simpa using e)
                  clear e
                  go_wp2_with (first
                    | (go_at_call 189; refine (AreValidValues_any lr hv).mono ?_; rintro e w' ⟨rfl, rfl⟩; rw [N4.out])
                    | (go_at_call 181; refine (CompareRows_any lr2 hv2 lr hv).mono ?_; rintro e w2 ⟨rfl, hx2⟩; rw [HC.out]))
                  exact ⟨⟨k + 1, by go_num, by omega, trans_ext hy hx2, HK⟩, by simp [intOf]; omega⟩
                · have HF := Lib.hid (rows_f (a := a) (rows := rows) (by rw [decide_eq_false hC0] at e; rw [← e]; rfl))
                  have hC1 : 0 ≤ C := by omega
                  clear e
                  go_wp2_with (first
                    | (go_at_call 189; refine (AreValidValues_any lr hv).mono ?_; rintro e w' ⟨rfl, rfl⟩; rw [N4.out])
                    | (go_at_call 181; refine (CompareRows_any lr2 hv2 lr hv).mono ?_; rintro e w2 ⟨rfl, hx2⟩; rw [HC.out]))
                  go_ret
                  exact ⟨by rw [HF.out]; rfl, trans_ext hy hx2⟩
              · have HK := Lib.hid (show allN (rowOk a rows) (rows.length - (k + 1)) (k + 1) = allN (rowOk a rows) rows.length 0 by rw [decide_eq_true (show k = 0 by omega)] at e; simpa using e)
                clear e
                go_wp2_with (go_at_call 189; refine (AreValidValues_any lr hv).mono ?_; rintro e w' ⟨rfl, rfl⟩; rw [N4.out])
                exact ⟨⟨k + 1, by go_num, by omega, hy, HK⟩, by simp [intOf]; omega⟩
        · have e := Hj.out
          rw [allN_end hlt] at e
          have HK := Lib.hid (show rowsB a rows = true by rw [HE2.out, ← e])
          clear e Hj
          go_wp2
          go_ret
          exact ⟨by rw [HK.out]; rfl, hy⟩
    · have HE2 := Lib.hid (show rowsB a rows = false by rw [HE.out, decide_eq_false h4]; rfl)
      have h5 : 4000 < rows.length := by omega
      go_enter Try.func180, Try.ntmps180
      go_wp2_with (go_at_call 121; refine (within_any _ _ _ _).mono ?_; rintro e w' ⟨rfl, rfl⟩; rw [N1.out])
      go_ret
      exact ⟨by rw [HE2.out]; rfl, refl_ext w⟩
theorem rows_len {d : Rd} (h : BRel d) (j : Nat) : (d.2.getD j []).length ≤ 1000000000 := by
  by_cases hj : j < d.2.length
  · rw [List.getD_eq_getElem?_getD, List.getElem?_eq_getElem hj]
    exact h.2.big _ (List.getElem_mem hj)
  · rw [List.getD_eq_getElem?_getD, List.getElem?_eq_none (by omega)]
    simp
theorem rows_lenW {rows : List (List Int)} (h : ∀ x ∈ rows, x.length ≤ 1000000000) (j : Nat) : (rows.getD j []).length ≤ 1000000000 := by
  by_cases hj : j < rows.length
  · rw [List.getD_eq_getElem?_getD, List.getElem?_eq_getElem hj]
    exact h _ (List.getElem_mem hj)
  · rw [List.getD_eq_getElem?_getD, List.getElem?_eq_none (by omega)]
    simp
theorem IsValidRelation_w {a : Int} {A : Option Addr} {c : Nat} {rows : List (List Int)} {w : World} (hx : rows.length ≤ 1000000000) (hxl : ∀ x ∈ rows, x.length ≤ 1000000000) (h1 : RII w A rows) :
    Calls Try.prog 122 #[.agg #[.int .i64 a, .slice A rows.length c]] w fun e w' => e = .returned (.bool (rowsB a rows)) ∧ ∃ y, w' = ext w y := by
  have HL := Lib.hid (rows_lenW hxl)
  clear hxl
  go_enter Try.func122, Try.ntmps122
  go_wp2_with (go_at_call 180; refine (rowsValid_any hx HL.out (h1.toExt (by refine x'z ?_; repeat (with_reducible (first | exact x'a _ _ | exact x'b _ | exact x'c (by assumption) | refine x'd ?_ (by assumption) | refine x'e ?_ _ | refine x'f ?_ _ | refine x'g ?_ | refine x'h ?_ ?_ _ | refine x'i ?_ _ | refine x'j ?_ | refine x'k ?_ _ | refine x'l ?_ _ _ | refine x'm ?_ | assumption | (refine x'n ?_; omega) | omega))))).mono ?_; rintro e w1 ⟨rfl, hx1⟩)
  go_ret
  exact ⟨rfl, (by refine x'z ?_; repeat (with_reducible (first | exact x'a _ _ | exact x'b _ | exact x'c (by assumption) | refine x'd ?_ (by assumption) | refine x'e ?_ _ | refine x'f ?_ _ | refine x'g ?_ | refine x'h ?_ ?_ _ | refine x'i ?_ _ | refine x'j ?_ | refine x'k ?_ _ | refine x'l ?_ _ _ | refine x'm ?_ | assumption | (refine x'n ?_; omega) | omega)))⟩
theorem IsValidRelation_any {A : Option Addr} {c : Nat} {d : Rd} {w : World} (hb : BRel d) (h : vRel w [.int .i64 d.1, .slice A d.2.length c] d) :
    Calls Try.prog 122 #[.agg #[.int .i64 d.1, .slice A d.2.length c]] w fun e w' => e = .returned (.bool (rowsB d.1 d.2)) ∧ ∃ y, w' = ext w y := by
  exact IsValidRelation_w (Nat.le_trans hb.2.1 (by omega)) hb.2.big (vII_get (vRel_get h).2).2
end Go.Proofs.Ytfigcfajkilhiaa

/- Rows in ascending order, each once: what a sort comes to, and what a merge does. No program in it. -/
namespace Go.Proofs.Ytfigcfajkilhiaa
open Go.RowKit

theorem getDl {α : Type} (l : List α) (d : α) {i : Nat} (h : i < l.length) : l.getD i d = l[i] := by rw [List.getD_eq_getElem?_getD, List.getElem?_eq_getElem h]; rfl
theorem cmpI_neg (a b : Int) : cmpI a b = - cmpI b a := by unfold cmpI; split <;> split <;> (try split) <;> omega
theorem cmpL_neg : ∀ (xs ys : List Int), cmpL xs ys = - cmpL ys xs
  | [], [] => by simp [cmpL]
  | [], _ :: _ => by simp [cmpL]
  | _ :: _, [] => by simp [cmpL]
  | x :: xs, y :: ys => by
    rw [cmpL, cmpL]
    by_cases h : x = y
    · subst h; rw [if_pos rfl, if_pos rfl]; exact cmpL_neg xs ys
    · rw [if_neg h, if_neg (fun e => h e.symm)]; exact cmpI_neg x y
theorem cmpL_trans : ∀ {xs ys zs : List Int}, cmpL xs ys < 0 → cmpL ys zs < 0 → cmpL xs zs < 0
  | [], [], _, h, _ => by simp [cmpL] at h
  | _ :: _, [], _, h, _ => by simp [cmpL] at h
  | _, _ :: _, [], _, h => by simp [cmpL] at h
  | [], _ :: _, _ :: _, _, _ => by simp [cmpL]
  | x :: xs, y :: ys, z :: zs, h, k => by
    rw [cmpL] at h k ⊢
    by_cases e : x = y
    · subst e
      rw [if_pos rfl] at h
      by_cases e2 : x = z
      · subst e2; rw [if_pos rfl] at k ⊢; exact cmpL_trans h k
      · rw [if_neg e2] at k ⊢; exact k
    · rw [if_neg e] at h
      by_cases e2 : y = z
      · subst e2; rw [if_neg e]; exact h
      · rw [if_neg e2] at k
        unfold cmpI at h k
        by_cases e3 : x = z
        · subst e3
          exfalso
          split at h <;> (try split at h) <;> split at k <;> (try split at k) <;> omega
        · rw [if_neg e3]; unfold cmpI
          split at h <;> (try split at h) <;> split at k <;> (try split at k) <;> (try omega)
theorem cmpL_self (x : List Int) : cmpL x x = 0 := cmpL_zero.2 rfl
theorem cmpL_pos {x y : List Int} (h : 0 < cmpL x y) : cmpL y x < 0 := by rw [cmpL_neg]; omega

def AscR (l : List (List Int)) : Prop := l.Pairwise fun x y => cmpL x y < 0
theorem ascR_nil : AscR [] := List.Pairwise.nil
theorem ascR_ext : ∀ {a b : List (List Int)}, AscR a → AscR b → (∀ x, x ∈ a ↔ x ∈ b) → a = b
  | [], [], _, _, _ => rfl
  | [], y :: b, _, _, h => absurd ((h y).2 (by simp)) (by simp)
  | x :: a, [], _, _, h => absurd ((h x).1 (by simp)) (by simp)
  | x :: a, y :: b, ha, hb, h => by
    unfold AscR at ha hb
    rw [List.pairwise_cons] at ha hb
    have e : x = y := by
      rcases List.mem_cons.1 ((h x).1 (by simp)) with e | e
      · exact e
      · rcases List.mem_cons.1 ((h y).2 (by simp)) with k | k
        · exact k.symm
        · have h1 := hb.1 x e
          have h2 := ha.1 y k
          rw [cmpL_neg] at h1
          omega
    subst e
    rw [ascR_ext ha.2 hb.2 fun z => ?_]
    constructor
    · intro hz
      rcases List.mem_cons.1 ((h z).1 (by simp [hz])) with k | k
      · subst k; have := ha.1 z hz; rw [cmpL_self] at this; omega
      · exact k
    · intro hz
      rcases List.mem_cons.1 ((h z).2 (by simp [hz])) with k | k
      · subst k; have := hb.1 z hz; rw [cmpL_self] at this; omega
      · exact k
theorem ascR_nodup {a : List (List Int)} (h : AscR a) : a.Nodup := List.Pairwise.imp (fun {x y} h => by
  rintro rfl
  rw [cmpL_self] at h
  omega) h
theorem ascR_filter {a : List (List Int)} (p : List Int → Bool) (h : AscR a) : AscR (a.filter p) := List.Pairwise.filter p h

def insRow (x : List Int) : List (List Int) → List (List Int)
  | [] => [x]
  | y :: l => if cmpL x y < 0 then x :: y :: l else if cmpL x y = 0 then y :: l else y :: insRow x l
def sortR (l : List (List Int)) : List (List Int) := l.foldr insRow []
theorem mem_insRow {x z : List Int} : ∀ {l : List (List Int)}, z ∈ insRow x l ↔ z = x ∨ z ∈ l
  | [] => by simp [insRow]
  | y :: l => by
    rw [insRow]
    split
    · simp
    · split
      · rename_i h
        rw [cmpL_zero] at h
        subst h
        simp
      · rw [List.mem_cons, mem_insRow, List.mem_cons]
        constructor
        · rintro (h | h | h)
          · exact .inr (.inl h)
          · exact .inl h
          · exact .inr (.inr h)
        · rintro (h | h | h)
          · exact .inr (.inl h)
          · exact .inl h
          · exact .inr (.inr h)
theorem asc_insRow {x : List Int} : ∀ {l : List (List Int)}, AscR l → AscR (insRow x l)
  | [], _ => by simp [insRow, AscR]
  | y :: l, h => by
    unfold AscR at h
    rw [List.pairwise_cons] at h
    rw [insRow]
    split
    · rename_i h1
      refine List.pairwise_cons.2 ⟨fun z hz => ?_, List.pairwise_cons.2 h⟩
      rcases List.mem_cons.1 hz with e | e
      · subst e; exact h1
      · exact cmpL_trans h1 (h.1 z e)
    · rename_i h1
      split
      · exact List.pairwise_cons.2 h
      · rename_i h2
        refine List.pairwise_cons.2 ⟨fun z hz => ?_, asc_insRow h.2⟩
        rcases mem_insRow.1 hz with e | e
        · subst e
          rw [cmpL_neg]
          have := cmpL_bd z y
          omega
        · exact h.1 z e
theorem mem_sortR {z : List Int} : ∀ {l : List (List Int)}, z ∈ sortR l ↔ z ∈ l
  | [] => by simp [sortR]
  | y :: l => by
    have := mem_sortR (z := z) (l := l)
    unfold sortR at this ⊢
    rw [List.foldr_cons, mem_insRow, List.mem_cons, this]
theorem asc_sortR : ∀ (l : List (List Int)), AscR (sortR l)
  | [] => ascR_nil
  | y :: l => by
    have := asc_sortR l
    unfold sortR at this ⊢
    rw [List.foldr_cons]
    exact asc_insRow this
theorem sortR_eq {a l : List (List Int)} (h : AscR a) (hm : ∀ x, x ∈ a ↔ x ∈ l) : a = sortR l := ascR_ext h (asc_sortR l) fun x => by rw [hm, mem_sortR]
theorem sortR_congr {l m : List (List Int)} (h : ∀ x, x ∈ l ↔ x ∈ m) : sortR l = sortR m := sortR_eq (asc_sortR l) fun x => by rw [mem_sortR, h]
theorem sortR_asc {a : List (List Int)} (h : AscR a) : sortR a = a := (sortR_eq h fun _ => Iff.rfl).symm
theorem insRow_length {x : List Int} : ∀ {l : List (List Int)}, (insRow x l).length ≤ l.length + 1
  | [] => by simp [insRow]
  | y :: l => by
    rw [insRow]
    split
    · simp
    · split
      · simp
      · have := insRow_length (x := x) (l := l)
        simp
        omega
theorem sortR_length : ∀ (l : List (List Int)), (sortR l).length ≤ l.length
  | [] => by simp [sortR]
  | y :: l => by
    have := sortR_length l
    unfold sortR at this ⊢
    rw [List.foldr_cons]
    have := insRow_length (x := y) (l := l.foldr insRow [])
    simp
    omega
theorem sortR_small {l : List (List Int)} (h : l.length < 2) : sortR l = l := by
  match l, h with
  | [], _ => rfl
  | [x], _ => rfl

/-- what a merge has done so far: 'out' is done, 'a' and 'b' are left -/
structure MI (rows out a b : List (List Int)) : Prop where
  o : AscR out
  sa : AscR a
  sb : AscR b
  la : ∀ x ∈ out, ∀ y ∈ a, cmpL x y ≤ 0
  lb : ∀ x ∈ out, ∀ y ∈ b, cmpL x y ≤ 0
  m : ∀ x, x ∈ rows ↔ x ∈ out ∨ x ∈ a ∨ x ∈ b
/-- as MI, and no row left is done -/
structure MS (rows out a b : List (List Int)) : Prop where
  o : AscR out
  sa : AscR a
  sb : AscR b
  la : ∀ x ∈ out, ∀ y ∈ a, cmpL x y < 0
  lb : ∀ x ∈ out, ∀ y ∈ b, cmpL x y < 0
  m : ∀ x, x ∈ rows ↔ x ∈ out ∨ x ∈ a ∨ x ∈ b
theorem MI.start {rows a b : List (List Int)} (ha : a = sortR (rows.take (rows.length / 2))) (hb : b = sortR (rows.drop (rows.length / 2))) : MI rows [] a b :=
  ⟨ascR_nil, ha ▸ asc_sortR _, hb ▸ asc_sortR _, by simp, by simp, fun x => by
    rw [ha, hb, mem_sortR, mem_sortR, ← List.mem_append.trans Iff.rfl, List.take_append_drop]
    simp⟩
theorem MS.start {rows a b : List (List Int)} (ha : a = sortR (rows.take (rows.length / 2))) (hb : b = sortR (rows.drop (rows.length / 2))) : MS rows [] a b :=
  have h := MI.start ha hb
  ⟨h.o, h.sa, h.sb, by simp, by simp, h.m⟩
theorem MI.done {rows out : List (List Int)} (h : MI rows out [] []) : out = sortR rows := sortR_eq h.o fun x => by simpa using (h.m x).symm
theorem MS.done {rows out : List (List Int)} (h : MS rows out [] []) : out = sortR rows := sortR_eq h.o fun x => by simpa using (h.m x).symm
theorem asc_snoc {out : List (List Int)} {x : List Int} (h : AscR out) (hx : ∀ y ∈ out, cmpL y x < 0) : AscR (out ++ [x]) :=
  List.pairwise_append.2 ⟨h, List.pairwise_singleton _ _, fun y hy z hz => by rw [List.mem_singleton.1 hz]; exact hx y hy⟩
theorem AscR.tail {x : List Int} {l : List (List Int)} (h : AscR (x :: l)) : AscR l := (List.pairwise_cons.1 h).2
theorem AscR.head {x : List Int} {l : List (List Int)} (h : AscR (x :: l)) : ∀ y ∈ l, cmpL x y < 0 := (List.pairwise_cons.1 h).1
/-- head of a, put out -/
theorem MS.left {rows out a b : List (List Int)} {x : List Int} (h : MS rows out (x :: a) b) (hb : ∀ y ∈ b, cmpL x y < 0) : MS rows (out ++ [x]) a b where
  o := asc_snoc h.o fun y hy => h.la y hy x (by simp)
  sa := h.sa.tail
  sb := h.sb
  la := fun y hy z hz => by
    rcases List.mem_append.1 hy with k | k
    · exact h.la y k z (by simp [hz])
    · rw [List.mem_singleton.1 k]; exact h.sa.head z hz
  lb := fun y hy z hz => by
    rcases List.mem_append.1 hy with k | k
    · exact h.lb y k z hz
    · rw [List.mem_singleton.1 k]; exact hb z hz
  m := fun z => by rw [h.m]; simp only [List.mem_append, List.mem_cons, List.not_mem_nil, or_false]; grind
theorem MS.right {rows out a b : List (List Int)} {y : List Int} (h : MS rows out a (y :: b)) (ha : ∀ x ∈ a, cmpL y x < 0) : MS rows (out ++ [y]) a b where
  o := asc_snoc h.o fun z hz => h.lb z hz y (by simp)
  sa := h.sa
  sb := h.sb.tail
  la := fun u hu z hz => by
    rcases List.mem_append.1 hu with k | k
    · exact h.la u k z hz
    · rw [List.mem_singleton.1 k]; exact ha z hz
  lb := fun u hu z hz => by
    rcases List.mem_append.1 hu with k | k
    · exact h.lb u k z (by simp [hz])
    · rw [List.mem_singleton.1 k]; exact h.sb.head z hz
  m := fun z => by rw [h.m]; simp only [List.mem_append, List.mem_cons, List.not_mem_nil, or_false]; grind
theorem MS.both {rows out a b : List (List Int)} {x : List Int} (h : MS rows out (x :: a) (x :: b)) : MS rows (out ++ [x]) a b where
  o := asc_snoc h.o fun z hz => h.lb z hz x (by simp)
  sa := h.sa.tail
  sb := h.sb.tail
  la := fun u hu z hz => by
    rcases List.mem_append.1 hu with k | k
    · exact h.la u k z (by simp [hz])
    · rw [List.mem_singleton.1 k]; exact h.sa.head z hz
  lb := fun u hu z hz => by
    rcases List.mem_append.1 hu with k | k
    · exact h.lb u k z (by simp [hz])
    · rw [List.mem_singleton.1 k]; exact h.sb.head z hz
  m := fun z => by rw [h.m]; simp only [List.mem_append, List.mem_cons, List.not_mem_nil, or_false]; grind
theorem lt_tail {x y : List Int} {b : List (List Int)} (hb : AscR (y :: b)) (h : cmpL x y < 0) : ∀ z ∈ y :: b, cmpL x z < 0 := fun z hz => by
  rcases List.mem_cons.1 hz with k | k
  · rw [k]; exact h
  · exact cmpL_trans h (hb.head z k)
theorem le_tail {x y : List Int} {b : List (List Int)} (hb : AscR (y :: b)) (h : cmpL x y ≤ 0) : ∀ z ∈ y :: b, cmpL x z ≤ 0 := fun z hz => by
  rcases Int.lt_or_eq_of_le h with h1 | h1
  · exact Int.le_of_lt (lt_tail hb h1 z hz)
  · obtain rfl := cmpL_zero.1 h1
    rcases List.mem_cons.1 hz with k | k
    · rw [k]; exact h
    · exact Int.le_of_lt (hb.head z k)
theorem cmpL_le_trans {x y z : List Int} (h : cmpL x y ≤ 0) (k : cmpL y z ≤ 0) : cmpL x z ≤ 0 := by
  rcases Int.lt_or_eq_of_le h with h1 | h1
  · rcases Int.lt_or_eq_of_le k with k1 | k1
    · exact Int.le_of_lt (cmpL_trans h1 k1)
    · obtain rfl := cmpL_zero.1 k1; exact h
  · obtain rfl := cmpL_zero.1 h1; exact k
/-- the reference's rounds: the head of a is put out, unless it is done -/
theorem MI.left {rows out a b : List (List Int)} {x : List Int} (h : MI rows out (x :: a) b) (hb : ∀ y ∈ b, cmpL x y ≤ 0) (hl : ∀ z, out.getLast? = some z → cmpL z x ≠ 0) : MI rows (out ++ [x]) a b where
  o := asc_snoc h.o fun y hy => by
    have h1 := h.la y hy x (by simp)
    rcases Int.lt_or_eq_of_le h1 with h2 | h2
    · exact h2
    · exfalso
      obtain rfl := cmpL_zero.1 h2
      obtain ⟨z, hz⟩ : ∃ z, out.getLast? = some z := by
        cases hg : out.getLast? with
        | none => rw [List.getLast?_eq_none_iff] at hg; subst hg; simp at hy
        | some z => exact ⟨z, rfl⟩
      have hzm := List.mem_of_getLast? hz
      have h3 := hl z hz
      have h4 := h.la z hzm y (by simp)
      obtain ⟨ys, e⟩ := List.getLast?_eq_some_iff.1 hz
      subst e
      have ho := h.o
      unfold AscR at ho
      rw [List.pairwise_append] at ho
      rcases List.mem_append.1 hy with k | k
      · have h5 := ho.2.2 y k z (by simp)
        rw [cmpL_neg] at h5
        omega
      · rw [List.mem_singleton.1 k, cmpL_self] at h3
        exact h3 rfl
  sa := h.sa.tail
  sb := h.sb
  la := fun y hy z hz => by
    rcases List.mem_append.1 hy with k | k
    · exact h.la y k z (by simp [hz])
    · rw [List.mem_singleton.1 k]; exact Int.le_of_lt (h.sa.head z hz)
  lb := fun y hy z hz => by
    rcases List.mem_append.1 hy with k | k
    · exact h.lb y k z hz
    · rw [List.mem_singleton.1 k]; exact hb z hz
  m := fun z => by rw [h.m]; simp only [List.mem_append, List.mem_cons, List.not_mem_nil, or_false]; grind
theorem MI.swap {rows out a b : List (List Int)} (h : MI rows out a b) : MI rows out b a := ⟨h.o, h.sb, h.sa, h.lb, h.la, fun x => by rw [h.m]; constructor <;> (intro k; rcases k with k | k | k <;> simp [k])⟩
theorem MI.right {rows out a b : List (List Int)} {x : List Int} (h : MI rows out a (x :: b)) (ha : ∀ y ∈ a, cmpL x y ≤ 0) (hl : ∀ z, out.getLast? = some z → cmpL z x ≠ 0) : MI rows (out ++ [x]) a b := (h.swap.left ha hl).swap
theorem MI.skipL {rows out a b : List (List Int)} {x : List Int} (h : MI rows out (x :: a) b) (hx : x ∈ out) : MI rows out a b :=
  ⟨h.o, h.sa.tail, h.sb, fun y hy z hz => h.la y hy z (by simp [hz]), h.lb, fun z => by
    rw [h.m]; constructor
    · rintro (k | k | k)
      · exact .inl k
      · rcases List.mem_cons.1 k with k | k
        · subst k; exact .inl hx
        · exact .inr (.inl k)
      · exact .inr (.inr k)
    · rintro (k | k | k)
      · exact .inl k
      · exact .inr (.inl (by simp [k]))
      · exact .inr (.inr k)⟩
theorem MI.skipR {rows out a b : List (List Int)} {x : List Int} (h : MI rows out a (x :: b)) (hx : x ∈ out) : MI rows out a b := (h.swap.skipL hx).swap

/-- where a row belongs in ascending rows -/
def ltC (rows : List (List Int)) (row : List Int) : Nat := (rows.filter fun x => decide (cmpL x row < 0)).length
theorem asc_get {rows : List (List Int)} (h : AscR rows) {i j : Nat} (hij : i < j) (hj : j < rows.length) : cmpL rows[i] rows[j] < 0 := List.pairwise_iff_getElem.1 h i j (by omega) hj hij
/-- the end of a search by halves -/
theorem place_mem {rows : List (List Int)} {row : List Int} {k : Nat} (h : AscR rows) (hl : ∀ i (h : i < rows.length), i < k → cmpL rows[i] row < 0) (hr : ∀ i (h : i < rows.length), k ≤ i → ¬ cmpL rows[i] row < 0) :
    (decide (k < rows.length) && decide (cmpL (rows.getD k []) row = 0)) = decide (row ∈ rows) := by
  rw [Bool.eq_iff_iff]
  simp only [Bool.and_eq_true, decide_eq_true_eq]
  constructor
  · rintro ⟨h1, h2⟩
    rw [cmpL_zero] at h2
    rw [← h2, getDl _ _ h1]
    exact List.getElem_mem h1
  · intro hm
    obtain ⟨i, hi, rfl⟩ := List.getElem_of_mem hm
    have hik : ¬ i < k := fun hlt => by have := hl i hi hlt; rw [cmpL_self] at this; omega
    have hki : k ≤ i := by omega
    rcases Nat.lt_or_eq_of_le hki with h1 | h1
    · have := asc_get h h1 hi
      exact absurd this (hr k (by omega) (Nat.le_refl _))
    · subst h1
      exact ⟨hi, by rw [getDl _ _ hi, cmpL_self]⟩

/-- a relation out of rows -/
def rowsIn (a : Int) (rows : List (List Int)) : Bool := rows.all fun r => decide ((r.length : Int) = a) && rowV r
def newR (a : Int) (rows : List (List Int)) : Option Rd := if rowsIn a rows = true ∧ rowsB a (sortR rows) = true then some (a, sortR rows) else none
theorem allN_true {p : Nat → Bool} : ∀ {n k : Nat}, allN p n k = true ↔ ∀ i, k ≤ i → i < k + n → p i = true
  | 0, k => by simp [allN]; intro i h1 h2; omega
  | n + 1, k => by
    rw [allN, Bool.and_eq_true, allN_true]
    constructor
    · rintro ⟨h1, h2⟩ i h3 h4
      rcases Nat.lt_or_eq_of_le h3 with h5 | h5
      · exact h2 i (by omega) (by omega)
      · subst h5; exact h1
    · exact fun h => ⟨h k (Nat.le_refl _) (by omega), fun i h1 h2 => h i (by omega) (by omega)⟩
theorem rowsB_iff {a : Int} {rows : List (List Int)} : rowsB a rows = true ↔ 0 ≤ a ∧ a ≤ 5 ∧ rows.length ≤ 4000 ∧ (∀ r ∈ rows, (r.length : Int) = a ∧ rowV r = true) ∧ AscR rows := by
  unfold rowsB
  rw [Bool.and_eq_true, Bool.and_eq_true, allN_true]
  constructor
  · rintro ⟨⟨h1, h2⟩, h3⟩
    have := inB_t h1
    refine ⟨this.1, this.2, by simpa using h2, fun r hr => ?_, ?_⟩
    · obtain ⟨i, hi, rfl⟩ := List.getElem_of_mem hr
      have := h3 i (by omega) (by omega)
      unfold rowOk at this
      rw [getDl _ _ hi] at this
      simp only [Bool.and_eq_true, decide_eq_true_eq] at this
      exact this.1
    · unfold AscR
      -- neighbours ascend, so all do
      have hn : ∀ i (h : i + 1 < rows.length), cmpL rows[i] rows[i + 1] < 0 := fun i h => by
        have := h3 (i + 1) (by omega) (by omega)
        unfold rowOk at this
        rw [getDl _ _ h, show i + 1 - 1 = i by omega, getDl _ _ (show i < rows.length by omega)] at this
        simp only [Bool.and_eq_true, Bool.or_eq_true, decide_eq_true_eq] at this
        rcases this.2 with k | k
        · omega
        · exact k
      rw [List.pairwise_iff_getElem]
      intro i j hi hj hij
      obtain ⟨d, rfl⟩ : ∃ d, j = i + 1 + d := ⟨j - i - 1, by omega⟩
      induction d with
      | zero => exact hn i hj
      | succ d ih => exact cmpL_trans (ih (by omega) (by omega)) (hn (i + 1 + d) hj)
  · rintro ⟨h1, h2, h3, h4, h5⟩
    refine ⟨⟨by simp [inB, h1, h2], by simpa using h3⟩, fun i _ hi => ?_⟩
    rw [Nat.zero_add] at hi
    unfold rowOk
    rw [getDl _ _ hi]
    have h6 := h4 _ (List.getElem_mem hi)
    simp only [Bool.and_eq_true, decide_eq_true_eq, Bool.or_eq_true]
    refine ⟨⟨h6.1, h6.2⟩, ?_⟩
    rcases Nat.eq_zero_or_pos i with h7 | h7
    · exact .inl h7
    · right
      rw [getDl _ _ (show i - 1 < rows.length by omega)]
      exact asc_get h5 (by omega) hi
theorem rowsIn_iff {a : Int} {rows : List (List Int)} : rowsIn a rows = true ↔ ∀ r ∈ rows, (r.length : Int) = a ∧ rowV r = true := by
  unfold rowsIn
  simp
theorem newR_some {a : Int} {rows : List (List Int)} (h : rowsIn a rows = true) (h1 : 0 ≤ a) (h2 : a ≤ 5) (h3 : (sortR rows).length ≤ 4000) : newR a rows = some (a, sortR rows) := by
  unfold newR
  rw [if_pos ⟨h, rowsB_iff.2 ⟨h1, h2, h3, fun r hr => rowsIn_iff.1 h r (mem_sortR.1 hr), asc_sortR _⟩⟩]
theorem newR_valid {a : Int} {rows : List (List Int)} {d : Rd} (h : newR a rows = some d) : rowsB d.1 d.2 = true ∧ d = (a, sortR rows) := by
  unfold newR at h
  split at h
  · rename_i hh
    injection h with h
    subst h
    exact ⟨hh.2, rfl⟩
  · cases h
theorem newR_none {a : Int} {rows : List (List Int)} : newR a rows = none ↔ ¬ (rowsIn a rows = true ∧ rowsB a (sortR rows) = true) := by
  unfold newR
  split <;> simp_all
end Go.Proofs.Ytfigcfajkilhiaa

/- The type of lists of lists of numbers, as the model holds it. -/
namespace Go.Proofs.Ytfigcfajkilhiaa
theorem tIIr : SlT Try.prog 33 48 1 24 (.slice none 0 0) := ⟨Try.underlying33, by kernel_rfl, rfl, by omega⟩
end Go.Proofs.Ytfigcfajkilhiaa

/- Appending any slice that is only read onto a row that is owned, at a step of a region that draws its order. No program in it. -/
namespace Go.Proofs.Ytfigcfajkilhiaa
open Go.RowKit
section
variable {P : Program} {w : World}
theorem wp_appL {o : Oper} {a : Act} {K : Act → World → Prop} {Q : Exit → Act → World → Prop} (s x : Operand) (t : TypeId)
    (ho : o.op = .call { callee := .builtin .append, args := #[s, x], argTypes := #[t, t] })
    {α : Type} {E : SE α} [SMono E] [SPlain E] {V : VE α} {te size bytes : Nat} {z : Value} (hT : SlT P t te size bytes z) {v : Value} {ds es : List α} {F : List Nat} (hs : a.eval s = v) (hS : SV te size E w v ds F)
    {A : Option Addr} {c m : Nat} (hx : a.eval x = .slice A m c) (hm : m = es.length) (hc : A = none → c = 0) (hV : RV size V w A es) (hVE : ∀ c d, V w c d → E w c d []) (h1 : ∀ c d, V w c d → ∀ u ∈ c, u.oneCell' = true)
    (hlen : ds.length + m ≤ 2000000000) (hby : bytes ≤ 60000)
    (h : ∀ v' w' F', SV te size E w' v' (ds ++ es) F' → Chg F w w' → (∀ b ∈ F', b ∈ F ∨ w.heap.size ≤ b) → K (a.put o.dst v') w') : o.wp P a w K Q := by
  subst hm
  cases A with
  | none =>
    have e0 : es = [] := Classical.byContradiction fun hn => by
      obtain ⟨b, o, h, _⟩ := hV hn
      cases h
    subst e0
    obtain ⟨ht, hi, _, _⟩ := hT
    obtain ⟨i, hi, _, _, _⟩ := info_parts hi
    rw [hc rfl] at hx
    have hS' := hS
    obtain ⟨vs, F2, ho', _, _⟩ := hS'
    have hrun := run_append_owned_none (P := P) (w := w) 0 t o.type te i size ht hi v ds.length vs ho'
    unfold Oper.wp execOp
    simp only [ho, resolve, invoke, builtin, Sem.run_bind, Sem.run_pure, Result.andThen_ok, List.map_toArray, List.map_cons, List.map_nil, hs, hx, List.length_nil, hrun]
    exact h v w F (by simpa using hS) (Chg.refl F w) fun b hb => .inl hb
  | some ad =>
    have hN := hS.nodup
    have key : ∃ cs : List Value, (∀ j u, cs[j]? = some u → w.cell? (ad.add j) = some u) ∧ elems size E w cs es [] ∧ ∀ u ∈ cs, u.oneCell' = true := by
      by_cases hn : es = []
      · subst hn
        exact ⟨[], by simp, ⟨rfl, rfl⟩, by simp⟩
      · obtain ⟨b, o, e, _, h3⟩ := hV hn
        injection e with e
        subst e
        exact RV.cells hVE h1 es o h3
    obtain ⟨cs, k1, k2, k3⟩ := key
    refine wp_appS _ s x t ho hT hs hS hN hx k1 k3 rfl k2 (by simpa using hN) hlen hby ?_
    intro v' w' F' h2 h3 _ h5
    exact h v' w' F' h2 h3 fun b hb => by
      rcases h5 b hb with h | h | h
      · exact .inl h
      · simp at h
      · exact .inr h
theorem step_appL {ops : Array Oper} {o : Oper} {a : Act} {K : Act → World → Prop} {Q : Exit → Act → World → Prop} {X : Prop} (hgd : o.guard = none) (s x : Operand) (t : TypeId)
    (ho : o.op = .call { callee := .builtin .append, args := #[s, x], argTypes := #[t, t] })
    {α : Type} {E : SE α} [SMono E] [SPlain E] {V : VE α} {te size bytes : Nat} {z : Value} (hT : SlT P t te size bytes z) {v : Value} {ds es : List α} {F : List Nat} (hs : a.eval s = v) (hS : SV te size E w v ds F)
    {A : Option Addr} {c m : Nat} (hx : a.eval x = .slice A m c) (hm : m = es.length) (hc : A = none → c = 0) (hV : RV size V w A es) (hVE : ∀ c d, V w c d → E w c d []) (h1 : ∀ c d, V w c d → ∀ u ∈ c, u.oneCell' = true)
    (hlen : ds.length + m ≤ 2000000000) (hby : bytes ≤ 60000)
    (h : ∀ v' w' F', SV te size E w' v' (ds ++ es) F' → Chg F w w' → (∀ b ∈ F', b ∈ F ∨ w.heap.size ≤ b) → K (a.put o.dst v') w') :
    if Region.wanted o (yielded ops a.tmps) = true then Oper.wp P o a w K Q else X := by
  have hwt : Region.wanted o (yielded ops a.tmps) = true := by simp [Region.wanted, hgd]
  rw [if_pos hwt]
  exact wp_appL s x t ho hT hs hS hx hm hc hV hVE h1 hlen hby h
theorem vI_s {w : World} (c : List Value) (d : Int) (h : vI w c d) : sI w c d [] := ⟨h, rfl⟩
theorem vI_1 {w : World} (c : List Value) (d : Int) (h : vI w c d) : ∀ u ∈ c, u.oneCell' = true := by
  simp only [vI] at h
  subst h
  simp [Value.oneCell']
/-- the slice of one number just made reads so -/
theorem RI.one {w : World} {B : Nat} {n : Int} (h : BoxAt w B #[.int .i64 n]) : RI w (some ⟨B, 0, none⟩) [n] := fun _ => ⟨B, 0, rfl, h.1, fun j hj => by
  have : j = 0 := by simpa using hj
  subst this
  refine ⟨[.int .i64 n], rfl, fun i hi => ?_, rfl⟩
  have : i = 0 := by simpa using hi
  subst this
  have := h.2.1 0
  simpa using this⟩
end
end Go.Proofs.Ytfigcfajkilhiaa

/- Appending any slice that is only read, nil or not, whatever its capacity says. No program in it. -/
namespace Go.Proofs.Ytfigcfajkilhiaa
open Go.RowKit
section
variable {P : Program} {w : World}
theorem run_append_none_c (base : Nat) (t ty e : TypeId) (i : TypeInfo) (size c : Nat) (ht : P.underlying t = some (.slice e)) (hi : P.info? e = some i)
    (v : Value) (n : Nat) (xs : List Value) (hown : w.ownsRow base e size v n xs) : (Builtin.append_ #[t, t] ty #[v, .slice none 0 c]).run P w = .ok v w := by
  rcases hown.2 with ⟨rfl, rfl⟩ | ⟨g, cap, cur, rfl, _, _, hnc, _⟩
  · simp [Builtin.append_, run_underlying ht, sizeOf, typeInfo, hi, Builtin.lenOf, Builtin.firstCells]
  · simp [Builtin.append_, run_underlying ht, sizeOf, typeInfo, hi, Builtin.lenOf, Builtin.firstCells, hnc, storeCells]
theorem wp_appV {o : Oper} {a : Act} {K : Act → World → Prop} {Q : Exit → Act → World → Prop} (s x : Operand) (t : TypeId)
    (ho : o.op = .call { callee := .builtin .append, args := #[s, x], argTypes := #[t, t] })
    {α : Type} {E : SE α} [SMono E] [SPlain E] {V : VE α} {te size bytes : Nat} {z : Value} (hT : SlT P t te size bytes z) {v : Value} {ds es : List α} {F : List Nat} (hs : a.eval s = v) (hS : SV te size E w v ds F)
    {A : Option Addr} {c m : Nat} (hx : a.eval x = .slice A m c) (hm : m = es.length) (hV : RV size V w A es) (hVE : ∀ c d, V w c d → E w c d []) (h1 : ∀ c d, V w c d → ∀ u ∈ c, u.oneCell' = true)
    (hlen : ds.length + m ≤ 2000000000) (hby : bytes ≤ 60000)
    (h : ∀ v' w' F', SV te size E w' v' (ds ++ es) F' → Chg F w w' → (∀ b ∈ F', b ∈ F ∨ w.heap.size ≤ b) → K (a.put o.dst v') w') : o.wp P a w K Q := by
  cases A with
  | some ad => exact wp_appL s x t ho hT hs hS hx hm (fun h => by cases h) hV hVE h1 hlen hby h
  | none =>
    have e0 : es = [] := Classical.byContradiction fun hn => by
      obtain ⟨b, o, h, _⟩ := hV hn
      cases h
    subst e0
    subst hm
    obtain ⟨ht, hi, _, _⟩ := hT
    obtain ⟨i, hi, _, _, _⟩ := info_parts hi
    have hS' := hS
    obtain ⟨vs, F2, ho', _, _⟩ := hS'
    have hrun := run_append_none_c (P := P) (w := w) 0 t o.type te i size c ht hi v ds.length vs ho'
    unfold Oper.wp execOp
    simp only [ho, resolve, invoke, builtin, Sem.run_bind, Sem.run_pure, Result.andThen_ok, List.map_toArray, List.map_cons, List.map_nil, hs, hx, List.length_nil, hrun]
    exact h v w F (by simpa using hS) (Chg.refl F w) fun b hb => .inl hb
theorem step_appV {ops : Array Oper} {o : Oper} {a : Act} {K : Act → World → Prop} {Q : Exit → Act → World → Prop} {X : Prop} (hgd : o.guard = none) (s x : Operand) (t : TypeId)
    (ho : o.op = .call { callee := .builtin .append, args := #[s, x], argTypes := #[t, t] })
    {α : Type} {E : SE α} [SMono E] [SPlain E] {V : VE α} {te size bytes : Nat} {z : Value} (hT : SlT P t te size bytes z) {v : Value} {ds es : List α} {F : List Nat} (hs : a.eval s = v) (hS : SV te size E w v ds F)
    {A : Option Addr} {c m : Nat} (hx : a.eval x = .slice A m c) (hm : m = es.length) (hV : RV size V w A es) (hVE : ∀ c d, V w c d → E w c d []) (h1 : ∀ c d, V w c d → ∀ u ∈ c, u.oneCell' = true)
    (hlen : ds.length + m ≤ 2000000000) (hby : bytes ≤ 60000)
    (h : ∀ v' w' F', SV te size E w' v' (ds ++ es) F' → Chg F w w' → (∀ b ∈ F', b ∈ F ∨ w.heap.size ≤ b) → K (a.put o.dst v') w') :
    if Region.wanted o (yielded ops a.tmps) = true then Oper.wp P o a w K Q else X := by
  have hwt : Region.wanted o (yielded ops a.tmps) = true := by simp [Region.wanted, hgd]
  rw [if_pos hwt]
  exact wp_appV s x t ho hT hs hS hx hm hV hVE h1 hlen hby h
theorem wpList_appV {ops : Array Oper} {rest : List Oper} {o : Oper} {a : Act} {Q : Exit → Act → World → Prop} (hgd : o.guard = none) (s x : Operand) (t : TypeId)
    (ho : o.op = .call { callee := .builtin .append, args := #[s, x], argTypes := #[t, t] })
    {α : Type} {E : SE α} [SMono E] [SPlain E] {V : VE α} {te size bytes : Nat} {z : Value} (hT : SlT P t te size bytes z) {v : Value} {ds es : List α} {F : List Nat} (hs : a.eval s = v) (hS : SV te size E w v ds F)
    {A : Option Addr} {c m : Nat} (hx : a.eval x = .slice A m c) (hm : m = es.length) (hV : RV size V w A es) (hVE : ∀ c d, V w c d → E w c d []) (h1 : ∀ c d, V w c d → ∀ u ∈ c, u.oneCell' = true)
    (hlen : ds.length + m ≤ 2000000000) (hby : bytes ≤ 60000)
    (h : ∀ v' w' F', SV te size E w' v' (ds ++ es) F' → Chg F w w' → (∀ b ∈ F', b ∈ F ∨ w.heap.size ≤ b) → wpList P ops Q rest (a.put o.dst v') w') : wpList P ops Q (o :: rest) a w :=
  wpList_plain hgd fun _ hK => wp_appV s x t ho hT hs hS hx hm hV hVE h1 hlen hby fun v' w' F' h2 h3 h5 => hK _ _ (h v' w' F' h2 h3 h5)
end
/-- an element that is only seen in a world of old: it owns nothing -/
def sOld {α : Type} (V : VE α) (W : World) : SE α := fun _ c d F => V W c d ∧ F = []
instance {α : Type} (V : VE α) (W : World) : SMono (sOld V W) := ⟨fun h b hb => by rw [h.2] at hb; simp at hb, fun h _ => h⟩
instance {α : Type} (V : VE α) (W : World) : SPlain (sOld V W) := ⟨fun h => h.2⟩
theorem sOld_v {α : Type} {V : VE α} [VMono V] {W w : World} (hx : ∃ y, w = ext W y) (c : List Value) (d : α) (F : List Nat) (h : sOld V W w c d F) : V w c d := by
  obtain ⟨y, rfl⟩ := hx
  exact VMono.ext h.1
theorem copyInts_v {A : Option Addr} {c : Nat} {xs : List Int} {w : World} (hx : xs.length ≤ 1000000000) (h1 : RI w A xs) :
    Calls Try.prog 114 #[.slice A xs.length c] w fun e w' => ∃ v F, e = .returned v ∧ (∃ y, w' = ext w y) ∧ SV 3 1 sI w' v xs F ∧ ∀ b ∈ F, w.heap.size ≤ b := by
  have hS0 := SV.empty (α := Int) (te := 3) (size := 1) (E := sI) w
  go_enter Try.func114, Try.ntmps114
  go_wp2_with (at_builtin; refine wpList_appV (E := sI) (V := vI) (es := xs) rfl _ _ _ rfl tI rfl hS0 rfl rfl (h1.toExt (by refine x'z ?_; repeat (with_reducible (first | exact x'a _ _ | exact x'b _ | exact x'c (by assumption) | refine x'd ?_ (by assumption) | refine x'e ?_ _ | refine x'f ?_ _ | refine x'g ?_ | refine x'h ?_ ?_ _ | refine x'i ?_ _ | refine x'j ?_ | refine x'k ?_ _ | refine x'l ?_ _ _ | refine x'm ?_ | assumption | (refine x'n ?_; omega) | omega)))) vI_s vI_1 (by simp; omega) (by omega) ?_; intro v' w' F' hS hC hF)
  go_ret
  exact ⟨_, F', rfl, hC.isExt (by refine x'z ?_; repeat (with_reducible (first | exact x'a _ _ | exact x'b _ | exact x'c (by assumption) | refine x'd ?_ (by assumption) | refine x'e ?_ _ | refine x'f ?_ _ | refine x'g ?_ | refine x'h ?_ ?_ _ | refine x'i ?_ _ | refine x'j ?_ | refine x'k ?_ _ | refine x'l ?_ _ _ | refine x'm ?_ | assumption | (refine x'n ?_; omega) | omega))) (by simp), by simpa using hS, fun b hb => by
    rcases hF b hb with h | h
    · simp at h; omega
    · simp at h; omega⟩
end Go.Proofs.Ytfigcfajkilhiaa

/- Whether a relation is valid, the reference's way; whether a labeled relation is valid, the program's way and the reference's. -/
namespace Go.Proofs.Ytfigcfajkilhiaa
open Go.RowKit

set_option maxRecDepth 100000 in
set_option maxHeartbeats 16000000 in
theorem specIsValidRelation_w {a : Int} {A : Option Addr} {c : Nat} {rows : List (List Int)} {w : World} (hx : rows.length ≤ 1000000000) (hxl : ∀ x ∈ rows, x.length ≤ 1000000000) (h1 : RII w A rows) :
    Calls Try.prog 57 #[.agg #[.int .i64 a, .slice A rows.length c]] w fun e w' => e = .returned (.bool (rowsB a rows)) ∧ ∃ y, w' = ext w y := by
  have HL := Lib.hid (rows_lenW hxl)
  clear hxl
  obtain ⟨t1, ht1⟩ : ∃ t, inB a 0 5 = t := ⟨_, rfl⟩
  have N1 := Lib.hid ht1
  have HE := Lib.hid (show rowsB a rows = (t1 && decide (rows.length ≤ 4000) && allN (rowOk a rows) rows.length 0) by unfold rowsB; rw [ht1])
  clear ht1
  go_enter Try.func57, Try.ntmps57
  go_upto_region 1 with fail
  refine wp_name ?_
  intro W hW
  have xW : ∃ y, W = ext w y := by rw [hW.out]; exact (by refine x'z ?_; repeat (with_reducible (first | exact x'a _ _ | exact x'b _ | exact x'c (by assumption) | refine x'd ?_ (by assumption) | refine x'e ?_ _ | refine x'f ?_ _ | refine x'g ?_ | refine x'h ?_ ?_ _ | refine x'i ?_ _ | refine x'j ?_ | refine x'k ?_ _ | refine x'l ?_ _ _ | refine x'm ?_ | assumption | (refine x'n ?_; omega) | omega)))
  have BW0 : BoxAt W (w.heap.size) #[.int .i64 a, .slice A rows.length c] := by rw [hW.out]; refine ⟨?_, fun j => ?_, fun j => ?_⟩ <;> go_simp
  obtain ⟨lW0, bW0, fW0⟩ := BW0
  have cW0_0 : W.cell? ⟨w.heap.size, 0, none⟩ = some (.int .i64 a) := bW0 0
  have cW0_1 : W.cell? ⟨w.heap.size, 1, none⟩ = some (.slice A rows.length c) := bW0 1
  clear hW
  have PW : BoxAt W w.heap.size #[.int .i64 a, .slice A rows.length c] := ⟨lW0, bW0, fW0⟩
  cases t1 with
  | false =>
    go_wp2_with (go_at_call 123; refine (l1In_any _ _ _ _).mono ?_; rintro e w' ⟨rfl, rfl⟩; rw [N1.out])
    go_ret
    exact ⟨by rw [HE.out]; rfl, xW⟩
  | true =>
    by_cases h4 : rows.length ≤ 4000
    · have HE2 := Lib.hid (show rowsB a rows = allN (rowOk a rows) rows.length 0 by rw [HE.out, decide_eq_true h4]; simp)
      go_wp2_with (go_at_call 123; refine (l1In_any _ _ _ _).mono ?_; rintro e w' ⟨rfl, rfl⟩; rw [N1.out])
      clear lW0 bW0 fW0 cW0_0 cW0_1
      go_loopw [3] (fun i wr => ∃ k : Nat, i = .int .i64 k ∧ k ≤ rows.length ∧ (∃ y, wr = ext W y) ∧ Hid (allN (rowOk a rows) (rows.length - k) k = allN (rowOk a rows) rows.length 0)) (fun i _ => rows.length - (intOf i).toNat)
      case atStart => exact ⟨0, rfl, by omega, refl_ext W, Lib.hid rfl⟩
      case round =>
        obtain ⟨k, rfl, hk, hy, Hj⟩ := hrel
        obtain ⟨l1, a1, a1', f1⟩ := bx2 (PW.toExt hy)
        by_cases hlt : k < rows.length
        · obtain ⟨b, o, rfl⟩ := h1.pl (by omega)
          have hyw := trans_ext xW hy
          obtain ⟨hb, A1, c1, hc, hv⟩ := (h1.toExt hyw).atV' hlt
          have e := Hj.out
          rw [allN_step hlt] at e
          obtain ⟨r, hr⟩ : ∃ r, rows.getD k [] = r := ⟨_, rfl⟩
          have lr := HL.out k
          rw [hr] at hc hv lr
          obtain ⟨t3, ht3⟩ : ∃ t, decide ((r.length : Int) = a) = t := ⟨_, rfl⟩
          obtain ⟨t4, ht4⟩ : ∃ t, rowV r = t := ⟨_, rfl⟩
          have q3 : ((r.length : Int) != a) = !t3 := by rw [← ht3]; by_cases q : (r.length : Int) = a <;> simp [q]
          have eR : rowOk a rows k = (t3 && t4 && (decide (k = 0) || decide (cmpL (rows.getD (k - 1) []) r < 0))) := by unfold rowOk; rw [hr, ht3, ht4]
          rw [eR] at e
          have N4 := Lib.hid ht4
          clear hr ht3 ht4 eR Hj
          have i0 : (0 : Int) ≤ (k : Int) := by omega
          have i1 : (k : Int) < (rows.length : Int) := by omega
          cases t3 with
          | false =>
            have HF := Lib.hid (rows_f (a := a) (rows := rows) (by rw [← e]; rfl))
            clear e
            go_wp2
            refine wp_region_ext (by kernel_rfl) (by kernel_rfl) ?_
            repeat (go_big_quiet_step ((go_at_call 140; exact quietSb (specAreValidValues_any lr hv.ext) N4.out)))
            refine wpQuiet_nil ?_
            rintro _ ⟨zz, rfl⟩
            go_wp2
            go_ret
            exact ⟨by rw [HF.out]; rfl, trans_ext hyw ⟨_, rfl⟩⟩
          | true =>
            cases t4 with
            | false =>
              have HF := Lib.hid (rows_f (a := a) (rows := rows) (by rw [← e]; rfl))
              clear e
              go_wp2
              refine wp_region_ext (by kernel_rfl) (by kernel_rfl) ?_
              repeat (go_big_quiet_step ((go_at_call 140; exact quietSb (specAreValidValues_any lr hv.ext) N4.out)))
              refine wpQuiet_nil ?_
              rintro _ ⟨zz, rfl⟩
              go_wp2
              go_ret
              exact ⟨by rw [HF.out]; rfl, trans_ext hyw ⟨_, rfl⟩⟩
            | true =>
              by_cases hk0 : 0 < k
              · obtain ⟨_, A2, c2, hc2, hv2⟩ := (h1.toExt hyw).atV' (k := k - 1) (by omega)
                have lr2 := HL.out (k - 1)
                obtain ⟨r2, hr2⟩ : ∃ r, rows.getD (k - 1) [] = r := ⟨_, rfl⟩
                rw [hr2] at hc2 hv2 lr2 e
                obtain ⟨C, hC⟩ : ∃ C, cmpL r2 r = C := ⟨_, rfl⟩
                rw [hC, decide_eq_false (show ¬ k = 0 by omega)] at e
                have HC := Lib.hid hC
                have k1 : (0 : Int) < (k : Int) := by omega
                have s0 : (0 : Int) ≤ (k : Int) - 1 := by omega
                have s1 : IntKind.i64.wrap ((k : Int) - 1) = (k : Int) - 1 := IntWalk.i64_in _ (by omega)
                have s2 : ((k : Int) - 1).toNat = k - 1 := by omega
                have s3 : (k : Int) - 1 < (rows.length : Int) := by omega
                clear hr2 hC
                by_cases hC0 : C < 0
                · have HK := Lib.hid (show allN (rowOk a rows) (rows.length - (k + 1)) (k + 1) = allN (rowOk a rows) rows.length 0 by rw [decide_eq_true hC0] at e; simpa using e)
                  have hC1 : (0 ≤ C) = False := by simp; omega
                  clear e
                  go_wp2
                  refine wp_region_ext (by kernel_rfl) (by kernel_rfl) ?_
                  repeat (go_big_quiet_step (first | (go_at_call 140; exact quietSb (specAreValidValues_any lr hv.ext) N4.out) | (go_at_call 120; exact quietEj (specCompareRows_any lr2 hv2.ext lr hv.ext) HC.out)))
                  refine wpQuiet_nil ?_
                  rintro _ ⟨zz, rfl⟩
                  clear s1
                  go_wp2
                  exact ⟨⟨k + 1, by go_num, by omega, trans_ext hy ⟨_, rfl⟩, HK⟩, by simp [intOf]; omega⟩
                · have HF := Lib.hid (rows_f (a := a) (rows := rows) (by rw [decide_eq_false hC0] at e; rw [← e]; rfl))
                  have hC1 : 0 ≤ C := by omega
                  clear e
                  go_wp2
                  refine wp_region_ext (by kernel_rfl) (by kernel_rfl) ?_
                  repeat (go_big_quiet_step (first | (go_at_call 140; exact quietSb (specAreValidValues_any lr hv.ext) N4.out) | (go_at_call 120; exact quietEj (specCompareRows_any lr2 hv2.ext lr hv.ext) HC.out)))
                  refine wpQuiet_nil ?_
                  rintro _ ⟨zz, rfl⟩
                  clear s1
                  go_wp2
                  go_ret
                  exact ⟨by rw [HF.out]; rfl, trans_ext hyw ⟨_, rfl⟩⟩
              · have HK := Lib.hid (show allN (rowOk a rows) (rows.length - (k + 1)) (k + 1) = allN (rowOk a rows) rows.length 0 by rw [decide_eq_true (show k = 0 by omega)] at e; simpa using e)
                have k1 : decide ((0 : Int) < (k : Int)) = false := decide_eq_false (by omega)
                clear e
                go_wp2
                refine wp_region_ext (by kernel_rfl) (by kernel_rfl) ?_
                repeat (go_big_quiet_step ((go_at_call 140; exact quietSb (specAreValidValues_any lr hv.ext) N4.out)))
                refine wpQuiet_nil ?_
                rintro _ ⟨zz, rfl⟩
                go_wp2
                exact ⟨⟨k + 1, by go_num, by omega, trans_ext hy ⟨_, rfl⟩, HK⟩, by simp [intOf]; omega⟩
        · have e := Hj.out
          rw [allN_end hlt] at e
          have HK := Lib.hid (show rowsB a rows = true by rw [HE2.out, ← e])
          clear e Hj
          go_wp2
          go_ret
          exact ⟨by rw [HK.out]; rfl, trans_ext xW hy⟩
    · have HE2 := Lib.hid (show rowsB a rows = false by rw [HE.out, decide_eq_false h4]; rfl)
      have h5 : 4000 < rows.length := by omega
      go_wp2_with (go_at_call 123; refine (l1In_any _ _ _ _).mono ?_; rintro e w' ⟨rfl, rfl⟩; rw [N1.out])
      go_ret
      exact ⟨by rw [HE2.out]; rfl, xW⟩
theorem specIsValidRelation_any {A : Option Addr} {c : Nat} {d : Rd} {w : World} (hb : BRel d) (h : vRel w [.int .i64 d.1, .slice A d.2.length c] d) :
    Calls Try.prog 57 #[.agg #[.int .i64 d.1, .slice A d.2.length c]] w fun e w' => e = .returned (.bool (rowsB d.1 d.2)) ∧ ∃ y, w' = ext w y :=
  specIsValidRelation_w (Nat.le_trans hb.2.1 (by omega)) hb.2.big (vII_get (vRel_get h).2).2
theorem RV.atJ {w : World} {b o : Nat} {d : List Int} (h : RI w (some ⟨b, o, none⟩) d) {k : Nat} (hk : k < d.length) : b < w.heap.size ∧ w.cell? ⟨b, o + k, none⟩ = some (.int .i64 (d.getD k 0)) := by
  obtain ⟨b', o', e, h1, h2⟩ := h.atI hk
  injection e with e
  injection e with e1 e2 _
  subst e1 e2
  exact ⟨h1, by rw [h2, List.getD_eq_getElem?_getD, List.getElem?_eq_getElem hk]; rfl⟩
set_option maxRecDepth 100000 in
set_option maxHeartbeats 8000000 in
theorem IsValidVarRelation_any {A B : Option Addr} {aa bb : Nat} {d : VRd} {w : World} (hb : BVR d) (h : vVR w [.slice A d.1.length aa, .int .i64 d.2.1, .slice B d.2.2.length bb] d) :
    Calls Try.prog 44 #[.agg #[.slice A d.1.length aa, .int .i64 d.2.1, .slice B d.2.2.length bb]] w fun e w' => e = .returned (.bool (vrB d)) ∧ ∃ y, w' = ext w y := by
  obtain ⟨r1, r2, _⟩ := vVR_get h
  obtain ⟨b1, b2⟩ := hb
  obtain ⟨vs, a, rows⟩ := d
  dsimp only at r1 r2 b1 b2 ⊢
  have HB2 := Lib.hid b2
  have HR2 := Lib.hid r2
  have m1 : vs.length ≤ 1000000000 := by omega
  clear h r2 b2
  have HE := Lib.hid (show vrB (vs, a, rows) = (varsB vs && rowsB a rows && decide (a = (vs.length : Int))) from rfl)
  obtain ⟨t8, ht8⟩ : ∃ t, rowsB a rows = t := ⟨_, rfl⟩
  obtain ⟨t9, ht9⟩ : ∃ t, decide (a = (vs.length : Int)) = t := ⟨_, rfl⟩
  have q9 : (a == (vs.length : Int)) = t9 := by rw [← ht9]; rfl
  have N8 := Lib.hid ht8
  have HE : Hid (vrB (vs, a, rows) = (allN (vars1 vs) vs.length 0 && t8 && t9)) := Lib.hid (by rw [HE.out, ht8, ht9]; rfl)
  clear ht8 ht9
  go_enter Try.func44, Try.ntmps44
  go_upto_region 1 with fail
  refine wp_name ?_
  intro W hW
  have xW : ∃ y, W = ext w y := by rw [hW.out]; exact (by refine x'z ?_; repeat (with_reducible (first | exact x'a _ _ | exact x'b _ | exact x'c (by assumption) | refine x'd ?_ (by assumption) | refine x'e ?_ _ | refine x'f ?_ _ | refine x'g ?_ | refine x'h ?_ ?_ _ | refine x'i ?_ _ | refine x'j ?_ | refine x'k ?_ _ | refine x'l ?_ _ _ | refine x'm ?_ | assumption | (refine x'n ?_; omega) | omega)))
  have BW0 : BoxAt W (w.heap.size) #[.slice A vs.length aa, .int .i64 a, .slice B rows.length bb] := by rw [hW.out]; refine ⟨?_, fun j => ?_, fun j => ?_⟩ <;> go_simp
  obtain ⟨lW0, bW0, fW0⟩ := BW0
  have cW0_0 : W.cell? ⟨w.heap.size, 0, none⟩ = some (.slice A vs.length aa) := bW0 0
  have cW0_1 : W.cell? ⟨w.heap.size, 1, none⟩ = some (.int .i64 a) := bW0 1
  have cW0_2 : W.cell? ⟨w.heap.size, 2, none⟩ = some (.slice B rows.length bb) := bW0 2
  clear hW
  go_wp2
  go_loop [8] (fun i => ∃ k : Nat, i = .int .i64 k ∧ k ≤ vs.length ∧ Hid (allN (vars1 vs) (vs.length - k) k = allN (vars1 vs) vs.length 0)) (fun i => vs.length - (intOf i).toNat)
  case atStart => exact ⟨0, rfl, by omega, Lib.hid rfl⟩
  case round =>
    obtain ⟨k, rfl, hk, Hj⟩ := hrel
    by_cases hlt : k < vs.length
    · obtain ⟨b, o, rfl⟩ := r1.pl (by omega)
      obtain ⟨hbb, hc⟩ := (r1.toExt xW).atJ hlt
      have e := Hj.out
      rw [allN_step hlt] at e
      obtain ⟨v, hv⟩ : ∃ v, vs.getD k 0 = v := ⟨_, rfl⟩
      rw [hv] at hc
      obtain ⟨t1, ht1⟩ : ∃ t, inB v 0 4 = t := ⟨_, rfl⟩
      have eV : vars1 vs k = (t1 && (decide (k = 0) || decide (vs.getD (k - 1) 0 < v))) := by unfold vars1; rw [hv, ht1]
      rw [eV] at e
      have N1 := Lib.hid ht1
      clear hv ht1 eV Hj
      have i0 : (0 : Int) ≤ (k : Int) := by omega
      have i1 : (k : Int) < (vs.length : Int) := by omega
      cases t1 with
      | false =>
        have HF := Lib.hid (show vrB (vs, a, rows) = false by rw [HE.out, ← e]; rfl)
        clear e
        go_wp2_with (go_at_call 121; refine (within_any _ _ _ _).mono ?_; rintro e w' ⟨rfl, rfl⟩; rw [N1.out])
        go_ret
        exact ⟨by rw [HF.out]; rfl, xW⟩
      | true =>
        by_cases hk0 : 0 < k
        · obtain ⟨_, hc2⟩ := (r1.toExt xW).atJ (k := k - 1) (by omega)
          obtain ⟨u, hu⟩ : ∃ u, vs.getD (k - 1) 0 = u := ⟨_, rfl⟩
          rw [hu] at hc2 e
          rw [decide_eq_false (show ¬ k = 0 by omega)] at e
          have s2 : ((k : Int) - 1).toNat = k - 1 := by omega
          clear hu
          by_cases huv : u < v
          · have HK := Lib.hid (show allN (vars1 vs) (vs.length - (k + 1)) (k + 1) = allN (vars1 vs) vs.length 0 by rw [decide_eq_true huv] at e; simpa using e)
            clear e
            go_wp2_with (go_at_call 121; refine (within_any _ _ _ _).mono ?_; rintro e w' ⟨rfl, rfl⟩; rw [N1.out])
            exact ⟨⟨k + 1, by go_num, by omega, HK⟩, by simp [intOf]; omega⟩
          · have HF := Lib.hid (show vrB (vs, a, rows) = false by rw [decide_eq_false huv] at e; rw [HE.out, ← e]; rfl)
            have h9 : v ≤ u := by omega
            clear e
            go_wp2_with (go_at_call 121; refine (within_any _ _ _ _).mono ?_; rintro e w' ⟨rfl, rfl⟩; rw [N1.out])
            go_ret
            exact ⟨by rw [HF.out]; rfl, xW⟩
        · have HK := Lib.hid (show allN (vars1 vs) (vs.length - (k + 1)) (k + 1) = allN (vars1 vs) vs.length 0 by rw [decide_eq_true (show k = 0 by omega)] at e; simpa using e)
          clear e
          go_wp2_with (go_at_call 121; refine (within_any _ _ _ _).mono ?_; rintro e w' ⟨rfl, rfl⟩; rw [N1.out])
          exact ⟨⟨k + 1, by go_num, by omega, HK⟩, by simp [intOf]; omega⟩
    · have e := Hj.out
      rw [allN_end hlt] at e
      have HK := Lib.hid (show vrB (vs, a, rows) = (t8 && t9) by rw [HE.out, ← e]; simp)
      clear e Hj
      cases t8 <;> (
        go_wp2_with (go_at_call 122; refine (IsValidRelation_any HB2.out (VD.toExt HR2.out (by refine x'z ?_; repeat (with_reducible (first | exact x'a _ _ | exact x'b _ | exact x'c (by assumption) | refine x'd ?_ (by assumption) | refine x'e ?_ _ | refine x'f ?_ _ | refine x'g ?_ | refine x'h ?_ ?_ _ | refine x'i ?_ _ | refine x'j ?_ | refine x'k ?_ _ | refine x'l ?_ _ _ | refine x'm ?_ | assumption | (refine x'n ?_; omega) | omega))))).mono ?_; rintro e w1 ⟨rfl, y1, rfl⟩; rw [N8.out])
        go_ret
        exact ⟨by rw [HK.out]; rfl, (by refine x'z ?_; repeat (with_reducible (first | exact x'a _ _ | exact x'b _ | exact x'c (by assumption) | refine x'd ?_ (by assumption) | refine x'e ?_ _ | refine x'f ?_ _ | refine x'g ?_ | refine x'h ?_ ?_ _ | refine x'i ?_ _ | refine x'j ?_ | refine x'k ?_ _ | refine x'l ?_ _ _ | refine x'm ?_ | assumption | (refine x'n ?_; omega) | omega)))⟩)
set_option maxRecDepth 100000 in
set_option maxHeartbeats 16000000 in
theorem specIsValidVarRelation_any {A B : Option Addr} {aa bb : Nat} {d : VRd} {w : World} (hb : BVR d) (h : vVR w [.slice A d.1.length aa, .int .i64 d.2.1, .slice B d.2.2.length bb] d) :
    Calls Try.prog 45 #[.agg #[.slice A d.1.length aa, .int .i64 d.2.1, .slice B d.2.2.length bb]] w fun e w' => e = .returned (.bool (vrB d)) ∧ ∃ y, w' = ext w y := by
  obtain ⟨r1, r2, _⟩ := vVR_get h
  obtain ⟨b1, b2⟩ := hb
  obtain ⟨vs, a, rows⟩ := d
  dsimp only at r1 r2 b1 b2 ⊢
  have HB2 := Lib.hid b2
  have HR2 := Lib.hid r2
  have m1 : vs.length ≤ 1000000000 := by omega
  clear h r2 b2
  have HE := Lib.hid (show vrB (vs, a, rows) = (varsB vs && rowsB a rows && decide (a = (vs.length : Int))) from rfl)
  obtain ⟨t8, ht8⟩ : ∃ t, rowsB a rows = t := ⟨_, rfl⟩
  obtain ⟨t9, ht9⟩ : ∃ t, decide (a = (vs.length : Int)) = t := ⟨_, rfl⟩
  have q9 : (a == (vs.length : Int)) = t9 := by rw [← ht9]; rfl
  have N8 := Lib.hid ht8
  have HE : Hid (vrB (vs, a, rows) = (allN (vars1 vs) vs.length 0 && t8 && t9)) := Lib.hid (by rw [HE.out, ht8, ht9]; rfl)
  clear ht8 ht9
  go_enter Try.func45, Try.ntmps45
  go_upto_region 1 with fail
  refine wp_name ?_
  intro W hW
  have xW : ∃ y, W = ext w y := by rw [hW.out]; exact (by refine x'z ?_; repeat (with_reducible (first | exact x'a _ _ | exact x'b _ | exact x'c (by assumption) | refine x'd ?_ (by assumption) | refine x'e ?_ _ | refine x'f ?_ _ | refine x'g ?_ | refine x'h ?_ ?_ _ | refine x'i ?_ _ | refine x'j ?_ | refine x'k ?_ _ | refine x'l ?_ _ _ | refine x'm ?_ | assumption | (refine x'n ?_; omega) | omega)))
  have BW0 : BoxAt W (w.heap.size) #[.slice A vs.length aa, .int .i64 a, .slice B rows.length bb] := by rw [hW.out]; refine ⟨?_, fun j => ?_, fun j => ?_⟩ <;> go_simp
  obtain ⟨lW0, bW0, fW0⟩ := BW0
  have cW0_0 : W.cell? ⟨w.heap.size, 0, none⟩ = some (.slice A vs.length aa) := bW0 0
  have cW0_1 : W.cell? ⟨w.heap.size, 1, none⟩ = some (.int .i64 a) := bW0 1
  have cW0_2 : W.cell? ⟨w.heap.size, 2, none⟩ = some (.slice B rows.length bb) := bW0 2
  clear hW
  have PW : BoxAt W w.heap.size #[.slice A vs.length aa, .int .i64 a, .slice B rows.length bb] := ⟨lW0, bW0, fW0⟩
  go_wp2
  clear lW0 bW0 fW0 cW0_0 cW0_1 cW0_2
  go_loopw [3] (fun i wr => ∃ k : Nat, i = .int .i64 k ∧ k ≤ vs.length ∧ (∃ y, wr = ext W y) ∧ Hid (allN (vars1 vs) (vs.length - k) k = allN (vars1 vs) vs.length 0)) (fun i _ => vs.length - (intOf i).toNat)
  case atStart => exact ⟨0, rfl, by omega, refl_ext W, Lib.hid rfl⟩
  case round =>
    obtain ⟨k, rfl, hk, hy, Hj⟩ := hrel
    obtain ⟨l1, a1, a1', a1'', f1⟩ := box3 (PW.toExt hy)
    have hyw := trans_ext xW hy
    by_cases hlt : k < vs.length
    · obtain ⟨b, o, rfl⟩ := r1.pl (by omega)
      obtain ⟨hbb, hc⟩ := (r1.toExt hyw).atJ hlt
      have e := Hj.out
      rw [allN_step hlt] at e
      obtain ⟨v, hv⟩ : ∃ v, vs.getD k 0 = v := ⟨_, rfl⟩
      rw [hv] at hc
      obtain ⟨t1, ht1⟩ : ∃ t, inB v 0 4 = t := ⟨_, rfl⟩
      have eV : vars1 vs k = (t1 && (decide (k = 0) || decide (vs.getD (k - 1) 0 < v))) := by unfold vars1; rw [hv, ht1]
      rw [eV] at e
      have N1 := Lib.hid ht1
      clear hv ht1 eV Hj
      have i0 : (0 : Int) ≤ (k : Int) := by omega
      have i1 : (k : Int) < (vs.length : Int) := by omega
      cases t1 with
      | false =>
        have HF := Lib.hid (show vrB (vs, a, rows) = false by rw [HE.out, ← e]; rfl)
        clear e
        go_wp2
        refine wp_region_ext (by kernel_rfl) (by kernel_rfl) ?_
        repeat (go_big_quiet_step ((go_at_call 123; exact quietSb (l1In_any _ _ _ _) N1.out)))
        refine wpQuiet_nil ?_
        rintro _ ⟨zz, rfl⟩
        go_wp2
        go_ret
        exact ⟨by rw [HF.out]; rfl, trans_ext hyw ⟨_, rfl⟩⟩
      | true =>
        by_cases hk0 : 0 < k
        · obtain ⟨_, hc2⟩ := (r1.toExt hyw).atJ (k := k - 1) (by omega)
          obtain ⟨u, hu⟩ : ∃ u, vs.getD (k - 1) 0 = u := ⟨_, rfl⟩
          rw [hu] at hc2 e
          rw [decide_eq_false (show ¬ k = 0 by omega)] at e
          have k1 : (0 : Int) < (k : Int) := by omega
          have s0 : (0 : Int) ≤ (k : Int) - 1 := by omega
          have s1 : IntKind.i64.wrap ((k : Int) - 1) = (k : Int) - 1 := IntWalk.i64_in _ (by omega)
          have s2 : ((k : Int) - 1).toNat = k - 1 := by omega
          have s3 : (k : Int) - 1 < (vs.length : Int) := by omega
          clear hu
          by_cases huv : u < v
          · have HK := Lib.hid (show allN (vars1 vs) (vs.length - (k + 1)) (k + 1) = allN (vars1 vs) vs.length 0 by rw [decide_eq_true huv] at e; simpa using e)
            have h9 : (v ≤ u) = False := by simp; omega
            clear e
            go_wp2
            refine wp_region_ext (by kernel_rfl) (by kernel_rfl) ?_
            repeat (go_big_quiet_step ((go_at_call 123; exact quietSb (l1In_any _ _ _ _) N1.out)))
            refine wpQuiet_nil ?_
            rintro _ ⟨zz, rfl⟩
            clear s1
            go_wp2
            exact ⟨⟨k + 1, by go_num, by omega, trans_ext hy ⟨_, rfl⟩, HK⟩, by simp [intOf]; omega⟩
          · have HF := Lib.hid (show vrB (vs, a, rows) = false by rw [decide_eq_false huv] at e; rw [HE.out, ← e]; rfl)
            have h9 : v ≤ u := by omega
            clear e
            go_wp2
            refine wp_region_ext (by kernel_rfl) (by kernel_rfl) ?_
            repeat (go_big_quiet_step ((go_at_call 123; exact quietSb (l1In_any _ _ _ _) N1.out)))
            refine wpQuiet_nil ?_
            rintro _ ⟨zz, rfl⟩
            clear s1
            go_wp2
            go_ret
            exact ⟨by rw [HF.out]; rfl, trans_ext hyw ⟨_, rfl⟩⟩
        · have HK := Lib.hid (show allN (vars1 vs) (vs.length - (k + 1)) (k + 1) = allN (vars1 vs) vs.length 0 by rw [decide_eq_true (show k = 0 by omega)] at e; simpa using e)
          have k1 : decide ((0 : Int) < (k : Int)) = false := decide_eq_false (by omega)
          clear e
          go_wp2
          refine wp_region_ext (by kernel_rfl) (by kernel_rfl) ?_
          repeat (go_big_quiet_step ((go_at_call 123; exact quietSb (l1In_any _ _ _ _) N1.out)))
          refine wpQuiet_nil ?_
          rintro _ ⟨zz, rfl⟩
          go_wp2
          exact ⟨⟨k + 1, by go_num, by omega, trans_ext hy ⟨_, rfl⟩, HK⟩, by simp [intOf]; omega⟩
    · have e := Hj.out
      rw [allN_end hlt] at e
      have HK := Lib.hid (show vrB (vs, a, rows) = (t8 && t9) by rw [HE.out, ← e]; simp)
      clear e Hj
      cases t8 <;> (
        go_wp2_with (go_at_call 57; refine (specIsValidRelation_any HB2.out (VD.toExt HR2.out (by refine x'z ?_; repeat (with_reducible (first | exact x'a _ _ | exact x'b _ | exact x'c (by assumption) | refine x'd ?_ (by assumption) | refine x'e ?_ _ | refine x'f ?_ _ | refine x'g ?_ | refine x'h ?_ ?_ _ | refine x'i ?_ _ | refine x'j ?_ | refine x'k ?_ _ | refine x'l ?_ _ _ | refine x'm ?_ | assumption | (refine x'n ?_; omega) | omega))))).mono ?_; rintro e w1 ⟨rfl, y1, rfl⟩; rw [N8.out])
        go_ret
        exact ⟨by rw [HK.out]; rfl, (by refine x'z ?_; repeat (with_reducible (first | exact x'a _ _ | exact x'b _ | exact x'c (by assumption) | refine x'd ?_ (by assumption) | refine x'e ?_ _ | refine x'f ?_ _ | refine x'g ?_ | refine x'h ?_ ?_ _ | refine x'i ?_ _ | refine x'j ?_ | refine x'k ?_ _ | refine x'l ?_ _ _ | refine x'm ?_ | assumption | (refine x'n ?_; omega) | omega)))⟩)
end Go.Proofs.Ytfigcfajkilhiaa

/- Contracts on atoms: the laws' helpers; membership; the variables of an atom; inclusion. -/
namespace Go.Proofs.Ytfigcfajkilhiaa
open Go.RowKit

def szA (left : Int) (s n : Nat) : Int := if left - s < 0 then -1 else szL (left - s) n
theorem szA_le {left : Int} {s n : Nat} (h : 0 ≤ szA left s n) : szA left s n ≤ left := by
  unfold szA at h ⊢
  split
  · simp_all
  · rename_i h1
    rw [if_neg h1] at h
    have := szL_le h
    omega
theorem szA_small {left : Int} {s n : Nat} (h : 0 ≤ szA left s n) : (s : Int) + n ≤ left := by
  unfold szA at h
  split at h
  · omega
  · have := szL_small h
    omega
theorem szAtom_any {s : ByteArray} {A : Option Addr} {n c : Nat} {left : Int} {w : World} (hs : s.size ≤ 9223372036854775807) (hn : n ≤ 9223372036854775807) (h1 : 0 ≤ left) (h2 : left ≤ 1000000000) :
    Calls Try.prog 175 #[.agg #[.string s, .slice A n c], .int .i64 left] w fun e w' => e = .returned (.int .i64 (szA left s.size n)) ∧ ∃ y, w' = ext w y := by
  unfold szA
  by_cases h : left - s.size < 0
  · rw [if_pos h]
    go_enter Try.func175, Try.ntmps175
    go_wp2_with fail
    go_ret
    exact ⟨rfl, (by refine x'z ?_; repeat (with_reducible (first | exact x'a _ _ | exact x'b _ | exact x'c (by assumption) | refine x'd ?_ (by assumption) | refine x'e ?_ _ | refine x'f ?_ _ | refine x'g ?_ | refine x'h ?_ ?_ _ | refine x'i ?_ _ | refine x'j ?_ | refine x'k ?_ _ | refine x'l ?_ _ _ | refine x'm ?_ | assumption | (refine x'n ?_; omega) | omega)))⟩
  · rw [if_neg h]
    by_cases h' : szL (left - s.size) n < 0
    · have e : szL (left - s.size) n = -1 := by unfold szL at h' ⊢; split <;> simp_all
      go_enter Try.func175, Try.ntmps175
      go_wp2_with (go_at_call 101; refine (szIntS_any hn (by omega) (by omega)).mono ?_; rintro e w' ⟨rfl, rfl⟩)
      go_ret
      exact ⟨by rw [e]; rfl, (by refine x'z ?_; repeat (with_reducible (first | exact x'a _ _ | exact x'b _ | exact x'c (by assumption) | refine x'd ?_ (by assumption) | refine x'e ?_ _ | refine x'f ?_ _ | refine x'g ?_ | refine x'h ?_ ?_ _ | refine x'i ?_ _ | refine x'j ?_ | refine x'k ?_ _ | refine x'l ?_ _ _ | refine x'm ?_ | assumption | (refine x'n ?_; omega) | omega)))⟩
    · go_enter Try.func175, Try.ntmps175
      go_wp2_with (go_at_call 101; refine (szIntS_any hn (by omega) (by omega)).mono ?_; rintro e w' ⟨rfl, rfl⟩)
      go_ret
      exact ⟨rfl, (by refine x'z ?_; repeat (with_reducible (first | exact x'a _ _ | exact x'b _ | exact x'c (by assumption) | refine x'd ?_ (by assumption) | refine x'e ?_ _ | refine x'f ?_ _ | refine x'g ?_ | refine x'h ?_ ?_ _ | refine x'i ?_ _ | refine x'j ?_ | refine x'k ?_ _ | refine x'l ?_ _ _ | refine x'm ?_ | assumption | (refine x'n ?_; omega) | omega)))⟩

theorem toAtom_any {s : ByteArray} {A : Option Addr} {c : Nat} {xs : List Int} {w : World} (hx : xs.length ≤ 1048576) (h1 : RI w A xs) :
    Calls Try.prog 177 #[.agg #[.string s, .slice A xs.length c]] w fun e w' => ∃ v F, e = .returned (.agg #[.string s, v]) ∧ (∃ y, w' = ext w y) ∧ SV 3 1 sI w' v xs F ∧ ∀ b ∈ F, w.heap.size ≤ b := by
  go_enter Try.func177, Try.ntmps177
  go_wp2_with (go_at_call 105; refine (toIntS_any hx ?_).mono ?_)
  · exact h1.toExt (by refine x'z ?_; repeat (with_reducible (first | exact x'a _ _ | exact x'b _ | exact x'c (by assumption) | refine x'd ?_ (by assumption) | refine x'e ?_ _ | refine x'f ?_ _ | refine x'g ?_ | refine x'h ?_ ?_ _ | refine x'i ?_ _ | refine x'j ?_ | refine x'k ?_ _ | refine x'l ?_ _ _ | refine x'm ?_ | assumption | (refine x'n ?_; omega) | omega)))
  · rintro e w1 ⟨v, F, rfl, ⟨y, rfl⟩, hS, hF⟩
    obtain ⟨A', cap, rfl, hcap, _⟩ := hS.form
    go_wp2
    have hF' : ∀ b ∈ F, w.heap.size + 3 ≤ b := by simpa using hF
    exact bodyPost_ret (v := .agg #[.string s, .slice A' xs.length cap]) (by simp [results, Try.results177, go_sem]) rfl ⟨_, F, rfl, (by refine x'z ?_; repeat (with_reducible (first | exact x'a _ _ | exact x'b _ | exact x'c (by assumption) | refine x'd ?_ (by assumption) | refine x'e ?_ _ | refine x'f ?_ _ | refine x'g ?_ | refine x'h ?_ ?_ _ | refine x'i ?_ _ | refine x'j ?_ | refine x'k ?_ _ | refine x'l ?_ _ _ | refine x'm ?_ | assumption | (refine x'n ?_; omega) | omega))), ((hS.setC hF' (by omega) _).setC hF' (by omega) _).setC hF' (by omega) _, fun b hb => by have := hF' b hb; omega⟩

theorem eqAtom_any {s s' : ByteArray} {A A' : Option Addr} {c c' : Nat} {xs ys : List Int} {w : World} (hx : xs.length ≤ 1000000000) (h1 : RI w A xs) (hy : ys.length ≤ 1000000000) (h2 : RI w A' ys) :
    Calls Try.prog 178 #[.agg #[.string s, .slice A xs.length c], .agg #[.string s', .slice A' ys.length c']] w fun e w' => e = .returned (.bool (decide ((s, xs) = (s', ys)))) ∧ ∃ y, w' = ext w y := by
  by_cases hs : s = s'
  · subst hs
    by_cases h : decide (xs = ys) = true
    all_goals
      go_enter Try.func178, Try.ntmps178
      go_wp2_with (go_at_call 108; refine (eqIntS_any hx (h1.toExt (by refine x'z ?_; repeat (with_reducible (first | exact x'a _ _ | exact x'b _ | exact x'c (by assumption) | refine x'd ?_ (by assumption) | refine x'e ?_ _ | refine x'f ?_ _ | refine x'g ?_ | refine x'h ?_ ?_ _ | refine x'i ?_ _ | refine x'j ?_ | refine x'k ?_ _ | refine x'l ?_ _ _ | refine x'm ?_ | assumption | (refine x'n ?_; omega) | omega)))) hy (h2.toExt (by refine x'z ?_; repeat (with_reducible (first | exact x'a _ _ | exact x'b _ | exact x'c (by assumption) | refine x'd ?_ (by assumption) | refine x'e ?_ _ | refine x'f ?_ _ | refine x'g ?_ | refine x'h ?_ ?_ _ | refine x'i ?_ _ | refine x'j ?_ | refine x'k ?_ _ | refine x'l ?_ _ _ | refine x'm ?_ | assumption | (refine x'n ?_; omega) | omega))))).mono ?_; rintro e w' ⟨rfl, y, rfl⟩)
      go_ret
      exact ⟨by simp at h; simp [h], (by refine x'z ?_; repeat (with_reducible (first | exact x'a _ _ | exact x'b _ | exact x'c (by assumption) | refine x'd ?_ (by assumption) | refine x'e ?_ _ | refine x'f ?_ _ | refine x'g ?_ | refine x'h ?_ ?_ _ | refine x'i ?_ _ | refine x'j ?_ | refine x'k ?_ _ | refine x'l ?_ _ _ | refine x'm ?_ | assumption | (refine x'n ?_; omega) | omega)))⟩
  · have hb : (s.toList == s'.toList) = false := by rw [str_beq, decide_eq_false hs]
    go_enter Try.func178, Try.ntmps178
    go_wp2_with fail
    go_ret
    exact ⟨by rw [decide_eq_false (by simp [hs])]; rfl, (by refine x'z ?_; repeat (with_reducible (first | exact x'a _ _ | exact x'b _ | exact x'c (by assumption) | refine x'd ?_ (by assumption) | refine x'e ?_ _ | refine x'f ?_ _ | refine x'g ?_ | refine x'h ?_ ?_ _ | refine x'i ?_ _ | refine x'j ?_ | refine x'k ?_ _ | refine x'l ?_ _ _ | refine x'm ?_ | assumption | (refine x'n ?_; omega) | omega)))⟩

/-! membership -/
theorem not_mem_of {xs : List Int} {k : Nat} {n : Int} (hk : ¬ k < xs.length) (h : ∀ j (h : j < xs.length), j < k → xs[j] ≠ n) : n ∉ xs := fun hm => by
  obtain ⟨j, hj, e⟩ := List.getElem_of_mem hm
  exact h j hj (by omega) e
theorem ne_snoc {xs : List Int} {k : Nat} {n : Int} (hk : k < xs.length) (h : ∀ j (h : j < xs.length), j < k → xs[j] ≠ n) (hn : xs[k] ≠ n) : ∀ j (h : j < xs.length), j < k + 1 → xs[j] ≠ n := fun j hj hlt => by
  by_cases e : j = k
  · subst e; exact hn
  · exact h j hj (by omega)

set_option maxHeartbeats 400000 in
theorem specContains_any {s : ByteArray} {A : Option Addr} {c : Nat} {xs : List Int} {n : Int} {w : World} (hx : xs.length ≤ 1000000000) (h1 : RI w A xs) :
    Calls Try.prog 151 #[.agg #[.string s, .slice A xs.length c], .int .i64 n] w fun e w' => e = .returned (.bool (decide (n ∈ xs))) ∧ ∃ y, w' = ext w y := by
  go_enter Try.func151, Try.ntmps151
  go_wp2
  go_loop [5] (fun i => ∃ k : Nat, i = .int .i64 k ∧ k ≤ xs.length ∧ ∀ j (h : j < xs.length), j < k → xs[j] ≠ n) (fun i => xs.length - (intOf i).toNat)
  case atStart => exact ⟨0, rfl, by omega, by simp⟩
  case round =>
    obtain ⟨k, rfl, hk, hj⟩ := hrel
    have Hj := Lib.hid hj
    clear hj
    by_cases hlt : k < xs.length
    · obtain ⟨b, o, rfl, hb, hc⟩ := h1.atI hlt
      go_wp2
      · go_ret
        have e : xs[k] = n := by simpa using ‹(xs[k] == n) = true›
        exact ⟨by rw [decide_eq_true (by rw [← e]; exact List.getElem_mem hlt)]; rfl, (by refine x'z ?_; repeat (with_reducible (first | exact x'a _ _ | exact x'b _ | exact x'c (by assumption) | refine x'd ?_ (by assumption) | refine x'e ?_ _ | refine x'f ?_ _ | refine x'g ?_ | refine x'h ?_ ?_ _ | refine x'i ?_ _ | refine x'j ?_ | refine x'k ?_ _ | refine x'l ?_ _ _ | refine x'm ?_ | assumption | (refine x'n ?_; omega) | omega)))⟩
      · have e : xs[k] ≠ n := by simpa using ‹(xs[k] == n) = false›
        exact ⟨⟨k + 1, by go_num, by omega, ne_snoc hlt Hj.out e⟩, by simp [intOf]; omega⟩
    · go_wp2
      go_ret
      exact ⟨by rw [decide_eq_false (not_mem_of hlt Hj.out)]; rfl, (by refine x'z ?_; repeat (with_reducible (first | exact x'a _ _ | exact x'b _ | exact x'c (by assumption) | refine x'd ?_ (by assumption) | refine x'e ?_ _ | refine x'f ?_ _ | refine x'g ?_ | refine x'h ?_ ?_ _ | refine x'i ?_ _ | refine x'j ?_ | refine x'k ?_ _ | refine x'l ?_ _ _ | refine x'm ?_ | assumption | (refine x'n ?_; omega) | omega)))⟩

/-! the place of a number in a list, -1 where it is not there -/
def iof (k : Nat) (n : Int) : List Int → Int
  | [] => -1
  | x :: xs => if x = n then k else iof (k + 1) n xs
theorem iof_step {k j : Nat} {n : Int} {xs : List Int} (h : j < xs.length) : iof k n (xs.drop j) = if xs[j] = n then (k : Int) else iof (k + 1) n (xs.drop (j + 1)) := by
  rw [List.drop_eq_getElem_cons h]; rfl
theorem iof_nonneg {n : Int} : ∀ (k : Nat) (xs : List Int), 0 ≤ iof k n xs ↔ n ∈ xs
  | _, [] => by simp [iof]
  | k, x :: xs => by
    unfold iof
    split
    · rename_i h; subst h; simp
    · rename_i h
      rw [iof_nonneg (k + 1) xs, List.mem_cons]
      constructor
      · exact .inr
      · rintro (e | e)
        · exact absurd e.symm h
        · exact e

set_option maxHeartbeats 400000 in
theorem indexOf_any {A : Option Addr} {c : Nat} {xs : List Int} {n : Int} {w : World} (hx : xs.length ≤ 1000000000) (h1 : RI w A xs) :
    Calls Try.prog 149 #[.slice A xs.length c, .int .i64 n] w fun e w' => e = .returned (.int .i64 (iof 0 n xs)) ∧ ∃ y, w' = ext w y := by
  go_enter Try.func149, Try.ntmps149
  go_wp2
  go_loop [9] (fun i => ∃ k : Nat, i = .int .i64 k ∧ k ≤ xs.length ∧ iof k n (xs.drop k) = iof 0 n xs) (fun i => xs.length - (intOf i).toNat)
  case atStart => exact ⟨0, rfl, by omega, by simp⟩
  case round =>
    obtain ⟨k, rfl, hk, hj⟩ := hrel
    have Hj := Lib.hid hj
    clear hj
    by_cases hlt : k < xs.length
    · obtain ⟨b, o, rfl, hb, hc⟩ := h1.atI hlt
      go_wp2
      · go_ret
        have e := Hj.out
        rw [iof_step hlt, if_pos (by simpa using ‹(xs[k] == n) = true›)] at e
        exact ⟨by rw [← e]; rfl, refl_ext w⟩
      · have e := Hj.out
        rw [iof_step hlt, if_neg (by simpa using ‹(xs[k] == n) = false›)] at e
        exact ⟨⟨k + 1, by go_num, by omega, e⟩, by simp [intOf]; omega⟩
    · go_wp2
      go_ret
      have e := Hj.out
      rw [List.drop_eq_nil_of_le (by omega)] at e
      exact ⟨by rw [← e]; rfl, refl_ext w⟩

theorem hasInt_any {A : Option Addr} {c : Nat} {xs : List Int} {n : Int} {w : World} (hx : xs.length ≤ 1000000000) (h1 : RI w A xs) :
    Calls Try.prog 153 #[.slice A xs.length c, .int .i64 n] w fun e w' => e = .returned (.bool (decide (n ∈ xs))) ∧ ∃ y, w' = ext w y := by
  go_enter Try.func153, Try.ntmps153
  go_wp2_with (go_at_call 149; refine (indexOf_any hx h1).mono ?_; rintro e w' ⟨rfl, y, rfl⟩)
  go_ret
  exact ⟨by simp only [← iof_nonneg 0 xs]; rfl, y, rfl⟩

theorem Contains_any {s : ByteArray} {A : Option Addr} {c : Nat} {xs : List Int} {n : Int} {w : World} (hx : xs.length ≤ 1000000000) (h1 : RI w A xs) :
    Calls Try.prog 72 #[.agg #[.string s, .slice A xs.length c], .int .i64 n] w fun e w' => e = .returned (.bool (decide (n ∈ xs))) ∧ ∃ y, w' = ext w y := by
  go_enter Try.func72, Try.ntmps72
  go_wp2_with (go_at_call 153; refine (hasInt_any hx (h1.toExt (by refine x'z ?_; repeat (with_reducible (first | exact x'a _ _ | exact x'b _ | exact x'c (by assumption) | refine x'd ?_ (by assumption) | refine x'e ?_ _ | refine x'f ?_ _ | refine x'g ?_ | refine x'h ?_ ?_ _ | refine x'i ?_ _ | refine x'j ?_ | refine x'k ?_ _ | refine x'l ?_ _ _ | refine x'm ?_ | assumption | (refine x'n ?_; omega) | omega))))).mono ?_; rintro e w' ⟨rfl, y, rfl⟩)
  go_ret
  exact ⟨rfl, (by refine x'z ?_; repeat (with_reducible (first | exact x'a _ _ | exact x'b _ | exact x'c (by assumption) | refine x'd ?_ (by assumption) | refine x'e ?_ _ | refine x'f ?_ _ | refine x'g ?_ | refine x'h ?_ ?_ _ | refine x'i ?_ _ | refine x'j ?_ | refine x'k ?_ _ | refine x'l ?_ _ _ | refine x'm ?_ | assumption | (refine x'n ?_; omega) | omega)))⟩

/-! inclusion -/
def subB (xs ys : List Int) : Bool := xs.all fun x => decide (x ∈ ys)
theorem subB_step {xs ys : List Int} {k : Nat} (h : k < xs.length) : subB (xs.drop k) ys = (decide (xs[k] ∈ ys) && subB (xs.drop (k + 1)) ys) := by
  rw [List.drop_eq_getElem_cons h]; rfl

/-! the variables of an atom, in ascending order -/
def avars : Nat → Nat → List Int → List Int
  | 0, _, _ => []
  | f + 1, k, xs => if (k : Int) ∈ xs then (k : Int) :: avars f (k + 1) xs else avars f (k + 1) xs
theorem avars_step {k : Nat} {xs : List Int} (h : k < 5) : avars (5 - k) k xs = if (k : Int) ∈ xs then (k : Int) :: avars (5 - (k + 1)) (k + 1) xs else avars (5 - (k + 1)) (k + 1) xs := by
  rw [show 5 - k = (5 - (k + 1)) + 1 by omega, avars]
theorem avars_length : ∀ (f k : Nat) (xs : List Int), (avars f k xs).length ≤ f
  | 0, _, _ => by simp [avars]
  | f + 1, k, xs => by
    have := avars_length f (k + 1) xs
    unfold avars
    split <;> simp <;> omega

set_option maxHeartbeats 400000 in
theorem AtomVariables_any {s : ByteArray} {A : Option Addr} {c : Nat} {xs : List Int} {w : World} (hx : xs.length ≤ 1000000000) (h1 : RI w A xs) :
    Calls Try.prog 66 #[.agg #[.string s, .slice A xs.length c]] w fun e w' => ∃ v F, e = .returned v ∧ (∃ y, w' = ext w y) ∧ SV 3 1 sI w' v (avars 5 0 xs) F ∧ ∀ b ∈ F, w.heap.size ≤ b := by
  go_enter Try.func66, Try.ntmps66
  go_wp2
  refine wp_name ?_
  intro W hW
  have xW : ∃ y, W = ext w y := by rw [hW.out]; exact (by refine x'z ?_; repeat (with_reducible (first | exact x'a _ _ | exact x'b _ | exact x'c (by assumption) | refine x'd ?_ (by assumption) | refine x'e ?_ _ | refine x'f ?_ _ | refine x'g ?_ | refine x'h ?_ ?_ _ | refine x'i ?_ _ | refine x'j ?_ | refine x'k ?_ _ | refine x'l ?_ _ _ | refine x'm ?_ | assumption | (refine x'n ?_; omega) | omega)))
  have BW0 : BoxAt W (w.heap.size) #[.string s, .slice A xs.length c] := by rw [hW.out]; refine ⟨?_, fun j => ?_, fun j => ?_⟩ <;> go_simp
  obtain ⟨lW0, bW0, fW0⟩ := BW0
  clear hW
  have h1 := h1.toExt xW
  go_loopw [3, 4] (fun v i wr => ∃ (k : Nat) (ds : List Int) (F : List Nat), i = .int .i64 k ∧ k ≤ 5 ∧ SV 3 1 sI wr v ds F ∧ (∀ b ∈ F, W.heap.size ≤ b) ∧ (∃ y, wr = ext W y) ∧ ds.length ≤ k ∧ ds ++ avars (5 - k) k xs = avars 5 0 xs) (fun _ i _ => 5 - (intOf i).toNat)
  case atStart => exact ⟨0, [], [], rfl, by omega, SV.nil, by simp, refl_ext W, by simp, by simp⟩
  case round =>
    obtain ⟨k, ds, F, rfl, hk, hS, hF, ⟨y, rfl⟩, hl, hj⟩ := hrel
    have Hj := Lib.hid hj
    have HF := Lib.hid hF
    clear hj hF
    by_cases hlt : k < 5
    · go_wp2_with (first
        | (go_at_call 72; refine (Contains_any hx h1.ext).mono ?_; rintro e w' ⟨rfl, hx1⟩; obtain ⟨y', e1⟩ := trans_ext ⟨_, rfl⟩ hx1; have hS1 := hS.toExt hx1; subst e1; clear hS hx1)
        | (at_builtin; refine wpList_appI _ rfl _ _ _ rfl tI rfl rfl rfl hS1 (by omega) (by omega) ?_; intro v' w' F' hS2 hC2 hF2))
      · have e := Hj.out
        rw [avars_step hlt, if_pos ‹(k : Int) ∈ xs›] at e
        exact ⟨⟨k + 1, ds ++ [(k : Int)], F', by go_num, by omega, hS2, newer HF.out size_ext hF2, hC2.isExt ⟨_, rfl⟩ HF.out, by simp; omega, by simpa using e⟩, by simp [intOf]; omega⟩
      · have e := Hj.out
        rw [avars_step hlt, if_neg ‹¬ (k : Int) ∈ xs›] at e
        exact ⟨⟨k + 1, ds, F, by go_num, by omega, hS1, HF.out, ⟨_, rfl⟩, by omega, e⟩, by simp [intOf]; omega⟩
    · go_wp2
      go_ret
      have e := Hj.out
      rw [show 5 - k = 0 by omega, avars, List.append_nil] at e
      exact ⟨_, F, rfl, trans_ext xW ⟨_, rfl⟩, by rw [← e]; exact hS, fun b hb => Nat.le_trans (size_of_ext xW) (HF.out b hb)⟩

set_option maxHeartbeats 400000 in
theorem specAtomVariables_any {s : ByteArray} {A : Option Addr} {c : Nat} {xs : List Int} {w : World} (hx : xs.length ≤ 1000000000) (h1 : RI w A xs) :
    Calls Try.prog 69 #[.agg #[.string s, .slice A xs.length c]] w fun e w' => ∃ v F, e = .returned v ∧ (∃ y, w' = ext w y) ∧ SV 3 1 sI w' v (avars 5 0 xs) F ∧ ∀ b ∈ F, w.heap.size ≤ b := by
  go_enter Try.func69, Try.ntmps69
  go_upto_region 1 with fail
  refine wp_name ?_
  intro W hW
  have xW : ∃ y, W = ext w y := by rw [hW.out]; exact (by refine x'z ?_; repeat (with_reducible (first | exact x'a _ _ | exact x'b _ | exact x'c (by assumption) | refine x'd ?_ (by assumption) | refine x'e ?_ _ | refine x'f ?_ _ | refine x'g ?_ | refine x'h ?_ ?_ _ | refine x'i ?_ _ | refine x'j ?_ | refine x'k ?_ _ | refine x'l ?_ _ _ | refine x'm ?_ | assumption | (refine x'n ?_; omega) | omega)))
  have BW0 : BoxAt W (w.heap.size) #[.string s, .slice A xs.length c] := by rw [hW.out]; refine ⟨?_, fun j => ?_, fun j => ?_⟩ <;> go_simp
  obtain ⟨lW0, bW0, fW0⟩ := BW0
  clear hW
  go_wp2
  have h1 := h1.toExt xW
  go_loopw [3, 4] (fun v i wr => ∃ (k : Nat) (ds : List Int) (F : List Nat), i = .int .i64 k ∧ k ≤ 5 ∧ SV 3 1 sI wr v ds F ∧ (∀ b ∈ F, W.heap.size ≤ b) ∧ (∃ y, wr = ext W y) ∧ ds.length ≤ k ∧ ds ++ avars (5 - k) k xs = avars 5 0 xs) (fun _ i _ => 5 - (intOf i).toNat)
  case atStart => exact ⟨0, [], [W.heap.size], rfl, by omega, SV.empty W, by simp, alloc_ext _ _, by simp, by simp⟩
  case round =>
    obtain ⟨k, ds, F, rfl, hk, hS, hF, ⟨y, rfl⟩, hl, hj⟩ := hrel
    have Hj := Lib.hid hj
    have HF := Lib.hid hF
    clear hj hF
    by_cases hlt : k < 5
    · go_wp2_with (first
        | (go_at_call 151; refine (specContains_any hx h1.ext).mono ?_; rintro e w' ⟨rfl, hx1⟩; obtain ⟨y', e1⟩ := trans_ext ⟨_, rfl⟩ hx1; have hS1 := hS.toExt hx1; subst e1; clear hS hx1)
        | (at_builtin; refine wpList_appI _ rfl _ _ _ rfl tI rfl rfl rfl hS1 (by omega) (by omega) ?_; intro v' w' F' hS2 hC2 hF2))
      · have e := Hj.out
        rw [avars_step hlt, if_pos ‹(k : Int) ∈ xs›] at e
        exact ⟨⟨k + 1, ds ++ [(k : Int)], F', by go_num, by omega, hS2, newer HF.out size_ext hF2, hC2.isExt ⟨_, rfl⟩ HF.out, by simp; omega, by simpa using e⟩, by simp [intOf]; omega⟩
      · have e := Hj.out
        rw [avars_step hlt, if_neg ‹¬ (k : Int) ∈ xs›] at e
        exact ⟨⟨k + 1, ds, F, by go_num, by omega, hS1, HF.out, ⟨_, rfl⟩, by omega, e⟩, by simp [intOf]; omega⟩
    · go_wp2
      go_ret
      have e := Hj.out
      rw [show 5 - k = 0 by omega, avars, List.append_nil] at e
      exact ⟨_, F, rfl, trans_ext xW ⟨_, rfl⟩, by rw [← e]; exact hS, fun b hb => Nat.le_trans (size_of_ext xW) (HF.out b hb)⟩
end Go.Proofs.Ytfigcfajkilhiaa

/- The variables of two atoms; the program's way and the reference's. -/
namespace Go.Proofs.Ytfigcfajkilhiaa
open Go.RowKit

def comL (xs ys : List Int) : List Int := xs.filter fun x => decide (x ∈ ys)
theorem comL_take {xs ys : List Int} {k : Nat} (h : k < xs.length) : comL (xs.take (k + 1)) ys = comL (xs.take k) ys ++ (if decide (xs[k] ∈ ys) = true then [xs[k]] else []) := by
  unfold comL
  rw [List.take_succ_eq_append_getElem h, List.filter_append, List.filter_cons, List.filter_nil]
def cvars : Nat → Nat → List Int → List Int → List Int
  | 0, _, _, _ => []
  | f + 1, k, xs, ys => if decide ((k : Int) ∈ xs) = true ∧ decide ((k : Int) ∈ ys) = true then (k : Int) :: cvars f (k + 1) xs ys else cvars f (k + 1) xs ys
theorem mem_avars : ∀ (f k : Nat) (xs : List Int) (n : Int), n ∈ avars f k xs ↔ (k : Int) ≤ n ∧ n < k + f ∧ n ∈ xs
  | 0, k, xs, n => by simp [avars]; omega
  | f + 1, k, xs, n => by
    have ih := mem_avars f (k + 1) xs n
    unfold avars
    split
    · rename_i h
      rw [List.mem_cons, ih]
      constructor
      · rintro (rfl | ⟨h1, h2, h3⟩)
        · exact ⟨by omega, by omega, h⟩
        · exact ⟨by omega, by omega, h3⟩
      · rintro ⟨h1, h2, h3⟩
        by_cases e : n = k
        · exact .inl e
        · exact .inr ⟨by omega, by omega, h3⟩
    · rename_i h
      rw [ih]
      constructor
      · rintro ⟨h1, h2, h3⟩
        exact ⟨by omega, by omega, h3⟩
      · rintro ⟨h1, h2, h3⟩
        refine ⟨?_, by omega, h3⟩
        have : n ≠ k := by rintro rfl; exact h h3
        omega
theorem com_avars : ∀ (f k : Nat) (xs ys zs : List Int), (∀ n : Int, (k : Int) ≤ n → n < k + f → (n ∈ zs ↔ n ∈ ys)) → comL (avars f k xs) zs = cvars f k xs ys
  | 0, _, _, _, _, _ => rfl
  | f + 1, k, xs, ys, zs, h => by
    have ih := com_avars f (k + 1) xs ys zs fun n h1 h2 => h n (by omega) (by omega)
    have hk := h k (by omega) (by omega)
    unfold avars cvars
    by_cases h1 : (k : Int) ∈ xs
    · rw [if_pos h1]
      by_cases h2 : (k : Int) ∈ ys
      · rw [if_pos ⟨by simpa using h1, by simpa using h2⟩, ← ih]
        unfold comL
        rw [List.filter_cons, if_pos (by simpa using hk.2 h2)]
      · rw [if_neg (by simp [h2]), ← ih]
        unfold comL
        rw [List.filter_cons, if_neg (by simpa using fun h => h2 (hk.1 h))]
    · rw [if_neg h1, if_neg (by simp [h1]), ih]
theorem comV_eq (xs ys : List Int) : comL (avars 5 0 xs) (avars 5 0 ys) = cvars 5 0 xs ys := com_avars 5 0 xs ys _ fun n h1 h2 => by
  rw [mem_avars]
  constructor
  · exact fun h => h.2.2
  · exact fun h => ⟨h1, h2, h⟩
theorem cvars_length (xs ys : List Int) : (cvars 5 0 xs ys).length ≤ 5 := by
  rw [← comV_eq]
  exact Nat.le_trans (List.length_filter_le _ _) (avars_length 5 0 xs)
theorem cvars_step {k : Nat} {xs ys : List Int} (h : k < 5) : cvars (5 - k) k xs ys = if decide ((k : Int) ∈ xs) = true ∧ decide ((k : Int) ∈ ys) = true then (k : Int) :: cvars (5 - (k + 1)) (k + 1) xs ys else cvars (5 - (k + 1)) (k + 1) xs ys := by
  rw [show 5 - k = (5 - (k + 1)) + 1 by omega, cvars]
end Go.Proofs.Ytfigcfajkilhiaa

/- Ascending lists: one number put in, two united, numbers struck; the lists are told by their members. No program in it. -/
namespace Go.Proofs.Ytfigcfajkilhiaa
open Go.RowKit

/-- the place of n in an ascending list: the first that is not less -/
def insK (n : Int) : List Int → Nat
  | [] => 0
  | x :: xs => if x < n then insK n xs + 1 else 0
def insS (n : Int) (l : List Int) : List Int := if (l.drop (insK n l)).head? = some n then l else l.take (insK n l) ++ [n] ++ l.drop (insK n l)
def uniL (a b : List Int) : List Int := b.foldl (fun acc n => insS n acc) a
def strike (n : Int) (l : List Int) : List Int := l.filter fun x => decide (x ≠ n)
theorem insK_step {n : Int} {l : List Int} {k : Nat} (h : k < l.length) (hx : l[k] < n) : k + insK n (l.drop k) = k + 1 + insK n (l.drop (k + 1)) := by
  rw [List.drop_eq_getElem_cons h, insK, if_pos hx]
  omega
theorem insK_hit {n : Int} {l : List Int} {k : Nat} (h : k < l.length) (hx : ¬ l[k] < n) : k + insK n (l.drop k) = k := by
  rw [List.drop_eq_getElem_cons h, insK, if_neg hx]
  omega
theorem insK_end {n : Int} {l : List Int} {k : Nat} (h : ¬ k < l.length) : k + insK n (l.drop k) = k := by
  rw [List.drop_eq_nil_of_le (by omega), insK]
  omega
theorem uniL_step {a b : List Int} {k : Nat} (h : k < b.length) : uniL a (b.take (k + 1)) = insS b[k] (uniL a (b.take k)) := by
  unfold uniL
  rw [List.take_succ_eq_append_getElem h, List.foldl_append]
  rfl
def insR (n : Int) : List Int → List Int
  | [] => [n]
  | x :: xs => if x < n then x :: insR n xs else if x = n then x :: xs else n :: x :: xs
theorem insS_eq (n : Int) : ∀ l, insS n l = insR n l
  | [] => rfl
  | x :: xs => by
    have ih := insS_eq n xs
    unfold insS at ih
    unfold insS insK insR
    by_cases h : x < n
    · rw [if_pos h, if_pos h, List.drop_succ_cons, List.take_succ_cons, ← ih]
      split <;> simp
    · rw [if_neg h, if_neg h]
      by_cases h2 : x = n
      · simp [h2]
      · simp [h2]
theorem insS_length (n : Int) (l : List Int) : (insS n l).length ≤ l.length + 1 := by
  unfold insS
  split
  · omega
  · simp only [List.length_append, List.length_take, List.length_drop, List.length_cons, List.length_nil]; omega
theorem uniL_length : ∀ (b a : List Int), (uniL a b).length ≤ a.length + b.length
  | [], a => by simp [uniL]
  | x :: b, a => by
    have h1 := uniL_length b (insS x a)
    have h2 := insS_length x a
    have e : uniL a (x :: b) = uniL (insS x a) b := rfl
    rw [e, List.length_cons]
    omega
def Asc (l : List Int) : Prop := l.Pairwise (· < ·)
theorem mem_insR {n x : Int} : ∀ {l : List Int}, x ∈ insR n l ↔ x = n ∨ x ∈ l
  | [] => by simp [insR]
  | y :: ys => by
    unfold insR
    split
    · rw [List.mem_cons, mem_insR (l := ys), List.mem_cons]
      constructor
      · rintro (h | h | h)
        · exact .inr (.inl h)
        · exact .inl h
        · exact .inr (.inr h)
      · rintro (h | h | h)
        · exact .inr (.inl h)
        · exact .inl h
        · exact .inr (.inr h)
    · split
      · rename_i h; subst h
        simp
      · simp
theorem asc_insR {n : Int} : ∀ {l : List Int}, Asc l → Asc (insR n l)
  | [], _ => by simp [insR, Asc]
  | y :: ys, h => by
    have h' := List.pairwise_cons.1 h
    unfold insR
    split
    · rename_i hy
      refine List.pairwise_cons.2 ⟨fun z hz => ?_, asc_insR h'.2⟩
      rcases mem_insR.1 hz with e | e
      · omega
      · exact h'.1 z e
    · split
      · exact h
      · refine List.pairwise_cons.2 ⟨fun z hz => ?_, h⟩
        rcases List.mem_cons.1 hz with e | e
        · omega
        · have := h'.1 z e
          omega
theorem mem_insS {n x : Int} {l : List Int} : x ∈ insS n l ↔ x = n ∨ x ∈ l := by rw [insS_eq]; exact mem_insR
theorem asc_insS {n : Int} {l : List Int} (h : Asc l) : Asc (insS n l) := by rw [insS_eq]; exact asc_insR h
theorem mem_uniL {x : Int} : ∀ {b a : List Int}, x ∈ uniL a b ↔ x ∈ a ∨ x ∈ b
  | [], a => by simp [uniL]
  | y :: b, a => by
    have e : uniL a (y :: b) = uniL (insS y a) b := rfl
    rw [e, mem_uniL, mem_insS, List.mem_cons]
    constructor
    · rintro ((h | h) | h)
      · exact .inr (.inl h)
      · exact .inl h
      · exact .inr (.inr h)
    · rintro (h | h | h)
      · exact .inl (.inr h)
      · exact .inl (.inl h)
      · exact .inr h
theorem asc_uniL : ∀ {b a : List Int}, Asc a → Asc (uniL a b)
  | [], _, h => h
  | y :: b, a, h => by
    have e : uniL a (y :: b) = uniL (insS y a) b := rfl
    rw [e]
    exact asc_uniL (asc_insS h)
theorem asc_nil : Asc [] := List.Pairwise.nil
theorem asc_filter {l : List Int} (p : Int → Bool) (h : Asc l) : Asc (l.filter p) := List.Pairwise.filter p h
theorem asc_strike {n : Int} {l : List Int} (h : Asc l) : Asc (strike n l) := asc_filter _ h
theorem mem_strike {n x : Int} {l : List Int} : x ∈ strike n l ↔ x ∈ l ∧ x ≠ n := by unfold strike; simp
/-- two ascending lists with the same members are the same -/
theorem asc_ext : ∀ {a b : List Int}, Asc a → Asc b → (∀ x, x ∈ a ↔ x ∈ b) → a = b
  | [], [], _, _, _ => rfl
  | [], y :: b, _, _, h => by have := (h y).2 (by simp); simp at this
  | x :: a, [], _, _, h => by have := (h x).1 (by simp); simp at this
  | x :: a, y :: b, ha, hb, h => by
    have ha' := List.pairwise_cons.1 ha
    have hb' := List.pairwise_cons.1 hb
    have hxy : x = y := by
      have h1 := (h x).1 (by simp)
      have h2 := (h y).2 (by simp)
      rcases List.mem_cons.1 h1 with e | e
      · exact e
      · rcases List.mem_cons.1 h2 with e2 | e2
        · exact e2.symm
        · have := hb'.1 x e
          have := ha'.1 y e2
          omega
    subst hxy
    congr 1
    refine asc_ext ha'.2 hb'.2 fun z => ?_
    have hz := h z
    rw [List.mem_cons, List.mem_cons] at hz
    constructor
    · intro hm
      rcases hz.1 (.inr hm) with e | e
      · have := ha'.1 z hm; omega
      · exact e
    · intro hm
      rcases hz.2 (.inr hm) with e | e
      · have := hb'.1 z hm; omega
      · exact e
theorem asc_avars : ∀ (f k : Nat) (xs : List Int), Asc (avars f k xs)
  | 0, _, _ => asc_nil
  | f + 1, k, xs => by
    have ih := asc_avars f (k + 1) xs
    unfold avars
    split
    · refine List.pairwise_cons.2 ⟨fun z hz => ?_, ih⟩
      have := (mem_avars f (k + 1) xs z).1 hz
      omega
    · exact ih
/-- the numbers from k on, f of them, of which p holds -/
def selF (p : Int → Bool) : Nat → Nat → List Int
  | 0, _ => []
  | f + 1, k => if p k = true then (k : Int) :: selF p f (k + 1) else selF p f (k + 1)
theorem selF_step {p : Int → Bool} {n k : Nat} (h : k < n) : selF p (n - k) k = if p k = true then (k : Int) :: selF p (n - (k + 1)) (k + 1) else selF p (n - (k + 1)) (k + 1) := by
  rw [show n - k = (n - (k + 1)) + 1 by omega, selF]
theorem mem_selF {p : Int → Bool} {x : Int} : ∀ (f k : Nat), x ∈ selF p f k ↔ (k : Int) ≤ x ∧ x < k + f ∧ p x = true
  | 0, k => by simp [selF]; omega
  | f + 1, k => by
    have ih := mem_selF (p := p) (x := x) f (k + 1)
    unfold selF
    split
    · rename_i h
      rw [List.mem_cons, ih]
      constructor
      · rintro (rfl | ⟨h1, h2, h3⟩)
        · exact ⟨by omega, by omega, h⟩
        · exact ⟨by omega, by omega, h3⟩
      · rintro ⟨h1, h2, h3⟩
        by_cases e : x = k
        · exact .inl e
        · exact .inr ⟨by omega, by omega, h3⟩
    · rename_i h
      rw [ih]
      constructor
      · rintro ⟨h1, h2, h3⟩
        exact ⟨by omega, by omega, h3⟩
      · rintro ⟨h1, h2, h3⟩
        refine ⟨?_, by omega, h3⟩
        have : x ≠ k := by rintro rfl; exact h h3
        omega
theorem asc_selF {p : Int → Bool} : ∀ (f k : Nat), Asc (selF p f k)
  | 0, _ => asc_nil
  | f + 1, k => by
    have ih := asc_selF (p := p) f (k + 1)
    unfold selF
    split
    · refine List.pairwise_cons.2 ⟨fun z hz => ?_, ih⟩
      have := (mem_selF f (k + 1)).1 hz
      omega
    · exact ih
theorem selF_length {p : Int → Bool} : ∀ (f k : Nat), (selF p f k).length ≤ f
  | 0, _ => by simp [selF]
  | f + 1, k => by
    have := selF_length (p := p) f (k + 1)
    unfold selF
    split <;> simp <;> omega
end Go.Proofs.Ytfigcfajkilhiaa

/- Rows as assignments to variables: what a semijoin and a natural join of rows come to. No program in it. -/
namespace Go.Proofs.Ytfigcfajkilhiaa
open Go.RowKit

theorem iof_get {v : Int} : ∀ {k : Nat} {va : List Int}, v ∈ va → ∃ i : Nat, iof k v va = ((k + i : Nat) : Int) ∧ va[i]? = some v
  | _, [], h => by simp at h
  | k, x :: va, h => by
    rw [iof]
    split
    · rename_i e
      subst e
      exact ⟨0, by simp, by simp⟩
    · rename_i e
      rcases List.mem_cons.1 h with h | h
      · exact absurd h.symm e
      · obtain ⟨i, h1, h2⟩ := iof_get (k := k + 1) h
        exact ⟨i + 1, by rw [h1]; congr 1; omega, by simpa using h2⟩
theorem iof_nodup : ∀ {k : Nat} {va : List Int} {i : Nat} (_ : va.Nodup) (h : i < va.length), iof k va[i] va = ((k + i : Nat) : Int)
  | k, x :: va, 0, _, _ => by rw [iof]; simp
  | k, x :: va, i + 1, hn, h => by
    rw [List.nodup_cons] at hn
    rw [iof, if_neg, List.getElem_cons_succ, iof_nodup hn.2]
    · congr 1; omega
    · rintro e
      rw [List.getElem_cons_succ] at e
      exact hn.1 (e ▸ List.getElem_mem _)
theorem iof_neg {k : Nat} {v : Int} {va : List Int} : iof k v va < 0 ↔ v ∉ va := by
  have := iof_nonneg (n := v) k va
  constructor
  · intro h hm; have := this.2 hm; omega
  · intro h; by_cases h2 : 0 ≤ iof k v va
    · exact absurd (this.1 h2) h
    · omega

/-- a row's value at a variable -/
def valAt (va r : List Int) (v : Int) : Int := r.getD (iof 0 v va).toNat 0
theorem valAt_map {va : List Int} {g : Int → Int} {v : Int} (h : v ∈ va) : valAt va (va.map g) v = g v := by
  obtain ⟨i, h1, h2⟩ := iof_get (k := 0) h
  unfold valAt
  rw [h1, Int.toNat_natCast, Nat.zero_add, List.getD_eq_getElem?_getD, List.getElem?_map, h2]
  rfl
theorem map_valAt {va r : List Int} (hn : va.Nodup) (hl : r.length = va.length) : va.map (valAt va r) = r := by
  apply List.ext_getElem
  · simp [hl]
  · intro i h1 h2
    rw [List.getElem_map]
    unfold valAt
    rw [iof_nodup hn (by simpa using h1), Int.toNat_natCast, Nat.zero_add, getDl _ _ h2]
def agreeB (va r vb s : List Int) : Bool := va.all fun v => !decide (v ∈ vb) || decide (valAt va r v = valAt vb s v)
theorem agreeB_iff {va r vb s : List Int} : agreeB va r vb s = true ↔ ∀ v ∈ va, v ∈ vb → valAt va r v = valAt vb s v := by
  unfold agreeB
  simp only [List.all_eq_true, Bool.or_eq_true, Bool.not_eq_true', decide_eq_false_iff_not, decide_eq_true_eq]
  constructor
  · intro h v h1 h2
    rcases h v h1 with h | h
    · exact absurd h2 h
    · exact h
  · intro h v h1
    by_cases h2 : v ∈ vb
    · exact .inr (h v h1 h2)
    · exact .inl h2
def glueR (un va r vb s : List Int) : List Int := un.map fun v => if v ∈ va then valAt va r v else valAt vb s v
def joinL (un va : List Int) (ra : List (List Int)) (vb : List Int) (rb : List (List Int)) : List (List Int) :=
  ra.flatMap fun r => (rb.filter fun s => agreeB va r vb s).map fun s => glueR un va r vb s
def semiL (va : List Int) (ra : List (List Int)) (vb : List Int) (rb : List (List Int)) : List (List Int) := ra.filter fun r => rb.any fun s => agreeB va r vb s

theorem mem_semiL {va vb r : List Int} {ra rb : List (List Int)} (ha : va.Nodup) (hb : vb.Nodup) (hra : ∀ r ∈ ra, r.length = va.length) (hrb : ∀ s ∈ rb, s.length = vb.length) :
    r ∈ semiL va ra vb rb ↔ r ∈ ra ∧ ∃ g : Int → Int, va.map g = r ∧ vb.map g ∈ rb := by
  unfold semiL
  rw [List.mem_filter, List.any_eq_true]
  refine and_congr_right fun hr => ?_
  constructor
  · rintro ⟨s, hs, hag⟩
    rw [agreeB_iff] at hag
    refine ⟨fun v => if v ∈ va then valAt va r v else valAt vb s v, ?_, ?_⟩
    · rw [List.map_congr_left (g := valAt va r) (fun v hv => by rw [if_pos hv]), map_valAt ha (hra r hr)]
    · rw [List.map_congr_left (g := valAt vb s) (fun v hv => ?_), map_valAt hb (hrb s hs)]
      · exact hs
      · split
        · rename_i h; exact hag v h hv
        · rfl
  · rintro ⟨g, rfl, h2⟩
    refine ⟨_, h2, agreeB_iff.2 fun v h3 h4 => ?_⟩
    rw [valAt_map h3, valAt_map h4]
theorem mem_joinL {un va vb t : List Int} {ra rb : List (List Int)} (ha : va.Nodup) (hb : vb.Nodup) (hra : ∀ r ∈ ra, r.length = va.length) (hrb : ∀ s ∈ rb, s.length = vb.length) (hu : ∀ v ∈ un, v ∈ va ∨ v ∈ vb) :
    t ∈ joinL un va ra vb rb ↔ ∃ g : Int → Int, un.map g = t ∧ va.map g ∈ ra ∧ vb.map g ∈ rb := by
  unfold joinL
  simp only [List.mem_flatMap, List.mem_map, List.mem_filter]
  constructor
  · rintro ⟨r, hr, s, ⟨hs, hag⟩, rfl⟩
    rw [agreeB_iff] at hag
    refine ⟨fun v => if v ∈ va then valAt va r v else valAt vb s v, rfl, ?_, ?_⟩
    · rw [List.map_congr_left (g := valAt va r) (fun v hv => by rw [if_pos hv]), map_valAt ha (hra r hr)]
      exact hr
    · rw [List.map_congr_left (g := valAt vb s) (fun v hv => ?_), map_valAt hb (hrb s hs)]
      · exact hs
      · split
        · rename_i h; exact hag v h hv
        · rfl
  · rintro ⟨g, rfl, h1, h2⟩
    refine ⟨_, h1, _, ⟨h2, agreeB_iff.2 fun v h3 h4 => by rw [valAt_map h3, valAt_map h4]⟩, ?_⟩
    unfold glueR
    refine List.map_congr_left fun v hv => ?_
    split
    · rename_i h; exact valAt_map h
    · rename_i h
      rcases hu v hv with k | k
      · exact absurd k h
      · exact valAt_map k
theorem glue_left {un va r vb s : List Int} (ha : va.Nodup) (hr : r.length = va.length) (hu : ∀ v ∈ va, v ∈ un) : va.map (valAt un (glueR un va r vb s)) = r := by
  unfold glueR
  rw [List.map_congr_left (g := valAt va r) (fun v hv => by rw [valAt_map (hu v hv), if_pos hv]), map_valAt ha hr]
theorem glue_right {un va r vb s : List Int} (hb : vb.Nodup) (hs : s.length = vb.length) (hu : ∀ v ∈ vb, v ∈ un) (hag : agreeB va r vb s = true) : vb.map (valAt un (glueR un va r vb s)) = s := by
  unfold glueR
  rw [List.map_congr_left (g := valAt vb s) (fun v hv => ?_), map_valAt hb hs]
  rw [valAt_map (hu v hv)]
  split
  · rename_i h; exact agreeB_iff.1 hag v h hv
  · rfl
theorem joinL_nodup {un va vb : List Int} {ra rb : List (List Int)} (ha : va.Nodup) (hb : vb.Nodup) (hra : ∀ r ∈ ra, r.length = va.length) (hrb : ∀ s ∈ rb, s.length = vb.length) (hua : ∀ v ∈ va, v ∈ un) (hub : ∀ v ∈ vb, v ∈ un)
    (na : ra.Nodup) (nb : rb.Nodup) : (joinL un va ra vb rb).Nodup := by
  unfold joinL
  refine List.pairwise_flatMap.2 ⟨fun r hr => ?_, ?_⟩
  · refine List.pairwise_map.2 ?_
    refine List.Pairwise.imp_of_mem (R := (· ≠ ·)) (fun {s s'} hs hs' hne e => ?_) (List.Pairwise.filter _ nb)
    rw [List.mem_filter] at hs hs'
    apply hne
    rw [← glue_right (un := un) (va := va) (r := r) hb (hrb s hs.1) hub hs.2, e, glue_right hb (hrb s' hs'.1) hub hs'.2]
  · refine List.Pairwise.imp_of_mem (R := (· ≠ ·)) (fun {r r'} hr hr' hne _ hx y hy e => ?_) na
    rw [List.mem_map] at hx hy
    obtain ⟨s, _, rfl⟩ := hx
    obtain ⟨s', _, rfl⟩ := hy
    apply hne
    rw [← glue_left (un := un) (vb := vb) (s := s) ha (hra r hr) hua, e, glue_left ha (hra r' hr') hua]
theorem nodup_sortR {l : List (List Int)} (h : l.Nodup) : (sortR l).length = l.length :=
  List.Perm.length_eq ((List.perm_ext_iff_of_nodup (ascR_nodup (asc_sortR l)) h).2 fun _ => mem_sortR)
theorem asc_nodup {l : List Int} (h : Asc l) : l.Nodup := List.Pairwise.imp (fun {_ _} h => by omega) h

/-! ### a labeled relation that is valid -/
structure VrOk (d : VRd) : Prop where
  asc : Asc d.1
  lo : ∀ v ∈ d.1, 0 ≤ v ∧ v ≤ 4
  len : d.1.length ≤ 5
  ar : d.2.1 = (d.1.length : Int)
  cnt : d.2.2.length ≤ 4000
  rl : ∀ r ∈ d.2.2, r.length = d.1.length
  rv : ∀ r ∈ d.2.2, rowV r = true
  ra : AscR d.2.2
theorem vars1_iff {xs : List Int} : varsB xs = true ↔ Asc xs ∧ ∀ v ∈ xs, 0 ≤ v ∧ v ≤ 4 := by
  unfold varsB
  rw [allN_true]
  constructor
  · intro h
    have hv : ∀ i (hi : i < xs.length), 0 ≤ xs[i] ∧ xs[i] ≤ 4 := fun i hi => by
      have := h i (by omega) (by omega)
      unfold vars1 at this
      rw [getDl _ _ hi, Bool.and_eq_true] at this
      exact inB_t this.1
    refine ⟨?_, fun v hv2 => by obtain ⟨i, hi, rfl⟩ := List.getElem_of_mem hv2; exact hv i hi⟩
    have hn : ∀ i (hi : i + 1 < xs.length), xs[i] < xs[i + 1] := fun i hi => by
      have := h (i + 1) (by omega) (by omega)
      unfold vars1 at this
      rw [getDl _ _ hi, show i + 1 - 1 = i by omega, getDl _ _ (show i < xs.length by omega), Bool.and_eq_true] at this
      simpa using this.2
    unfold Asc
    rw [List.pairwise_iff_getElem]
    intro i j hi hj hij
    obtain ⟨d, rfl⟩ : ∃ d, j = i + 1 + d := ⟨j - i - 1, by omega⟩
    induction d with
    | zero => exact hn i hj
    | succ d ih =>
      have h1 := ih (by omega) (by omega)
      have h2 := hn (i + 1 + d) hj
      exact Int.lt_trans h1 h2
  · rintro ⟨h1, h2⟩ i _ hi
    rw [Nat.zero_add] at hi
    unfold vars1
    have h3 := h2 _ (List.getElem_mem hi)
    rw [getDl _ _ hi, Bool.and_eq_true]
    refine ⟨by simp [inB, h3], ?_⟩
    rcases Nat.eq_zero_or_pos i with h4 | h4
    · simp [h4]
    · rw [getDl _ _ (show i - 1 < xs.length by omega)]
      have := List.pairwise_iff_getElem.1 h1 (i - 1) i (by omega) hi (by omega)
      simp [this]
theorem asc_bd : ∀ {xs : List Int} {lo hi : Int}, Asc xs → (∀ v ∈ xs, lo ≤ v ∧ v ≤ hi) → lo ≤ hi + 1 → (xs.length : Int) ≤ hi + 1 - lo
  | [], lo, hi, _, _, h => by simp; omega
  | x :: xs, lo, hi, h, hb, _ => by
    unfold Asc at h
    rw [List.pairwise_cons] at h
    have hx := hb x (by simp)
    have := asc_bd (xs := xs) (lo := x + 1) (hi := hi) h.2 (fun v hv => ⟨by have := h.1 v hv; omega, (hb v (by simp [hv])).2⟩) (by omega)
    simp only [List.length_cons]
    omega
theorem asc_len5 {xs : List Int} (h : Asc xs) (hb : ∀ v ∈ xs, 0 ≤ v ∧ v ≤ 4) : xs.length ≤ 5 := by
  have := asc_bd h hb (by omega)
  omega
theorem vrB_iff {d : VRd} : vrB d = true ↔ VrOk d := by
  unfold vrB
  rw [Bool.and_eq_true, Bool.and_eq_true, vars1_iff, rowsB_iff, decide_eq_true_eq]
  constructor
  · rintro ⟨⟨⟨h1, h2⟩, h3, h4, h5, h6, h7⟩, h8⟩
    exact ⟨h1, h2, by omega, h8, h5, fun r hr => by have := (h6 r hr).1; omega, fun r hr => (h6 r hr).2, h7⟩
  · intro h
    have := h.len
    exact ⟨⟨⟨h.asc, h.lo⟩, by rw [h.ar]; omega, by rw [h.ar]; omega, h.cnt, fun r hr => ⟨by rw [h.ar, h.rl r hr], h.rv r hr⟩, h.ra⟩, h.ar⟩

/-! ### the semijoin and the natural join of valid ones -/
def semiR (a b : VRd) : Option VRd := if vrB a = true ∧ vrB b = true then some (a.1, a.2.1, semiL a.1 a.2.2 b.1 b.2.2) else none
def joinVR (a b : VRd) : VRd := (uniL a.1 b.1, ((uniL a.1 b.1).length : Int), sortR (joinL (uniL a.1 b.1) a.1 a.2.2 b.1 b.2.2))
def joinR (a b : VRd) : Option VRd := if (vrB a = true ∧ vrB b = true) ∧ (joinL (uniL a.1 b.1) a.1 a.2.2 b.1 b.2.2).length ≤ 4000 then some (joinVR a b) else none
theorem semi_ok {a b d : VRd} (h : semiR a b = some d) : VrOk d := by
  unfold semiR at h
  split at h
  · rename_i hh
    injection h with h
    subst h
    have ha := vrB_iff.1 hh.1
    have hs : ∀ r ∈ semiL a.1 a.2.2 b.1 b.2.2, r ∈ a.2.2 := fun r hr => (List.mem_filter.1 hr).1
    exact ⟨ha.asc, ha.lo, ha.len, ha.ar, Nat.le_trans (List.length_filter_le _ _) ha.cnt, fun r hr => ha.rl r (hs r hr), fun r hr => ha.rv r (hs r hr), ascR_filter _ ha.ra⟩
  · cases h
theorem rowV_iff {r : List Int} : rowV r = true ↔ ∀ x ∈ r, 0 ≤ x ∧ x ≤ 99 := by
  unfold rowV
  rw [List.all_eq_true]
  constructor
  · exact fun h x hx => inB_t (h x hx)
  · exact fun h x hx => by simp [inB, h x hx]
theorem valAt_mem {va r : List Int} {v : Int} (h : v ∈ va) (hl : r.length = va.length) : valAt va r v ∈ r := by
  obtain ⟨i, h1, h2⟩ := iof_get (k := 0) h
  unfold valAt
  have hi : i < va.length := (List.getElem?_eq_some_iff.1 h2).1
  rw [h1, Int.toNat_natCast, Nat.zero_add, getDl _ _ (by omega)]
  exact List.getElem_mem _
theorem glue_valid {un va r vb s : List Int} (hu : ∀ v ∈ un, v ∈ va ∨ v ∈ vb) (hr : r.length = va.length) (hs : s.length = vb.length) (vr : rowV r = true) (vs : rowV s = true) : rowV (glueR un va r vb s) = true := by
  rw [rowV_iff] at vr vs ⊢
  intro x hx
  unfold glueR at hx
  obtain ⟨v, hv, rfl⟩ := List.mem_map.1 hx
  split
  · rename_i h; exact vr _ (valAt_mem h hr)
  · rename_i h
    rcases hu v hv with k | k
    · exact absurd k h
    · exact vs _ (valAt_mem k hs)
theorem join_mem {a b : VRd} (ha : VrOk a) (hb : VrOk b) {t : List Int} : t ∈ joinL (uniL a.1 b.1) a.1 a.2.2 b.1 b.2.2 ↔ ∃ g : Int → Int, (uniL a.1 b.1).map g = t ∧ a.1.map g ∈ a.2.2 ∧ b.1.map g ∈ b.2.2 :=
  mem_joinL (asc_nodup ha.asc) (asc_nodup hb.asc) ha.rl hb.rl fun _ h => mem_uniL.1 h
theorem join_rows {a b : VRd} (ha : VrOk a) (hb : VrOk b) : ∀ t ∈ joinL (uniL a.1 b.1) a.1 a.2.2 b.1 b.2.2, t.length = (uniL a.1 b.1).length ∧ rowV t = true := fun t ht => by
  unfold joinL at ht
  simp only [List.mem_flatMap, List.mem_map, List.mem_filter] at ht
  obtain ⟨r, hr, s, ⟨hs, _⟩, rfl⟩ := ht
  exact ⟨by simp [glueR], glue_valid (fun _ h => mem_uniL.1 h) (ha.rl r hr) (hb.rl s hs) (ha.rv r hr) (hb.rv s hs)⟩
theorem uni_bd {a b : VRd} (ha : VrOk a) (hb : VrOk b) : ∀ v ∈ uniL a.1 b.1, 0 ≤ v ∧ v ≤ 4 := fun v hv => by
  rcases mem_uniL.1 hv with h | h
  · exact ha.lo v h
  · exact hb.lo v h
theorem join_nodup {a b : VRd} (ha : VrOk a) (hb : VrOk b) : (joinL (uniL a.1 b.1) a.1 a.2.2 b.1 b.2.2).Nodup :=
  joinL_nodup (asc_nodup ha.asc) (asc_nodup hb.asc) ha.rl hb.rl (fun _ h => mem_uniL.2 (.inl h)) (fun _ h => mem_uniL.2 (.inr h)) (ascR_nodup ha.ra) (ascR_nodup hb.ra)
theorem join_ok {a b d : VRd} (h : joinR a b = some d) : VrOk d := by
  unfold joinR at h
  split at h
  · rename_i hh
    obtain ⟨⟨h1, h2⟩, h3⟩ := hh
    injection h with h
    subst h
    have ha := vrB_iff.1 h1
    have hb := vrB_iff.1 h2
    have hA := asc_uniL (b := b.1) ha.asc
    exact ⟨hA, uni_bd ha hb, asc_len5 hA (uni_bd ha hb), rfl, Nat.le_trans (sortR_length _) h3, fun r hr => (join_rows ha hb r (mem_sortR.1 hr)).1, fun r hr => (join_rows ha hb r (mem_sortR.1 hr)).2, asc_sortR _⟩
  · cases h
/-- the reference's way: rows in any order, made a relation -/
theorem join_new {a b : VRd} (h : vrB a = true ∧ vrB b = true) : newR ((uniL a.1 b.1).length : Int) (joinL (uniL a.1 b.1) a.1 a.2.2 b.1 b.2.2) = (joinR a b).map (·.2) := by
  have ha := vrB_iff.1 h.1
  have hb := vrB_iff.1 h.2
  have hl := nodup_sortR (join_nodup ha hb)
  have h5 := asc_len5 (asc_uniL (b := b.1) ha.asc) (uni_bd ha hb)
  by_cases hc : (joinL (uniL a.1 b.1) a.1 a.2.2 b.1 b.2.2).length ≤ 4000
  · unfold joinR
    rw [if_pos ⟨h, hc⟩, newR_some (rowsIn_iff.2 fun r hr => by have := join_rows ha hb r hr; exact ⟨by rw [this.1], this.2⟩) (by omega) (by omega) (by omega)]
    rfl
  · unfold joinR
    rw [if_neg (fun h => hc h.2), Option.map_none, newR_none]
    rintro ⟨_, h2⟩
    have := (rowsB_iff.1 h2).2.2.1
    omega
end Go.Proofs.Ytfigcfajkilhiaa

/- Rows picked, placed, copied: the program's way and the reference's. -/
namespace Go.Proofs.Ytfigcfajkilhiaa
open Go.RowKit

/-- the values of a row at some columns -/
def pickL (row cols : List Int) : List Int := cols.map fun c => row.getD c.toNat 0
theorem pickL_step {row cols : List Int} {k : Nat} (h : k < cols.length) : pickL row (cols.take (k + 1)) = pickL row (cols.take k) ++ [row.getD cols[k].toNat 0] := by
  unfold pickL
  rw [List.take_succ_eq_append_getElem h, List.map_append]
  rfl
theorem pickL_length (row cols : List Int) : (pickL row cols).length = cols.length := by simp [pickL]
theorem RV.atI' {w : World} {A : Option Addr} {xs : List Int} {n : Nat} (h : RI w A xs) (hk : n < xs.length) : ∃ b o, A = some ⟨b, o, none⟩ ∧ b < w.heap.size ∧ w.cell? ⟨b, o + n, none⟩ = some (.int .i64 (xs.getD n 0)) := by
  rw [getDl _ _ hk]
  exact h.atI hk
set_option maxHeartbeats 1000000 in
theorem pick_any {A A' : Option Addr} {c c' : Nat} {row cols : List Int} {w : World} (h1 : RI w A row) (hc : cols.length ≤ 1000000000) (h2 : RI w A' cols) (hb : ∀ v ∈ cols, 0 ≤ v ∧ v < row.length) :
    Calls Try.prog 150 #[.slice A row.length c, .slice A' cols.length c'] w fun e w' => ∃ v F, e = .returned v ∧ (∃ y, w' = ext w y) ∧ SV 3 1 sI w' v (pickL row cols) F ∧ ∀ b ∈ F, w.heap.size ≤ b := by
  have hS0 := SV.empty (α := Int) (te := 3) (size := 1) (E := sI) w
  have Hb := Lib.hid hb
  clear hb
  go_enter Try.func150, Try.ntmps150
  go_wp2
  go_loopw [5, 11] (fun v i wr => ∃ (k : Nat) (F : List Nat), i = .int .i64 k ∧ k ≤ cols.length ∧ SV 3 1 sI wr v (pickL row (cols.take k)) F ∧ (∀ b ∈ F, w.heap.size ≤ b) ∧ (∃ y, wr = ext w y)) (fun _ i _ => cols.length - (intOf i).toNat)
  case atStart => exact ⟨0, _, rfl, by omega, by simpa [pickL] using hS0, by simp, alloc_ext _ _⟩
  case round =>
    obtain ⟨k, F, rfl, hk, hS, hF, hw⟩ := hrel
    have HF := Lib.hid hF
    clear hF
    by_cases hlt : k < cols.length
    · obtain ⟨b, o, rfl, hb', hc'⟩ := (h2.toExt hw).atI hlt
      obtain ⟨n0, n1⟩ := Hb.out _ (List.getElem_mem hlt)
      have Hst := Lib.hid (pickL_step (row := row) hlt)
      have hlk : (pickL row (cols.take k)).length + 1 ≤ 2000000000 := by rw [pickL_length]; simp; omega
      obtain ⟨n, hn⟩ : ∃ n, cols[k] = n := ⟨_, rfl⟩
      rw [hn] at n0 n1 hc' Hst
      clear hn
      obtain ⟨m, rfl⟩ := Int.eq_ofNat_of_zero_le n0
      rw [Int.toNat_natCast] at Hst
      obtain ⟨b1, o1, rfl, hb1, hc1⟩ := (h1.toExt hw).atI' (n := m) (by omega)
      obtain ⟨x, hx⟩ : ∃ x, row.getD m 0 = x := ⟨_, rfl⟩
      rw [hx] at hc1 Hst
      clear hx
      have n2 : (m : Int) < row.length := n1
      go_wp2_with (at_builtin; refine wpList_app1 (E := sI) (d := x) rfl _ _ _ rfl tI rfl rfl rfl (by simp) (fun _ => ⟨rfl, rfl⟩) rfl (by simp [Value.oneCell']) hS hlk (by omega) ?_; intro v' w' F' hS' hC' hF')
      exact ⟨⟨k + 1, F', by go_num, by omega, by rw [Hst.out]; exact hS', newer HF.out (size_of_ext hw) hF', hC'.isExt hw HF.out⟩, by simp [intOf]; omega⟩
    · rw [List.take_of_length_le (by omega)] at hS
      go_wp2
      go_ret
      exact ⟨_, F, rfl, hw, hS, HF.out⟩
set_option maxHeartbeats 1000000 in
theorem l5Cols_any {A A' : Option Addr} {c c' : Nat} {row cols : List Int} {w : World} (h1 : RI w A row) (hc : cols.length ≤ 1000000000) (h2 : RI w A' cols) (hb : ∀ v ∈ cols, 0 ≤ v ∧ v < row.length) :
    Calls Try.prog 119 #[.slice A row.length c, .slice A' cols.length c'] w fun e w' => ∃ v F, e = .returned v ∧ (∃ y, w' = ext w y) ∧ SV 3 1 sI w' v (pickL row cols) F ∧ ∀ b ∈ F, w.heap.size ≤ b := by
  have hS0 := SV.empty (α := Int) (te := 3) (size := 1) (E := sI) w
  have Hb := Lib.hid hb
  clear hb
  go_enter Try.func119, Try.ntmps119
  go_wp2
  go_loopw [5, 6] (fun v i wr => ∃ (k : Nat) (F : List Nat), i = .int .i64 k ∧ k ≤ cols.length ∧ SV 3 1 sI wr v (pickL row (cols.take k)) F ∧ (∀ b ∈ F, w.heap.size ≤ b) ∧ (∃ y, wr = ext w y)) (fun _ i _ => cols.length - (intOf i).toNat)
  case atStart => exact ⟨0, _, rfl, by omega, by simpa [pickL] using hS0, by simp, alloc_ext _ _⟩
  case round =>
    obtain ⟨k, F, rfl, hk, hS, hF, hw⟩ := hrel
    have HF := Lib.hid hF
    clear hF
    by_cases hlt : k < cols.length
    · obtain ⟨b, o, rfl, hb', hc'⟩ := (h2.toExt hw).atI hlt
      obtain ⟨n0, n1⟩ := Hb.out _ (List.getElem_mem hlt)
      have Hst := Lib.hid (pickL_step (row := row) hlt)
      have hlk : (pickL row (cols.take k)).length + 1 ≤ 2000000000 := by rw [pickL_length]; simp; omega
      obtain ⟨n, hn⟩ : ∃ n, cols[k] = n := ⟨_, rfl⟩
      rw [hn] at n0 n1 hc' Hst
      clear hn
      obtain ⟨m, rfl⟩ := Int.eq_ofNat_of_zero_le n0
      rw [Int.toNat_natCast] at Hst
      obtain ⟨b1, o1, rfl, hb1, hc1⟩ := (h1.toExt hw).atI' (n := m) (by omega)
      obtain ⟨x, hx⟩ : ∃ x, row.getD m 0 = x := ⟨_, rfl⟩
      rw [hx] at hc1 Hst
      clear hx
      have n2 : (m : Int) < row.length := n1
      go_wp2_with (at_builtin; refine wpList_app1 (E := sI) (d := x) rfl _ _ _ rfl tI rfl rfl rfl (by simp) (fun _ => ⟨rfl, rfl⟩) rfl (by simp [Value.oneCell']) hS hlk (by omega) ?_; intro v' w' F' hS' hC' hF')
      exact ⟨⟨k + 1, F', by go_num, by omega, by rw [Hst.out]; exact hS', newer HF.out (size_of_ext hw) hF', hC'.isExt hw HF.out⟩, by simp [intOf]; omega⟩
    · rw [List.take_of_length_le (by omega)] at hS
      go_wp2
      go_ret
      exact ⟨_, F, rfl, hw, hS, HF.out⟩
def fitsC (a : Int) (cols : List Int) : Bool := decide (cols.length ≤ 5) && cols.all fun c => inB c 0 (a - 1)
theorem fitsC_iff {a : Int} {cols : List Int} : fitsC a cols = true ↔ cols.length ≤ 5 ∧ ∀ v ∈ cols, 0 ≤ v ∧ v < a := by
  unfold fitsC
  rw [Bool.and_eq_true, decide_eq_true_eq, List.all_eq_true]
  refine and_congr_right fun _ => ?_
  constructor
  · intro h v hv; have := inB_t (h v hv); omega
  · intro h v hv; have := h v hv; simp [inB]; omega
set_option maxHeartbeats 400000 in
theorem columnsFit_any {A : Option Addr} {c : Nat} {a : Int} {cols : List Int} {w : World} (ha0 : -1000000000 ≤ a) (ha1 : a ≤ 1000000000) (hx : cols.length ≤ 1000000000) (h1 : RI w A cols) :
    Calls Try.prog 148 #[.int .i64 a, .slice A cols.length c] w fun e w' => e = .returned (.bool (fitsC a cols)) ∧ w = w' := by
  by_cases h5 : cols.length ≤ 5
  · have HE := Lib.hid (show fitsC a cols = cols.all fun c => inB c 0 (a - 1) by unfold fitsC; rw [decide_eq_true h5, Bool.true_and])
    go_enter Try.func148, Try.ntmps148
    go_wp2
    go_loop [12] (fun i => ∃ k : Nat, i = .int .i64 k ∧ k ≤ cols.length ∧ ((cols.drop k).all fun c => inB c 0 (a - 1)) = cols.all fun c => inB c 0 (a - 1)) (fun i => cols.length - (intOf i).toNat)
    case atStart => exact ⟨0, rfl, by omega, by simp⟩
    case round =>
      obtain ⟨k, rfl, hk, hj⟩ := hrel
      have Hj := Lib.hid hj
      clear hj
      by_cases hlt : k < cols.length
      · obtain ⟨b, o, rfl, hb, hc⟩ := h1.atI hlt
        have e := Hj.out
        rw [allR_step hlt] at e
        obtain ⟨t, ht⟩ : ∃ t, inB cols[k] 0 (a - 1) = t := ⟨_, rfl⟩
        rw [ht] at e
        have HT := Lib.hid ht
        have He := Lib.hid e
        clear e ht
        cases t
        · go_wp2_with (go_at_call 121; refine (within_any _ _ _ _).mono ?_; rintro e w' ⟨rfl, rfl⟩; rw [HT.out])
          go_ret
          exact ⟨by rw [HE.out, ← He.out]; rfl, rfl⟩
        · go_wp2_with (go_at_call 121; refine (within_any _ _ _ _).mono ?_; rintro e w' ⟨rfl, rfl⟩; rw [HT.out])
          exact ⟨⟨k + 1, by go_num, by omega, by simpa using He.out⟩, by simp [intOf]; omega⟩
      · have e := Hj.out
        rw [allR_end hlt] at e
        have He := Lib.hid e
        clear e
        go_wp2
        go_ret
        exact ⟨by rw [HE.out, ← He.out]; rfl, rfl⟩
  · have HE := Lib.hid (show fitsC a cols = false by unfold fitsC; rw [decide_eq_false h5, Bool.false_and])
    go_enter Try.func148, Try.ntmps148
    go_wp2
    go_ret
    exact ⟨by rw [HE.out]; rfl, rfl⟩
/-- where a search by halves stands -/
def PlI (rows : List (List Int)) (row : List Int) (lo hi : Nat) : Prop := AscR rows → (∀ i (_ : i < rows.length), i < lo → cmpL rows[i] row < 0) ∧ ∀ i (_ : i < rows.length), hi ≤ i → ¬ cmpL rows[i] row < 0
theorem PlI.up {rows : List (List Int)} {row : List Int} {lo hi m : Nat} (h : PlI rows row lo hi) (hm : m < rows.length) (hc : cmpL rows[m] row < 0) : PlI rows row (m + 1) hi := fun ha => by
  refine ⟨fun i hi hlt => ?_, (h ha).2⟩
  rcases Nat.lt_or_eq_of_le (Nat.le_of_lt_succ hlt) with k | k
  · exact cmpL_trans (asc_get ha k hm) hc
  · subst k; exact hc
theorem PlI.down {rows : List (List Int)} {row : List Int} {lo hi m : Nat} (h : PlI rows row lo hi) (hm : m < rows.length) (hc : ¬ cmpL rows[m] row < 0) : PlI rows row lo m := fun ha => by
  refine ⟨(h ha).1, fun i hi hle => ?_⟩
  rcases Nat.lt_or_eq_of_le hle with k | k
  · exact fun hl => hc (cmpL_trans (asc_get ha k hi) hl)
  · subst k; exact hc
theorem PlI.start (rows : List (List Int)) (row : List Int) : PlI rows row 0 rows.length := fun _ => ⟨fun i _ h => by omega, fun i h k => by omega⟩
def PlP (rows : List (List Int)) (row : List Int) (w : World) (e : Ending) (w' : World) : Prop :=
  ∃ (k : Nat) (b : Bool), e = .returned (.tuple #[.int .i64 k, .bool b]) ∧ k ≤ rows.length ∧ (AscR rows → b = decide (row ∈ rows)) ∧ PlI rows row k k ∧ ∃ y, w' = ext w y
theorem plp_end {rows : List (List Int)} {row : List Int} {k : Nat} {b : Bool} (h : PlI rows row k k) (hb : b = (decide (k < rows.length) && decide (cmpL (rows.getD k []) row = 0))) : AscR rows → b = decide (row ∈ rows) := fun ha => by
  rw [hb]; exact place_mem ha (h ha).1 (h ha).2
set_option maxHeartbeats 2000000 in
theorem place_any {A A' : Option Addr} {c c' : Nat} {rows : List (List Int)} {row : List Int} {w : World} (hx : rows.length ≤ 1000000000) (hxl : ∀ x ∈ rows, x.length ≤ 1000000000) (h1 : RII w A rows) (hr : row.length ≤ 1000000000) (h2 : RI w A' row) :
    Calls Try.prog 159 #[.slice A rows.length c, .slice A' row.length c'] w (PlP rows row w) := by
  have Hxl := Lib.hid hxl
  clear hxl
  go_enter Try.func159, Try.ntmps159
  go_wp2
  go_loopw [6, 7] (fun l h wr => ∃ lo hi : Nat, l = .int .i64 lo ∧ h = .int .i64 hi ∧ lo ≤ hi ∧ hi ≤ rows.length ∧ Hid (PlI rows row lo hi) ∧ (∃ y, wr = ext w y)) (fun l h _ => (intOf h).toNat - (intOf l).toNat)
  case atStart => exact ⟨0, rows.length, rfl, rfl, by omega, by omega, Lib.hid (PlI.start _ _), refl_ext w⟩
  case round =>
    obtain ⟨lo, hi, rfl, rfl, hlh, hhl, HP, hw⟩ := hrel
    by_cases hlt : lo < hi
    · have hm1 : lo ≤ (lo + hi) / 2 := by omega
      have hm2 : (lo + hi) / 2 < hi := by omega
      have HM := Lib.hid (show ((lo : Int) + (hi : Int)) / 2 = (((lo + hi) / 2 : Nat) : Int) by omega)
      obtain ⟨m, hm⟩ : ∃ m, (lo + hi) / 2 = m := ⟨_, rfl⟩
      rw [hm] at hm1 hm2 HM
      clear hm
      have hml : m < rows.length := by omega
      obtain ⟨b, o, A1, c1, rfl, hb, hc, hv⟩ := (h1.toExt hw).atV hml
      have lx := Hxl.out rows[m] (List.getElem_mem hml)
      have HU := Lib.hid (HP.out.up hml)
      have HD := Lib.hid (HP.out.down hml)
      obtain ⟨x, hx1⟩ : ∃ x, rows[m] = x := ⟨_, rfl⟩
      rw [hx1] at hc hv lx HU HD
      obtain ⟨C, hC⟩ : ∃ C, cmpL x row = C := ⟨_, rfl⟩
      rw [hC] at HU HD
      have HC := Lib.hid hC
      clear hx1 hC
      go_upto_region 4 with fail
      rw [HM.out]
      by_cases h0 : C < 0
      · have HU2 := Lib.hid (HU.out h0)
        go_wp2_with (go_at_call 181; refine (CompareRows_any lx hv hr (h2.toExt hw)).mono ?_; rintro e w1 ⟨rfl, hx1⟩; rw [HC.out])
        exact ⟨⟨m + 1, hi, by go_num, rfl, by omega, hhl, HU2, trans_ext hw hx1⟩, by simp [intOf]; omega⟩
      · have HD2 := Lib.hid (HD.out h0)
        go_wp2_with (go_at_call 181; refine (CompareRows_any lx hv hr (h2.toExt hw)).mono ?_; rintro e w1 ⟨rfl, hx1⟩; rw [HC.out])
        exact ⟨⟨lo, m, rfl, rfl, by omega, by omega, HD2, trans_ext hw hx1⟩, by simp [intOf]; omega⟩
    · obtain rfl : lo = hi := by omega
      by_cases hl : lo < rows.length
      · obtain ⟨b, o, A1, c1, rfl, hb, hc, hv⟩ := (h1.toExt hw).atV hl
        have lx := Hxl.out rows[lo] (List.getElem_mem hl)
        have HG := Lib.hid (getDl rows [] hl)
        obtain ⟨x, hx1⟩ : ∃ x, rows[lo] = x := ⟨_, rfl⟩
        rw [hx1] at hc hv lx HG
        obtain ⟨C, hC⟩ : ∃ C, cmpL x row = C := ⟨_, rfl⟩
        have HC := Lib.hid hC
        have HE := Lib.hid (plp_end (b := (C == 0)) HP.out (by rw [HG.out, hC, decide_eq_true hl, Bool.true_and]; rfl))
        clear hx1 hC
        go_wp2_with (go_at_call 181; refine (CompareRows_any lx hv hr (h2.toExt hw)).mono ?_; rintro e w1 ⟨rfl, hx1⟩; rw [HC.out])
        go_ret2
        exact ⟨lo, _, rfl, hhl, HE.out, HP.out, trans_ext hw hx1⟩
      · have HE := Lib.hid (plp_end (b := false) HP.out (by rw [decide_eq_false hl, Bool.false_and]))
        go_wp2
        go_ret2
        exact ⟨lo, _, rfl, hhl, HE.out, HP.out, hw⟩
end Go.Proofs.Ytfigcfajkilhiaa

/- Rows and relations copied; a row placed, by the reference. -/
namespace Go.Proofs.Ytfigcfajkilhiaa
open Go.RowKit

set_option maxHeartbeats 2000000 in
theorem l5Place_any {z : Int} {A A' : Option Addr} {c c' : Nat} {rows : List (List Int)} {row : List Int} {w : World} (hx : rows.length ≤ 1000000000) (hxl : ∀ x ∈ rows, x.length ≤ 1000000000) (h1 : RII w A rows) (hr : row.length ≤ 1000000000) (h2 : RI w A' row) :
    Calls Try.prog 118 #[.agg #[.int .i64 z, .slice A rows.length c], .slice A' row.length c'] w (PlP rows row w) := by
  have Hxl := Lib.hid hxl
  clear hxl
  go_enter Try.func118, Try.ntmps118
  go_upto_region 1 with fail
  refine wp_name ?_
  intro W hW
  have xW : ∃ y, W = ext w y := by rw [hW.out]; exact (by refine x'z ?_; repeat (with_reducible (first | exact x'a _ _ | exact x'b _ | exact x'c (by assumption) | refine x'd ?_ (by assumption) | refine x'e ?_ _ | refine x'f ?_ _ | refine x'g ?_ | refine x'h ?_ ?_ _ | refine x'i ?_ _ | refine x'j ?_ | refine x'k ?_ _ | refine x'l ?_ _ _ | refine x'm ?_ | assumption | (refine x'n ?_; omega) | omega)))
  have BW0 : BoxAt W (w.heap.size) #[.int .i64 z, .slice A rows.length c] := by rw [hW.out]; refine ⟨?_, fun j => ?_, fun j => ?_⟩ <;> go_simp
  obtain ⟨lW0, bW0, fW0⟩ := BW0
  have cW0_0 : W.cell? ⟨w.heap.size, 0, none⟩ = some (.int .i64 z) := bW0 0
  have cW0_1 : W.cell? ⟨w.heap.size, 1, none⟩ = some (.slice A rows.length c) := bW0 1
  clear hW
  have PW : BoxAt W w.heap.size #[.int .i64 z, .slice A rows.length c] := ⟨lW0, bW0, fW0⟩
  go_wp2
  clear lW0 bW0 fW0 cW0_0 cW0_1
  go_loopw [6, 7] (fun l h wr => ∃ lo hi : Nat, l = .int .i64 lo ∧ h = .int .i64 hi ∧ lo ≤ hi ∧ hi ≤ rows.length ∧ Hid (PlI rows row lo hi) ∧ (∃ y, wr = ext W y)) (fun l h _ => (intOf h).toNat - (intOf l).toNat)
  case atStart => exact ⟨0, rows.length, rfl, rfl, by omega, by omega, Lib.hid (PlI.start _ _), refl_ext W⟩
  case round =>
    obtain ⟨lo, hi, rfl, rfl, hlh, hhl, HP, hy⟩ := hrel
    obtain ⟨l1, a1, a1', f1⟩ := bx2 (PW.toExt hy)
    have hw := trans_ext xW hy
    by_cases hlt : lo < hi
    · have hm1 : lo ≤ (lo + hi) / 2 := by omega
      have hm2 : (lo + hi) / 2 < hi := by omega
      have HM := Lib.hid (show ((lo : Int) + (hi : Int)) / 2 = (((lo + hi) / 2 : Nat) : Int) by omega)
      obtain ⟨m, hm⟩ : ∃ m, (lo + hi) / 2 = m := ⟨_, rfl⟩
      rw [hm] at hm1 hm2 HM
      clear hm
      have hml : m < rows.length := by omega
      obtain ⟨b, o, A1, c1, rfl, hb, hc, hv⟩ := (h1.toExt hw).atV hml
      have lx := Hxl.out rows[m] (List.getElem_mem hml)
      have HU := Lib.hid (HP.out.up hml)
      have HD := Lib.hid (HP.out.down hml)
      obtain ⟨x, hx1⟩ : ∃ x, rows[m] = x := ⟨_, rfl⟩
      rw [hx1] at hc hv lx HU HD
      obtain ⟨C, hC⟩ : ∃ C, cmpL x row = C := ⟨_, rfl⟩
      rw [hC] at HU HD
      have HC := Lib.hid hC
      clear hx1 hC
      go_upto_region 5 with fail
      rw [HM.out]
      by_cases h0 : C < 0
      · have HU2 := Lib.hid (HU.out h0)
        go_wp2_with (go_at_call 120; refine (specCompareRows_any lx hv hr (h2.toExt hw)).mono ?_; rintro e w1 ⟨rfl, hx1⟩; rw [HC.out])
        exact ⟨⟨m + 1, hi, by go_num, rfl, by omega, hhl, HU2, trans_ext hy hx1⟩, by simp [intOf]; omega⟩
      · have HD2 := Lib.hid (HD.out h0)
        go_wp2_with (go_at_call 120; refine (specCompareRows_any lx hv hr (h2.toExt hw)).mono ?_; rintro e w1 ⟨rfl, hx1⟩; rw [HC.out])
        exact ⟨⟨lo, m, rfl, rfl, by omega, by omega, HD2, trans_ext hy hx1⟩, by simp [intOf]; omega⟩
    · obtain rfl : lo = hi := by omega
      by_cases hl : lo < rows.length
      · obtain ⟨b, o, A1, c1, rfl, hb, hc, hv⟩ := (h1.toExt hw).atV hl
        have lx := Hxl.out rows[lo] (List.getElem_mem hl)
        have HG := Lib.hid (getDl rows [] hl)
        obtain ⟨x, hx1⟩ : ∃ x, rows[lo] = x := ⟨_, rfl⟩
        rw [hx1] at hc hv lx HG
        obtain ⟨C, hC⟩ : ∃ C, cmpL x row = C := ⟨_, rfl⟩
        have HC := Lib.hid hC
        have HE := Lib.hid (plp_end (b := (C == 0)) HP.out (by rw [HG.out, hC, decide_eq_true hl, Bool.true_and]; rfl))
        clear hx1 hC
        go_wp2_with (go_at_call 120; refine (specCompareRows_any lx hv hr (h2.toExt hw)).mono ?_; rintro e w1 ⟨rfl, hx1⟩; rw [HC.out])
        go_ret2
        exact ⟨lo, _, rfl, hhl, HE.out, HP.out, trans_ext hw hx1⟩
      · have HE := Lib.hid (plp_end (b := false) HP.out (by rw [decide_eq_false hl, Bool.false_and]))
        go_wp2
        go_ret2
        exact ⟨lo, _, rfl, hhl, HE.out, HP.out, hw⟩
set_option maxHeartbeats 1000000 in
theorem copyRows_any {A : Option Addr} {c : Nat} {rows : List (List Int)} {w : World} (hx : rows.length ≤ 1000000000) (hxl : ∀ x ∈ rows, x.length ≤ 1000000000) (h1 : RII w A rows) :
    Calls Try.prog 173 #[.slice A rows.length c] w fun e w' => ∃ v F, e = .returned v ∧ (∃ y, w' = ext w y) ∧ SV 48 1 (sSl 3 1 sI) w' v rows F ∧ F.Nodup ∧ ∀ b ∈ F, w.heap.size ≤ b := by
  have Hxl := Lib.hid hxl
  clear hxl
  go_enter Try.func173, Try.ntmps173
  go_wp2
  go_loopw [3, 8] (fun v i wr => ∃ (k : Nat) (F : List Nat), i = .int .i64 k ∧ k ≤ rows.length ∧ SV 48 1 (sSl 3 1 sI) wr v (rows.take k) F ∧ Hid F.Nodup ∧ (∀ b ∈ F, w.heap.size ≤ b) ∧ (∃ y, wr = ext w y)) (fun _ i _ => rows.length - (intOf i).toNat)
  case atStart => exact ⟨0, [], rfl, by omega, SV.nil, Lib.hid (by simp), by simp, refl_ext w⟩
  case round =>
    obtain ⟨k, F, rfl, hk, hS, HN, hF, hw⟩ := hrel
    have HF := Lib.hid hF
    clear hF
    by_cases hlt : k < rows.length
    · obtain ⟨b, o, A1, c1, rfl, hb, hc, hv⟩ := (h1.toExt hw).atV hlt
      have lx := Hxl.out rows[k] (List.getElem_mem hlt)
      have Ht := Lib.hid (show rows.take (k + 1) = rows.take k ++ [rows[k]] from List.take_succ_eq_append_getElem hlt)
      have hlk : (rows.take k).length + 1 ≤ 2000000000 := by simp; omega
      have hSlt := Lib.hid hS.lt
      obtain ⟨x, hx1⟩ : ∃ x, rows[k] = x := ⟨_, rfl⟩
      rw [hx1] at hc hv lx Ht
      clear hx1
      go_wp2_with (first
        | (go_at_call 114; refine (copyInts_v lx hv).mono ?_; rintro e w1 ⟨v1, F1, rfl, hx1, hS1, hF1⟩; obtain ⟨A2, c2, rfl, _, _⟩ := hS1.form; have hN2 := nodup_more HN.out hS1.nodup hSlt.out hF1; have hz1 := size_of_ext hx1)
        | (at_builtin; refine wpList_appN (E := sSl 3 1 sI) (d := x) (G := F1) rfl _ _ _ rfl tIIr rfl rfl rfl (by simp) ⟨_, rfl, hS1⟩ rfl (by simp [Value.oneCell']) (hS.toExt hx1) hN2 hlk (by omega) ?_; intro v' w' F' hS' hC' hN' hF'))
      refine ⟨⟨k + 1, F', by go_num, by omega, by rw [Ht.out]; exact hS', Lib.hid hN', fun b hb => ?_, hC'.isExt (trans_ext hw hx1) HF.out⟩, by simp [intOf]; omega⟩
      have hzw := size_of_ext hw
      rcases hF' b hb with h | h | h
      · exact HF.out b h
      · have := hF1 b h; omega
      · omega
    · rw [List.take_of_length_le (by omega)] at hS
      go_wp2
      go_ret
      exact ⟨_, F, rfl, hw, hS, HN.out, HF.out⟩
set_option maxHeartbeats 1000000 in
theorem copyRelation_any {z : Int} {A : Option Addr} {c : Nat} {rows : List (List Int)} {w : World} (hx : rows.length ≤ 1000000000) (hxl : ∀ x ∈ rows, x.length ≤ 1000000000) (h1 : RII w A rows) :
    Calls Try.prog 93 #[.agg #[.int .i64 z, .slice A rows.length c]] w fun e w' => ∃ v0 v1 F, e = .returned (.agg #[v0, v1]) ∧ (∃ y, w' = ext w y) ∧ sRel w' [v0, v1] (z, rows) F ∧ F.Nodup ∧ ∀ b ∈ F, w.heap.size ≤ b := by
  have Hxl := Lib.hid hxl
  clear hxl
  go_enter Try.func93, Try.ntmps93
  go_upto_region 1 with fail
  refine wp_name ?_
  intro w0 hw0
  have hx0 : ∃ y, w0 = ext w y := by rw [hw0.out]; exact (by refine x'z ?_; repeat (with_reducible (first | exact x'a _ _ | exact x'b _ | exact x'c (by assumption) | refine x'd ?_ (by assumption) | refine x'e ?_ _ | refine x'f ?_ _ | refine x'g ?_ | refine x'h ?_ ?_ _ | refine x'i ?_ _ | refine x'j ?_ | refine x'k ?_ _ | refine x'l ?_ _ _ | refine x'm ?_ | assumption | (refine x'n ?_; omega) | omega)))
  have P0 : BoxAt w0 w.heap.size #[.int .i64 z, .slice A rows.length c] := by rw [hw0.out]; exact (by repeat (with_reducible (first | assumption | exact BoxAt.new _ _ _ | apply BoxAt.set2 | refine BoxAt.set2' ?_ (by omega) | apply BoxAt.setP0 | apply BoxAt.setP1 | refine BoxAt.setO ?_ (by omega) | refine BoxAt.alloc ?_ _ | refine BoxAt.drew ?_ | refine BoxAt.toExt ?_ (by assumption))))
  have R0 : BoxAt w0 (w.heap.size + 1) #[.int .i64 0, .slice none 0 0] := by
    rw [hw0.out]
    simpa using BoxAt.new (w.alloc (.cells #[.int .i64 z, .slice A rows.length c] 39)) #[.int .i64 0, .slice none 0 0] 39
  obtain ⟨l0, k0, k0', f0⟩ := bx2 P0
  obtain ⟨m0, n0, n0', g0⟩ := bx2 R0
  have hz0 := size_of_ext hx0
  clear hw0
  go_region_held3 (fun w' => w'.cell? ⟨w.heap.size, 0, none⟩ = some (.int .i64 z) ∧ w'.cell? ⟨w.heap.size, 1, none⟩ = some (.slice A rows.length c)) (first | go_keep | exact ⟨k1, k1'⟩) ((go_at_call 173; refine (copyRows_any hx Hxl.out (h1.toExt (by refine x'z ?_; repeat (with_reducible (first | exact x'a _ _ | exact x'b _ | exact x'c (by assumption) | refine x'd ?_ (by assumption) | refine x'e ?_ _ | refine x'f ?_ _ | refine x'g ?_ | refine x'h ?_ ?_ _ | refine x'i ?_ _ | refine x'j ?_ | refine x'k ?_ _ | refine x'l ?_ _ _ | refine x'm ?_ | assumption | (refine x'n ?_; omega) | omega))))).mono ?_; rintro e w1 ⟨v1, F1, rfl, hx1, hS1, hN1, hF1⟩; obtain ⟨A1, c1, rfl, _, _⟩ := hS1.form; obtain ⟨l1, k1, k1', f1⟩ := bx2 (P0.drew.toExt hx1); obtain ⟨m1, n1, n1', g1⟩ := bx2 (R0.drew.toExt hx1)))
  go_wp2_with fail
  have hz1 := size_of_ext hx1
  refine bodyPost_ret (v := .agg #[.int .i64 z, .slice A1 rows.length c1]) (by simp [results, Try.results93, go_sem, *]) rfl ⟨_, _, F1, rfl, (by refine x'z ?_; repeat (with_reducible (first | exact x'a _ _ | exact x'b _ | exact x'c (by assumption) | refine x'd ?_ (by assumption) | refine x'e ?_ _ | refine x'f ?_ _ | refine x'g ?_ | refine x'h ?_ ?_ _ | refine x'i ?_ _ | refine x'j ?_ | refine x'k ?_ _ | refine x'l ?_ _ _ | refine x'm ?_ | assumption | (refine x'n ?_; omega) | omega))), sRel_mk (OD.chg (E := sII) (G := [w.heap.size + 1]) ⟨_, rfl, hS1⟩ (by repeat (with_reducible (first | exact Chg.refl _ _ | refine Chg.trans0 ?_ (by assumption) | refine Chg.extS ?_ _ | refine Chg.alloc ?_ _ | refine Chg.drew ?_ | refine Chg.setCell ?_ (.inl (by simp)) _))) ?_), hN1, ?_⟩
  · intro b hb h
    have := hF1 b hb
    simp at h this
    omega
  · intro b hb
    have := hF1 b hb
    simp at this
    omega
end Go.Proofs.Ytfigcfajkilhiaa

/- Names of relations, and lists without repeats; the program's way and the reference's. -/
namespace Go.Proofs.Ytfigcfajkilhiaa
open Go.RowKit

def letB (b : UInt8) : Bool := decide (97 ≤ b.toNat ∧ b.toNat ≤ 122)
def nameB (s : ByteArray) : Bool := inB s.size 1 4 && (bl s).all letB
theorem letB_t {b : UInt8} (h : letB b = true) : 97 ≤ (b.toNat : Int) ∧ (b.toNat : Int) ≤ 122 := by simp [letB] at h; omega
theorem letB_f {b : UInt8} (h : ¬ letB b = true) : (b.toNat : Int) < 97 ∨ 122 < (b.toNat : Int) := by simp [letB] at h; omega
theorem lets_step {s : ByteArray} {k : Nat} (h : k < s.size) : ((bl s).drop k).all letB = (letB s[k] && ((bl s).drop (k + 1)).all letB) := by
  rw [List.drop_eq_getElem_cons (by rw [bl_length]; exact h), List.all_cons, bl_get s h]
theorem lets_end {s : ByteArray} {k : Nat} (h : ¬ k < s.size) : ((bl s).drop k).all letB = true := by
  rw [List.drop_eq_nil_of_le (by rw [bl_length]; omega)]; rfl
set_option maxHeartbeats 400000 in
theorem isLetters_any {s : ByteArray} {w : World} (hs : s.size ≤ 1000000000) :
    Calls Try.prog 186 #[.string s, .int .i64 4] w fun e w' => e = .returned (.bool (nameB s)) ∧ w = w' := by
  by_cases h1 : s.size < 1
  · have HE := Lib.hid (show nameB s = false by unfold nameB inB; rw [decide_eq_false (by omega), Bool.false_and])
    go_enter Try.func186, Try.ntmps186
    go_wp2
    go_ret
    exact ⟨by rw [HE.out]; rfl, rfl⟩
  · by_cases h2 : 4 < s.size
    · have HE := Lib.hid (show nameB s = false by unfold nameB inB; rw [decide_eq_false (by omega), Bool.false_and])
      go_enter Try.func186, Try.ntmps186
      go_wp2
      go_ret
      exact ⟨by rw [HE.out]; rfl, rfl⟩
    · have HE := Lib.hid (show nameB s = (bl s).all letB by unfold nameB inB; rw [decide_eq_true (by omega), Bool.true_and])
      go_enter Try.func186, Try.ntmps186
      go_wp2
      go_loop [5] (fun i => ∃ k : Nat, i = .int .i64 k ∧ k ≤ s.size ∧ ((bl s).drop k).all letB = nameB s) (fun i => s.size - (intOf i).toNat)
      case atStart => exact ⟨0, rfl, by omega, by rw [HE.out]; simp⟩
      case round =>
        obtain ⟨k, rfl, hk, hj⟩ := hrel
        have Hj := Lib.hid hj
        clear hj
        by_cases hlt : k < s.size
        · have e := Hj.out
          rw [lets_step hlt] at e
          by_cases hl : letB s[k] = true
          · obtain ⟨q1, q2⟩ := letB_t hl
            rw [hl, Bool.true_and] at e
            have He := Lib.hid e
            clear e hl
            go_wp2
            exact ⟨⟨k + 1, by go_num, by omega, He.out⟩, by simp [intOf]; omega⟩
          · rw [show letB s[k] = false by simpa using hl, Bool.false_and] at e
            have He := Lib.hid e
            rcases letB_f hl with q | q
            all_goals
              clear e hl
              go_wp2
              go_ret
              exact ⟨by rw [← He.out]; rfl, rfl⟩
        · have e := Hj.out
          rw [lets_end hlt] at e
          have He := Lib.hid e
          clear e
          go_wp2
          go_ret
          exact ⟨by rw [← He.out]; rfl, rfl⟩
theorem IsValidName_any {s : ByteArray} {w : World} (hs : s.size ≤ 1000000000) :
    Calls Try.prog 144 #[.string s] w fun e w' => e = .returned (.bool (nameB s)) ∧ w = w' := by
  go_enter Try.func144, Try.ntmps144
  go_wp2_with (go_at_call 186; refine (isLetters_any hs).mono ?_; rintro e w' ⟨rfl, rfl⟩)
  go_ret
  exact ⟨rfl, rfl⟩
set_option maxHeartbeats 400000 in
theorem specIsValidName_any {s : ByteArray} {w : World} (hs : s.size ≤ 1000000000) :
    Calls Try.prog 143 #[.string s] w fun e w' => e = .returned (.bool (nameB s)) ∧ w = w' := by
  go_enter Try.func143, Try.ntmps143
  go_wp2
  go_loop [3] (fun i => ∃ k : Nat, i = .int .i64 k ∧ k ≤ s.size ∧ ((bl s).drop k).all letB = (bl s).all letB) (fun i => s.size - (intOf i).toNat)
  case atStart => exact ⟨0, rfl, by omega, by simp⟩
  case round =>
    obtain ⟨k, rfl, hk, hj⟩ := hrel
    have Hj := Lib.hid hj
    clear hj
    by_cases hlt : k < s.size
    · have e := Hj.out
      rw [lets_step hlt] at e
      by_cases hl : letB s[k] = true
      · obtain ⟨q1, q2⟩ := letB_t hl
        rw [hl, Bool.true_and] at e
        have He := Lib.hid e
        clear e hl
        go_wp2
        exact ⟨⟨k + 1, by go_num, by omega, He.out⟩, by simp [intOf]; omega⟩
      · rw [show letB s[k] = false by simpa using hl, Bool.false_and] at e
        have He := Lib.hid (show nameB s = false by unfold nameB; rw [← e, Bool.and_false])
        rcases letB_f hl with q | q
        all_goals
          clear e hl
          go_wp2
          go_ret
          exact ⟨by rw [He.out]; rfl, rfl⟩
    · have e := Hj.out
      rw [lets_end hlt] at e
      have He := Lib.hid (show nameB s = inB s.size 1 4 by unfold nameB; rw [← e, Bool.and_true])
      clear e
      go_wp2_with (go_at_call 123; refine (l1In_any _ _ _ _).mono ?_; rintro e w' ⟨rfl, rfl⟩)
      go_ret
      exact ⟨by rw [He.out]; rfl, rfl⟩
/-! a list of numbers below n, each at most once -/
def setB (n : Int) : List Int → List Int → Bool
  | _, [] => true
  | pre, x :: xs => inB x 0 (n - 1) && !decide (x ∈ pre) && setB n (pre ++ [x]) xs
theorem setB_step {n : Int} {xs : List Int} {k : Nat} (h : k < xs.length) : setB n (xs.take k) (xs.drop k) = (inB xs[k] 0 (n - 1) && !decide (xs[k] ∈ xs.take k) && setB n (xs.take (k + 1)) (xs.drop (k + 1))) := by
  rw [List.drop_eq_getElem_cons h, setB, List.take_succ_eq_append_getElem h]
theorem setB_end {n : Int} {xs : List Int} {k : Nat} (h : ¬ k < xs.length) : setB n (xs.take k) (xs.drop k) = true := by
  rw [List.drop_eq_nil_of_le (by omega), setB]
theorem setB_sound : ∀ {n : Int} {xs pre : List Int}, setB n pre xs = true → (∀ x ∈ xs, 0 ≤ x ∧ x < n) ∧ xs.Nodup ∧ ∀ x ∈ xs, x ∉ pre
  | n, [], pre, _ => ⟨by simp, by simp, by simp⟩
  | n, x :: xs, pre, h => by
    rw [setB, Bool.and_eq_true, Bool.and_eq_true] at h
    obtain ⟨⟨h1, h2⟩, h3⟩ := h
    have h1 := inB_t h1
    obtain ⟨a, b, c⟩ := setB_sound h3
    refine ⟨?_, ?_, ?_⟩
    · intro y hy
      rcases List.mem_cons.1 hy with e | e
      · subst e; omega
      · exact a y e
    · refine List.nodup_cons.2 ⟨fun hm => ?_, b⟩
      have := c x hm
      simp at this
    · intro y hy
      rcases List.mem_cons.1 hy with e | e
      · subst e; simpa using h2
      · intro hp
        have := c y e
        simp [hp] at this
theorem nodup_len : ∀ (n : Nat) (xs : List Int), xs.Nodup → (∀ x ∈ xs, 0 ≤ x ∧ x < n) → xs.length ≤ n
  | 0, xs, _, h => by
    cases xs with
    | nil => simp
    | cons x xs => have := h x (by simp); omega
  | n + 1, xs, hn, h => by
    by_cases hm : (n : Int) ∈ xs
    · obtain ⟨s, t, rfl⟩ := List.append_of_mem hm
      have hn2 := List.nodup_append.1 hn
      have hn3 := List.nodup_cons.1 hn2.2.1
      have h2 : (s ++ t).Nodup := List.nodup_append.2 ⟨hn2.1, hn3.2, fun a ha b hb => hn2.2.2 a ha b (by simp [hb])⟩
      have := nodup_len n (s ++ t) h2 fun x hx => by
        have h3 := h x (by rcases List.mem_append.1 hx with e | e <;> simp [e])
        have h4 : x ≠ n := by
          rintro rfl
          rcases List.mem_append.1 hx with e | e
          · exact hn2.2.2 _ e _ (by simp) rfl
          · exact hn3.1 e
        omega
      simp at this ⊢
      omega
    · have := nodup_len n xs hn fun x hx => by
        have h3 := h x hx
        have h4 : x ≠ n := by rintro rfl; exact hm hx
        omega
      omega
theorem setB_len {n : Int} {xs : List Int} (h : setB n [] xs = true) (hn : 0 ≤ n) : (xs.length : Int) ≤ n := by
  obtain ⟨a, b, _⟩ := setB_sound h
  have := nodup_len n.toNat xs b fun x hx => by have := a x hx; omega
  omega
theorem RV.pre {w : World} {α : Type} {size : Nat} {E : VE α} {A : Option Addr} {xs : List α} (h : RV size E w A xs) (k : Nat) : RV size E w A (xs.take k) := fun hn => by
  obtain ⟨b, o, h1, h2, h3⟩ := h (by intro e; subst e; simp at hn)
  refine ⟨b, o, h1, h2, fun j hj => ?_⟩
  simp only [List.length_take] at hj
  obtain ⟨c, hc, hr, he⟩ := h3 j (by omega)
  exact ⟨c, hc, hr, by simpa using he⟩
theorem hasInt_n {A : Option Addr} {c m : Nat} {xs : List Int} {n : Int} {w : World} (hm : xs.length = m) (hx : m ≤ 1000000000) (h1 : RI w A xs) :
    Calls Try.prog 153 #[.slice A m c, .int .i64 n] w fun e w' => e = .returned (.bool (decide (n ∈ xs))) ∧ ∃ y, w' = ext w y := by
  subst hm
  exact hasInt_any hx h1
set_option maxHeartbeats 1000000 in
theorem isSetOf_any {A : Option Addr} {c : Nat} {xs : List Int} {n : Int} {w : World} (hx : xs.length ≤ 1000000000) (hcap : xs.length ≤ c) (h1 : RI w A xs) (hn0 : 0 ≤ n) (hn1 : n ≤ 1000) :
    Calls Try.prog 188 #[.slice A xs.length c, .int .i64 n] w fun e w' => e = .returned (.bool (setB n [] xs)) ∧ ∃ y, w' = ext w y := by
  go_enter Try.func188, Try.ntmps188
  go_wp2
  go_loopw [9] (fun i wr => ∃ k : Nat, i = .int .i64 k ∧ k ≤ xs.length ∧ setB n (xs.take k) (xs.drop k) = setB n [] xs ∧ ∃ y, wr = ext w y) (fun i _ => xs.length - (intOf i).toNat)
  case atStart => exact ⟨0, rfl, by omega, by simp, refl_ext w⟩
  case round =>
    obtain ⟨k, rfl, hk, hj, hy⟩ := hrel
    have Hj := Lib.hid hj
    clear hj
    by_cases hlt : k < xs.length
    · have h1' := h1.toExt hy
      obtain ⟨b, o, rfl, hb, hc⟩ := h1'.atI hlt
      have e := Hj.out
      rw [setB_step hlt] at e
      obtain ⟨t1, ht1⟩ : ∃ t, inB xs[k] 0 (n - 1) = t := ⟨_, rfl⟩
      obtain ⟨t2, ht2⟩ : ∃ t, decide (xs[k] ∈ xs.take k) = t := ⟨_, rfl⟩
      rw [ht1, ht2] at e
      have T1 := Lib.hid ht1
      have T2 := Lib.hid ht2
      have He := Lib.hid e
      have hp := h1'.pre k
      have hpl : (xs.take k).length = k := by simp; omega
      have HP := Lib.hid hpl
      clear e ht1 ht2 hpl
      cases t1 with
      | false =>
        go_wp2_with (go_at_call 121; refine (within_any _ _ _ _).mono ?_; rintro e w' ⟨rfl, rfl⟩; rw [T1.out])
        go_ret
        exact ⟨by rw [← He.out]; rfl, hy⟩
      | true =>
        cases t2 with
        | true =>
          go_wp2_with (first
            | (go_at_call 121; refine (within_any _ _ _ _).mono ?_; rintro e w' ⟨rfl, rfl⟩; rw [T1.out])
            | (go_at_call 153; refine (hasInt_n HP.out (by omega) hp).mono ?_; rintro e w' ⟨rfl, hx1⟩; rw [T2.out]))
          go_ret
          exact ⟨by rw [← He.out]; rfl, (by refine x'z ?_; repeat (with_reducible (first | exact x'a _ _ | exact x'b _ | exact x'c (by assumption) | refine x'd ?_ (by assumption) | refine x'e ?_ _ | refine x'f ?_ _ | refine x'g ?_ | refine x'h ?_ ?_ _ | refine x'i ?_ _ | refine x'j ?_ | refine x'k ?_ _ | refine x'l ?_ _ _ | refine x'm ?_ | assumption | (refine x'n ?_; omega) | omega)))⟩
        | false =>
          go_wp2_with (first
            | (go_at_call 121; refine (within_any _ _ _ _).mono ?_; rintro e w' ⟨rfl, rfl⟩; rw [T1.out])
            | (go_at_call 153; refine (hasInt_n HP.out (by omega) hp).mono ?_; rintro e w' ⟨rfl, hx1⟩; rw [T2.out]))
          exact ⟨⟨k + 1, by go_num, by omega, by simpa using He.out, (by refine x'z ?_; repeat (with_reducible (first | exact x'a _ _ | exact x'b _ | exact x'c (by assumption) | refine x'd ?_ (by assumption) | refine x'e ?_ _ | refine x'f ?_ _ | refine x'g ?_ | refine x'h ?_ ?_ _ | refine x'i ?_ _ | refine x'j ?_ | refine x'k ?_ _ | refine x'l ?_ _ _ | refine x'm ?_ | assumption | (refine x'n ?_; omega) | omega)))⟩, by simp [intOf]; omega⟩
    · have e := Hj.out
      rw [setB_end hlt] at e
      have He := Lib.hid e
      clear e
      go_wp2
      go_ret
      exact ⟨by rw [← He.out]; rfl, hy⟩
set_option maxHeartbeats 400000 in
theorem l7Find_any {A : Option Addr} {c : Nat} {xs : List Int} {n : Int} {w : World} (hx : xs.length ≤ 1000000000) (h1 : RI w A xs) :
    Calls Try.prog 125 #[.slice A xs.length c, .int .i64 n] w fun e w' => e = .returned (.int .i64 (iof 0 n xs)) ∧ ∃ y, w' = ext w y := by
  go_enter Try.func125, Try.ntmps125
  go_wp2
  go_loop [5] (fun i => ∃ k : Nat, i = .int .i64 k ∧ k ≤ xs.length ∧ iof k n (xs.drop k) = iof 0 n xs) (fun i => xs.length - (intOf i).toNat)
  case atStart => exact ⟨0, rfl, by omega, by simp⟩
  case round =>
    obtain ⟨k, rfl, hk, hj⟩ := hrel
    have Hj := Lib.hid hj
    clear hj
    by_cases hlt : k < xs.length
    · obtain ⟨b, o, rfl, hb, hc⟩ := h1.atI hlt
      go_wp2
      · go_ret
        have e := Hj.out
        rw [iof_step hlt, if_pos (by simpa using ‹(xs[k] == n) = true›)] at e
        exact ⟨by rw [← e]; rfl, refl_ext w⟩
      · have e := Hj.out
        rw [iof_step hlt, if_neg (by simpa using ‹(xs[k] == n) = false›)] at e
        exact ⟨⟨k + 1, by go_num, by omega, e⟩, by simp [intOf]; omega⟩
    · go_wp2
      go_ret
      have e := Hj.out
      rw [List.drop_eq_nil_of_le (by omega)] at e
      exact ⟨by rw [← e]; rfl, refl_ext w⟩
end Go.Proofs.Ytfigcfajkilhiaa

/- Ascending lists united by the program; numbers struck from a list. -/
namespace Go.Proofs.Ytfigcfajkilhiaa
open Go.RowKit

theorem copyInts_n {A : Option Addr} {c m : Nat} {xs : List Int} {w : World} (hm : xs.length = m) (hx : m ≤ 1000000000) (hA : A = none → c = 0) (h1 : RI w A xs) :
    Calls Try.prog 114 #[.slice A m c] w fun e w' => ∃ v F, e = .returned v ∧ (∃ y, w' = ext w y) ∧ SV 3 1 sI w' v xs F ∧ ∀ b ∈ F, w.heap.size ≤ b := by
  subst hm
  have hS0 := SV.empty (α := Int) (te := 3) (size := 1) (E := sI) w
  have HA := Lib.hid hA
  clear hA
  go_enter Try.func114, Try.ntmps114
  go_wp2_with (at_builtin; refine wpList_appL (E := sI) (V := vI) (es := xs) rfl _ _ _ rfl tI rfl hS0 rfl HA.out (h1.toExt (by refine x'z ?_; repeat (with_reducible (first | exact x'a _ _ | exact x'b _ | exact x'c (by assumption) | refine x'd ?_ (by assumption) | refine x'e ?_ _ | refine x'f ?_ _ | refine x'g ?_ | refine x'h ?_ ?_ _ | refine x'i ?_ _ | refine x'j ?_ | refine x'k ?_ _ | refine x'l ?_ _ _ | refine x'm ?_ | assumption | (refine x'n ?_; omega) | omega)))) vI_s vI_1 (by simp; omega) (by omega) ?_; intro v' w' F' hS hC hF)
  go_ret
  exact ⟨_, F', rfl, hC.isExt (by refine x'z ?_; repeat (with_reducible (first | exact x'a _ _ | exact x'b _ | exact x'c (by assumption) | refine x'd ?_ (by assumption) | refine x'e ?_ _ | refine x'f ?_ _ | refine x'g ?_ | refine x'h ?_ ?_ _ | refine x'i ?_ _ | refine x'j ?_ | refine x'k ?_ _ | refine x'l ?_ _ _ | refine x'm ?_ | assumption | (refine x'n ?_; omega) | omega))) (by simp), by simpa using hS, fun b hb => by
    rcases hF b hb with h | h
    · simp at h; omega
    · simp at h; omega⟩
theorem RV.from {α : Type} {size : Nat} {E : VE α} {w : World} {A A' : Option Addr} {ds : List α} (h : RV size E w A ds) {q : Nat} (hA : ∀ b o, A = some ⟨b, o, none⟩ → q < ds.length → A' = some ⟨b, o + q * size, none⟩) : RV size E w A' (ds.drop q) := by
  by_cases hq : q ≤ ds.length
  · have := h.cut (lo := q) (hi := ds.length) hq (Nat.le_refl _) (A' := A') hA
    rwa [List.take_of_length_le (Nat.le_refl _)] at this
  · rw [List.drop_eq_nil_of_le (by omega)]
    exact RV.nil
theorem SV.place {α : Type} {te size : Nat} {E : SE α} {w : World} {A : Option Addr} {n c : Nat} {ds : List α} {F : List Nat} (h : SV te size E w (.slice A n c) ds F) : A = none ∧ c = 0 ∨ ∃ g, A = some ⟨g, 0, none⟩ := by
  obtain ⟨vs, F2, h1, _, _⟩ := h
  rcases h1.2 with ⟨h2, _⟩ | ⟨g, cap, cur, h2, _⟩
  · injection h2 with e1 e2 e3
    exact .inl ⟨e1, e3⟩
  · injection h2 with e1 e2 e3
    exact .inr ⟨g, e1⟩
theorem insS_put {n : Int} {l : List Int} {q : Nat} (hq : insK n l = q) (h : ∀ h : q < l.length, l[q] ≠ n) : insS n l = l.take q ++ [n] ++ l.drop q := by
  unfold insS
  rw [hq, if_neg]
  intro e
  by_cases hl : q < l.length
  · rw [List.drop_eq_getElem_cons hl, List.head?_cons] at e
    injection e with e
    exact h hl e
  · rw [List.drop_eq_nil_of_le (by omega)] at e
    simp at e
theorem insS_hit {n : Int} {l : List Int} {q : Nat} (hq : insK n l = q) (hl : q < l.length) (h : l[q] = n) : insS n l = l := by
  unfold insS
  rw [hq, if_pos]
  rw [List.drop_eq_getElem_cons hl, h]
  rfl
set_option maxRecDepth 100000 in
set_option maxHeartbeats 8000000 in
theorem unite_v {A A' : Option Addr} {c c' : Nat} {xs ys : List Int} {w : World} (hx : xs.length ≤ 100000000) (h1 : RI w A xs) (hy : ys.length ≤ 100000000) (h2 : RI w A' ys) :
    Calls Try.prog 115 #[.slice A xs.length c, .slice A' ys.length c'] w fun e w' => ∃ v F, e = .returned v ∧ (∃ y, w' = ext w y) ∧ SV 3 1 sI w' v (uniL xs ys) F ∧ ∀ b ∈ F, w.heap.size ≤ b := by
  go_enter Try.func115, Try.ntmps115
  go_wp2_with (go_at_call 114; refine (copyInts_v (by omega) h1).mono ?_; rintro e w1 ⟨v1, F1, rfl, hx1, hS1, hF1⟩)
  go_loopw [5, 13] (fun v i wr => ∃ (k : Nat) (F : List Nat), i = .int .i64 k ∧ k ≤ ys.length ∧ SV 3 1 sI wr v (uniL xs (ys.take k)) F ∧ (∀ b ∈ F, w.heap.size ≤ b) ∧ (∃ y, wr = ext w y)) (fun _ i _ => ys.length - (intOf i).toNat)
  case atStart => exact ⟨0, F1, rfl, by omega, by simpa [uniL] using hS1, hF1, hx1⟩
  case round =>
    obtain ⟨k, F, rfl, hk, hS, hF, hw⟩ := hrel
    have HF := Lib.hid hF
    have HF1 := Lib.hid hF1
    clear hF hF1 hS1
    by_cases hlt : k < ys.length
    · obtain ⟨b, o, rfl, hb, hc⟩ := (h2.toExt hw).atI hlt
      have hlen : (uniL xs (ys.take k)).length ≤ 200000000 := by
        have := uniL_length (ys.take k) xs
        simp at this
        omega
      have Hst := Lib.hid (uniL_step (a := xs) hlt)
      obtain ⟨ds, hds⟩ : ∃ ds, uniL xs (ys.take k) = ds := ⟨_, rfl⟩
      obtain ⟨n, hn⟩ : ∃ n, ys[k] = n := ⟨_, rfl⟩
      rw [hds] at hS hlen
      rw [hn] at hc
      have Hds : Hid (uniL xs (ys.take (k + 1)) = insS n ds) := Lib.hid (by rw [Hst.out, hds, hn])
      clear hds hn Hst
      obtain ⟨A1, c1, rfl, hc1, _, hV⟩ := hS.view sI_v
      have Hcap := Lib.hid (fun h : A1 = none => hS.cap0 h)
      have hSlt := Lib.hid hS.lt
      go_wp2
      go_loop [8] (fun j => ∃ q : Nat, j = .int .i64 q ∧ q ≤ ds.length ∧ q + insK n (ds.drop q) = insK n ds) (fun j => ds.length - (intOf j).toNat)
      case atStart => exact ⟨0, rfl, by omega, by simp⟩
      case round =>
        obtain ⟨q, rfl, hq, hj⟩ := hrel
        have Hj := Lib.hid hj
        clear hj
        have HQ := Lib.hid (show (ds.take q).length = q by simp; omega)
        have q0 : (0 : Int) ≤ (q : Int) := by omega
        have q1 : (q : Int) ≤ (ds.length : Int) := by omega
        have q2 : (q : Int) ≤ (c1 : Int) := by omega
        by_cases hql : q < ds.length
        · obtain ⟨b2, o2, rfl, hb2, hc2⟩ := hV.atI hql
          by_cases hlt2 : ds[q] < n
          · have e := Hj.out
            rw [insK_step hql hlt2] at e
            have He := Lib.hid e
            clear e
            go_wp2
            exact ⟨⟨q + 1, by go_num, by omega, He.out⟩, by simp [intOf]; omega⟩
          · have e := Hj.out
            rw [insK_hit hql hlt2] at e
            have He := Lib.hid e.symm
            clear e
            by_cases he : ds[q] = n
            · have hb3 : (ds[q] != n) = false := by simpa using he
              have HI := Lib.hid (insS_hit He.out hql he)
              clear he
              go_wp2
              exact ⟨⟨k + 1, F, by go_num, by omega, by rw [Hds.out, HI.out]; exact hS, HF.out, hw⟩, by simp [intOf]; omega⟩
            · have hb3 : (ds[q] != n) = true := by simpa using he
              have HI := Lib.hid (insS_put He.out fun _ => he)
              have hne : ¬ c1 = q := by omega
              have HD := Lib.hid (show ds.length - q = (ds.drop q).length by simp)
              clear he
              go_wp2
              go_region_held3 (fun _ => True) (trivial)
                (first
                  | (go_at_call 114; refine (copyInts_n HQ.out (by omega) Hcap.out ((hV.pre q).toExt (by refine x'z ?_; repeat (with_reducible (first | exact x'a _ _ | exact x'b _ | exact x'c (by assumption) | refine x'd ?_ (by assumption) | refine x'e ?_ _ | refine x'f ?_ _ | refine x'g ?_ | refine x'h ?_ ?_ _ | refine x'i ?_ _ | refine x'j ?_ | refine x'k ?_ _ | refine x'l ?_ _ _ | refine x'm ?_ | assumption | (refine x'n ?_; omega) | omega))))).mono ?_; rintro e w2 ⟨v2, F2, rfl, hx2, hS2, hF2⟩)
                  | (refine step_appL (E := sI) (V := vI) (es := [n]) (by rfl) _ _ _ (by rfl) tI (by rfl) (hS2.toExt (by refine x'z ?_; repeat (with_reducible (first | exact x'a _ _ | exact x'b _ | exact x'c (by assumption) | refine x'd ?_ (by assumption) | refine x'e ?_ _ | refine x'f ?_ _ | refine x'g ?_ | refine x'h ?_ ?_ _ | refine x'i ?_ _ | refine x'j ?_ | refine x'k ?_ _ | refine x'l ?_ _ _ | refine x'm ?_ | assumption | (refine x'n ?_; omega) | omega)))) (by rfl) (by rfl) (fun h => by cases h) (RI.one (by repeat (with_reducible (first | assumption | exact BoxAt.new _ _ _ | apply BoxAt.set2 | refine BoxAt.set2' ?_ (by omega) | apply BoxAt.setP0 | apply BoxAt.setP1 | refine BoxAt.setO ?_ (by omega) | refine BoxAt.alloc ?_ _ | refine BoxAt.drew ?_ | refine BoxAt.toExt ?_ (by assumption))))) vI_s vI_1 (by rw [HQ.out]; omega) (by omega) ?_; intro v3 w3 F3 hS3 hC3 hF3)
                  | (refine step_appL (E := sI) (V := vI) (es := ds.drop q) (by rfl) _ _ _ (by rfl) tI (by rfl) hS3 (by rfl) HD.out (fun h => by cases h) (SV.toView ((hS.toExt (by refine x'z ?_; repeat (with_reducible (first | exact x'a _ _ | exact x'b _ | exact x'c (by assumption) | refine x'd ?_ (by assumption) | refine x'e ?_ _ | refine x'f ?_ _ | refine x'g ?_ | refine x'h ?_ ?_ _ | refine x'i ?_ _ | refine x'j ?_ | refine x'k ?_ _ | refine x'l ?_ _ _ | refine x'm ?_ | assumption | (refine x'n ?_; omega) | omega)))).chg hC3 (fun b hb hb2 => by have l1 := hSlt.out b hb; have l2 := hF2 b hb2; have l3 := size_of_ext (w0 := wr) (w := wr) (refl_ext _); simp at l2; omega)) sI_v |>.from (fun b o e _ => by injection e with e; injection e with e1 e2; subst e1 e2; simp)) vI_s vI_1 (by simp; omega) (by omega) ?_; intro v4 w4 F4 hS4 hC4 hF4))
              all_goals
                go_wp2
                have n2 : ∀ b ∈ F2, wr.heap.size ≤ b := fun b hb => Nat.le_trans (size_of_ext (by refine x'z ?_; repeat (with_reducible (first | exact x'a _ _ | exact x'b _ | exact x'c (by assumption) | refine x'd ?_ (by assumption) | refine x'e ?_ _ | refine x'f ?_ _ | refine x'g ?_ | refine x'h ?_ ?_ _ | refine x'i ?_ _ | refine x'j ?_ | refine x'k ?_ _ | refine x'l ?_ _ _ | refine x'm ?_ | assumption | (refine x'n ?_; omega) | omega)))) (hF2 b hb)
                have n3 : ∀ b ∈ F3, wr.heap.size ≤ b := newer n2 (size_of_ext (by refine x'z ?_; repeat (with_reducible (first | exact x'a _ _ | exact x'b _ | exact x'c (by assumption) | refine x'd ?_ (by assumption) | refine x'e ?_ _ | refine x'f ?_ _ | refine x'g ?_ | refine x'h ?_ ?_ _ | refine x'i ?_ _ | refine x'j ?_ | refine x'k ?_ _ | refine x'l ?_ _ _ | refine x'm ?_ | assumption | (refine x'n ?_; omega) | omega)))) hF3
                have hx3 : ∃ y, w3 = ext wr y := hC3.isExt (by refine x'z ?_; repeat (with_reducible (first | exact x'a _ _ | exact x'b _ | exact x'c (by assumption) | refine x'd ?_ (by assumption) | refine x'e ?_ _ | refine x'f ?_ _ | refine x'g ?_ | refine x'h ?_ ?_ _ | refine x'i ?_ _ | refine x'j ?_ | refine x'k ?_ _ | refine x'l ?_ _ _ | refine x'm ?_ | assumption | (refine x'n ?_; omega) | omega))) n2
                have hx4 : ∃ y, w4 = ext wr y := hC4.isExt hx3 n3
                have n4 := newer n3 (size_of_ext hx3) hF4
                exact ⟨⟨k + 1, F4, by go_num, by omega, by rw [Hds.out, HI.out]; exact hS4, fun b hb => Nat.le_trans (size_of_ext hw) (n4 b hb), trans_ext hw hx4⟩, by simp [intOf]; omega⟩
        · obtain rfl : q = ds.length := by omega
          have e := Hj.out
          rw [insK_end hql] at e
          have He := Lib.hid e.symm
          have HI := Lib.hid (insS_put He.out fun h => absurd h hql)
          have HD := Lib.hid (show 0 = (ds.drop ds.length).length by simp)
          clear e
          by_cases hcq : c1 = ds.length
          · subst hcq
            go_wp2
            go_region_held3 (fun _ => True) (trivial)
              (first
                | (go_at_call 114; refine (copyInts_n HQ.out (by omega) Hcap.out ((hV.pre ds.length).toExt (by refine x'z ?_; repeat (with_reducible (first | exact x'a _ _ | exact x'b _ | exact x'c (by assumption) | refine x'd ?_ (by assumption) | refine x'e ?_ _ | refine x'f ?_ _ | refine x'g ?_ | refine x'h ?_ ?_ _ | refine x'i ?_ _ | refine x'j ?_ | refine x'k ?_ _ | refine x'l ?_ _ _ | refine x'm ?_ | assumption | (refine x'n ?_; omega) | omega))))).mono ?_; rintro e w2 ⟨v2, F2, rfl, hx2, hS2, hF2⟩)
                | (refine step_appL (E := sI) (V := vI) (es := [n]) (by rfl) _ _ _ (by rfl) tI (by rfl) (hS2.toExt (by refine x'z ?_; repeat (with_reducible (first | exact x'a _ _ | exact x'b _ | exact x'c (by assumption) | refine x'd ?_ (by assumption) | refine x'e ?_ _ | refine x'f ?_ _ | refine x'g ?_ | refine x'h ?_ ?_ _ | refine x'i ?_ _ | refine x'j ?_ | refine x'k ?_ _ | refine x'l ?_ _ _ | refine x'm ?_ | assumption | (refine x'n ?_; omega) | omega)))) (by rfl) (by rfl) (fun h => by cases h) (RI.one (by repeat (with_reducible (first | assumption | exact BoxAt.new _ _ _ | apply BoxAt.set2 | refine BoxAt.set2' ?_ (by omega) | apply BoxAt.setP0 | apply BoxAt.setP1 | refine BoxAt.setO ?_ (by omega) | refine BoxAt.alloc ?_ _ | refine BoxAt.drew ?_ | refine BoxAt.toExt ?_ (by assumption))))) vI_s vI_1 (by rw [HQ.out]; omega) (by omega) ?_; intro v3 w3 F3 hS3 hC3 hF3)
                | (refine step_appL (E := sI) (V := vI) (es := ds.drop ds.length) (by rfl) _ _ _ (by rfl) tI (by rfl) hS3 (by rfl) HD.out (fun h => by have := Hcap.out h; omega) (SV.toView ((hS.toExt (by refine x'z ?_; repeat (with_reducible (first | exact x'a _ _ | exact x'b _ | exact x'c (by assumption) | refine x'd ?_ (by assumption) | refine x'e ?_ _ | refine x'f ?_ _ | refine x'g ?_ | refine x'h ?_ ?_ _ | refine x'i ?_ _ | refine x'j ?_ | refine x'k ?_ _ | refine x'l ?_ _ _ | refine x'm ?_ | assumption | (refine x'n ?_; omega) | omega)))).chg hC3 (fun b hb hb2 => by have l1 := hSlt.out b hb; have l2 := hF2 b hb2; have l3 := size_of_ext (w0 := wr) (w := wr) (refl_ext _); simp at l2; omega)) sI_v |>.from (fun b o e h => absurd h (by omega))) vI_s vI_1 (by simp; omega) (by omega) ?_; intro v4 w4 F4 hS4 hC4 hF4))
            all_goals
              go_wp2
              have n2 : ∀ b ∈ F2, wr.heap.size ≤ b := fun b hb => Nat.le_trans (size_of_ext (by refine x'z ?_; repeat (with_reducible (first | exact x'a _ _ | exact x'b _ | exact x'c (by assumption) | refine x'd ?_ (by assumption) | refine x'e ?_ _ | refine x'f ?_ _ | refine x'g ?_ | refine x'h ?_ ?_ _ | refine x'i ?_ _ | refine x'j ?_ | refine x'k ?_ _ | refine x'l ?_ _ _ | refine x'm ?_ | assumption | (refine x'n ?_; omega) | omega)))) (hF2 b hb)
              have n3 : ∀ b ∈ F3, wr.heap.size ≤ b := newer n2 (size_of_ext (by refine x'z ?_; repeat (with_reducible (first | exact x'a _ _ | exact x'b _ | exact x'c (by assumption) | refine x'd ?_ (by assumption) | refine x'e ?_ _ | refine x'f ?_ _ | refine x'g ?_ | refine x'h ?_ ?_ _ | refine x'i ?_ _ | refine x'j ?_ | refine x'k ?_ _ | refine x'l ?_ _ _ | refine x'm ?_ | assumption | (refine x'n ?_; omega) | omega)))) hF3
              have hx3 : ∃ y, w3 = ext wr y := hC3.isExt (by refine x'z ?_; repeat (with_reducible (first | exact x'a _ _ | exact x'b _ | exact x'c (by assumption) | refine x'd ?_ (by assumption) | refine x'e ?_ _ | refine x'f ?_ _ | refine x'g ?_ | refine x'h ?_ ?_ _ | refine x'i ?_ _ | refine x'j ?_ | refine x'k ?_ _ | refine x'l ?_ _ _ | refine x'm ?_ | assumption | (refine x'n ?_; omega) | omega))) n2
              have hx4 : ∃ y, w4 = ext wr y := hC4.isExt hx3 n3
              have n4 := newer n3 (size_of_ext hx3) hF4
              exact ⟨⟨k + 1, F4, by go_num, by omega, by rw [Hds.out, HI.out]; exact hS4, fun b hb => Nat.le_trans (size_of_ext hw) (n4 b hb), trans_ext hw hx4⟩, by simp [intOf]; omega⟩
          · obtain ⟨g, rfl⟩ : ∃ g, A1 = some ⟨g, 0, none⟩ := by
              rcases hS.place with ⟨_, h⟩ | h
              · omega
              · exact h
            have hc3 : ¬ c1 - ds.length = 0 := by omega
            go_wp2
            go_region_held3 (fun _ => True) (trivial)
              (first
                | (go_at_call 114; refine (copyInts_n HQ.out (by omega) Hcap.out ((hV.pre ds.length).toExt (by refine x'z ?_; repeat (with_reducible (first | exact x'a _ _ | exact x'b _ | exact x'c (by assumption) | refine x'd ?_ (by assumption) | refine x'e ?_ _ | refine x'f ?_ _ | refine x'g ?_ | refine x'h ?_ ?_ _ | refine x'i ?_ _ | refine x'j ?_ | refine x'k ?_ _ | refine x'l ?_ _ _ | refine x'm ?_ | assumption | (refine x'n ?_; omega) | omega))))).mono ?_; rintro e w2 ⟨v2, F2, rfl, hx2, hS2, hF2⟩)
                | (refine step_appL (E := sI) (V := vI) (es := [n]) (by rfl) _ _ _ (by rfl) tI (by rfl) (hS2.toExt (by refine x'z ?_; repeat (with_reducible (first | exact x'a _ _ | exact x'b _ | exact x'c (by assumption) | refine x'd ?_ (by assumption) | refine x'e ?_ _ | refine x'f ?_ _ | refine x'g ?_ | refine x'h ?_ ?_ _ | refine x'i ?_ _ | refine x'j ?_ | refine x'k ?_ _ | refine x'l ?_ _ _ | refine x'm ?_ | assumption | (refine x'n ?_; omega) | omega)))) (by rfl) (by rfl) (fun h => by cases h) (RI.one (by repeat (with_reducible (first | assumption | exact BoxAt.new _ _ _ | apply BoxAt.set2 | refine BoxAt.set2' ?_ (by omega) | apply BoxAt.setP0 | apply BoxAt.setP1 | refine BoxAt.setO ?_ (by omega) | refine BoxAt.alloc ?_ _ | refine BoxAt.drew ?_ | refine BoxAt.toExt ?_ (by assumption))))) vI_s vI_1 (by rw [HQ.out]; omega) (by omega) ?_; intro v3 w3 F3 hS3 hC3 hF3)
                | (refine step_appL (E := sI) (V := vI) (es := ds.drop ds.length) (by rfl) _ _ _ (by rfl) tI (by rfl) hS3 (by rfl) HD.out (fun h => by cases h) (SV.toView ((hS.toExt (by refine x'z ?_; repeat (with_reducible (first | exact x'a _ _ | exact x'b _ | exact x'c (by assumption) | refine x'd ?_ (by assumption) | refine x'e ?_ _ | refine x'f ?_ _ | refine x'g ?_ | refine x'h ?_ ?_ _ | refine x'i ?_ _ | refine x'j ?_ | refine x'k ?_ _ | refine x'l ?_ _ _ | refine x'm ?_ | assumption | (refine x'n ?_; omega) | omega)))).chg hC3 (fun b hb hb2 => by have l1 := hSlt.out b hb; have l2 := hF2 b hb2; have l3 := size_of_ext (w0 := wr) (w := wr) (refl_ext _); simp at l2; omega)) sI_v |>.from (fun b o e h => absurd h (by omega))) vI_s vI_1 (by simp; omega) (by omega) ?_; intro v4 w4 F4 hS4 hC4 hF4))
            all_goals
              go_wp2
              have n2 : ∀ b ∈ F2, wr.heap.size ≤ b := fun b hb => Nat.le_trans (size_of_ext (by refine x'z ?_; repeat (with_reducible (first | exact x'a _ _ | exact x'b _ | exact x'c (by assumption) | refine x'd ?_ (by assumption) | refine x'e ?_ _ | refine x'f ?_ _ | refine x'g ?_ | refine x'h ?_ ?_ _ | refine x'i ?_ _ | refine x'j ?_ | refine x'k ?_ _ | refine x'l ?_ _ _ | refine x'm ?_ | assumption | (refine x'n ?_; omega) | omega)))) (hF2 b hb)
              have n3 : ∀ b ∈ F3, wr.heap.size ≤ b := newer n2 (size_of_ext (by refine x'z ?_; repeat (with_reducible (first | exact x'a _ _ | exact x'b _ | exact x'c (by assumption) | refine x'd ?_ (by assumption) | refine x'e ?_ _ | refine x'f ?_ _ | refine x'g ?_ | refine x'h ?_ ?_ _ | refine x'i ?_ _ | refine x'j ?_ | refine x'k ?_ _ | refine x'l ?_ _ _ | refine x'm ?_ | assumption | (refine x'n ?_; omega) | omega)))) hF3
              have hx3 : ∃ y, w3 = ext wr y := hC3.isExt (by refine x'z ?_; repeat (with_reducible (first | exact x'a _ _ | exact x'b _ | exact x'c (by assumption) | refine x'd ?_ (by assumption) | refine x'e ?_ _ | refine x'f ?_ _ | refine x'g ?_ | refine x'h ?_ ?_ _ | refine x'i ?_ _ | refine x'j ?_ | refine x'k ?_ _ | refine x'l ?_ _ _ | refine x'm ?_ | assumption | (refine x'n ?_; omega) | omega))) n2
              have hx4 : ∃ y, w4 = ext wr y := hC4.isExt hx3 n3
              have n4 := newer n3 (size_of_ext hx3) hF4
              exact ⟨⟨k + 1, F4, by go_num, by omega, by rw [Hds.out, HI.out]; exact hS4, fun b hb => Nat.le_trans (size_of_ext hw) (n4 b hb), trans_ext hw hx4⟩, by simp [intOf]; omega⟩
    · rw [show ys.take k = ys from List.take_of_length_le (by omega)] at hS
      go_wp2
      go_ret
      exact ⟨_, F, rfl, hw, hS, HF.out⟩
theorem unite_any {A A' : Option Addr} {c c' : Nat} {xs ys : List Int} {w : World} (hx : xs.length ≤ 100000000) (_hA : A = none → c = 0) (h1 : RI w A xs) (hy : ys.length ≤ 100000000) (h2 : RI w A' ys) :
    Calls Try.prog 115 #[.slice A xs.length c, .slice A' ys.length c'] w fun e w' => ∃ v F, e = .returned v ∧ (∃ y, w' = ext w y) ∧ SV 3 1 sI w' v (uniL xs ys) F ∧ ∀ b ∈ F, w.heap.size ≤ b := unite_v hx h1 hy h2
end Go.Proofs.Ytfigcfajkilhiaa
