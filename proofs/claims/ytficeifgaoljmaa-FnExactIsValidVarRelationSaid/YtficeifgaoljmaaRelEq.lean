/- Relations compared; the program's way and the reference's. -/
import Derived.Test.YtficeifgaoljmaaRelT
import Derived.Test.YtficeifgaoljmaaCmp
namespace Go.Proofs.Ytficeifgaoljmaa
open Go.RowKit

theorem quietEj {P : Program} {f : FuncId} {args : Array Value} {w y : World} {m n : Int}
    (h : Calls P f args (ext w y) fun e w' => e = .returned (.int .i64 m) ∧ ∃ z, w' = ext (ext w y) z) (hc : m = n) : Calls P f args (ext w y) fun e w' => e = .returned (.int .i64 n) ∧ ∃ z, w' = ext w z := by
  subst hc; exact quietE h
set_option maxHeartbeats 1000000 in
theorem sameRows_any {A A' : Option Addr} {c c' : Nat} {xs ys : List (List Int)} {w : World} (hx : xs.length ≤ 1000000000) (hxl : ∀ x ∈ xs, x.length ≤ 1000000000) (h1 : RII w A xs) (hy : ys.length ≤ 1000000000) (hyl : ∀ x ∈ ys, x.length ≤ 1000000000) (h2 : RII w A' ys) :
    Calls Try.prog 28 #[.slice A xs.length c, .slice A' ys.length c'] w fun e w' => e = .returned (.bool (decide (xs = ys))) ∧ ∃ y, w' = ext w y := by
  have Hxl := Lib.hid hxl
  have Hyl := Lib.hid hyl
  clear hxl hyl
  by_cases hl : xs.length = ys.length
  · have hn : ((xs.length : Int) != (ys.length : Int)) = false := by simp [hl]
    have hl2 : ys.length ≤ xs.length := by omega
    have hl3 : xs.length ≤ ys.length := by omega
    have HL := Lib.hid hl
    clear hl
    go_enter Try.func28, Try.ntmps28
    go_wp2
    go_loopw [13] (fun i wr => ∃ k : Nat, i = .int .i64 k ∧ k ≤ xs.length ∧ xs.take k = ys.take k ∧ ∃ y, wr = ext w y) (fun i _ => xs.length - (intOf i).toNat)
    case atStart => exact ⟨0, rfl, by omega, by simp, refl_ext w⟩
    case round =>
      obtain ⟨k, rfl, hk, ht, hw⟩ := hrel
      have Ht := Lib.hid ht
      clear ht
      by_cases hlt : k < xs.length
      · have hlt2 : k < ys.length := by omega
        obtain ⟨b, o, A1, c1, rfl, hb, hc, hv⟩ := (h1.toExt hw).atV hlt
        obtain ⟨b', o', A2, c2, rfl, hb', hc', hv'⟩ := (h2.toExt hw).atV hlt2
        have lx := Hxl.out xs[k] (List.getElem_mem hlt)
        have ly := Hyl.out ys[k] (List.getElem_mem hlt2)
        have HS := Lib.hid (fun he : xs[k] = ys[k] => take_snoc_eq hlt hlt2 Ht.out he)
        have HNE := Lib.hid (fun he : ¬ xs[k] = ys[k] => ne_of_at hlt hlt2 he)
        obtain ⟨x, hx1⟩ : ∃ x, xs[k] = x := ⟨_, rfl⟩
        obtain ⟨y, hy1⟩ : ∃ y, ys[k] = y := ⟨_, rfl⟩
        rw [hx1] at hc hv lx HS HNE
        rw [hy1] at hc' hv' ly HS HNE
        obtain ⟨t, ht⟩ : ∃ t, decide (x = y) = t := ⟨_, rfl⟩
        have NT := Lib.hid ht
        clear hx1 hy1 ht
        cases t with
        | true =>
          go_wp2
          refine wp_region_ext (by kernel_rfl) (by kernel_rfl) ?_
          repeat (go_big_quiet_step ((go_at_call 18; exact quietEb (sameInts_any lx hv.ext ly hv'.ext) NT.out)))
          refine wpQuiet_nil ?_
          rintro _ ⟨z, rfl⟩
          go_wp2
          exact ⟨⟨k + 1, by go_num, by omega, HS.out (by simpa using NT.out), (by refine Chg.isExt (F := []) ?_ (refl_ext _) (by simp); repeat (with_reducible (first | exact Chg.refl _ _ | exact Nat.le_refl _ | exact Chg.ofExt (by assumption) | refine Chg.trans0 ?_ (by assumption) | refine Chg.extS ?_ _ | refine Chg.alloc ?_ _ | refine Chg.drew ?_ | refine Chg.setCellE ?_ ?_ _ | refine le_addk ?_ _ | refine le_ext ?_ | refine le_alloc ?_ _ | refine le_setC ?_ _ _ | refine le_drew ?_ | assumption | (refine Nat.le_of_lt ?_; omega) | omega)))⟩, by simp [intOf]; omega⟩
        | false =>
          go_wp2
          refine wp_region_ext (by kernel_rfl) (by kernel_rfl) ?_
          repeat (go_big_quiet_step ((go_at_call 18; exact quietEb (sameInts_any lx hv.ext ly hv'.ext) NT.out)))
          refine wpQuiet_nil ?_
          rintro _ ⟨z, rfl⟩
          go_wp2
          go_ret
          exact ⟨by rw [decide_eq_false (HNE.out (by simpa using NT.out))]; rfl, (by refine Chg.isExt (F := []) ?_ (refl_ext _) (by simp); repeat (with_reducible (first | exact Chg.refl _ _ | exact Nat.le_refl _ | exact Chg.ofExt (by assumption) | refine Chg.trans0 ?_ (by assumption) | refine Chg.extS ?_ _ | refine Chg.alloc ?_ _ | refine Chg.drew ?_ | refine Chg.setCellE ?_ ?_ _ | refine le_addk ?_ _ | refine le_ext ?_ | refine le_alloc ?_ _ | refine le_setC ?_ _ _ | refine le_drew ?_ | assumption | (refine Nat.le_of_lt ?_; omega) | omega)))⟩
      · go_wp2
        go_ret
        exact ⟨by rw [decide_eq_true (all_eq HL.out hlt Ht.out)]; rfl, hw⟩
  · have hn : ((xs.length : Int) != (ys.length : Int)) = true := by simp; omega
    go_enter Try.func28, Try.ntmps28
    go_wp2
    go_ret
    exact ⟨by rw [decide_eq_false (by rintro rfl; exact hl rfl)]; rfl, refl_ext w⟩
set_option maxHeartbeats 1000000 in
theorem EqualRelations_any {A A' : Option Addr} {c c' : Nat} {d d' : Rd} {w : World} (hb : BRel d) (h : vRel w [.int .i64 d.1, .slice A d.2.length c] d) (hb' : BRel d') (h' : vRel w [.int .i64 d'.1, .slice A' d'.2.length c'] d') :
    Calls Try.prog 19 #[.agg #[.int .i64 d.1, .slice A d.2.length c], .agg #[.int .i64 d'.1, .slice A' d'.2.length c']] w fun e w' => e = .returned (.bool (decide (d = d'))) ∧ ∃ y, w' = ext w y := by
  have r1 := (vII_get (vRel_get h).2).2
  have s1 := (vII_get (vRel_get h').2).2
  have b1 := hb.2
  have p1 := hb'.2
  have HD := Lib.hid (show decide (d = d') = (decide (d.1 = d'.1) && decide (d.2 = d'.2)) by
    rw [Bool.eq_iff_iff]
    simp [Prod.ext_iff])
  obtain ⟨z, rows⟩ := d
  obtain ⟨z', rows'⟩ := d'
  dsimp only at r1 s1 b1 p1 HD ⊢
  have B1 := Lib.hid b1.big
  have P1' := Lib.hid p1.big
  have m1 : rows.length ≤ 1000000000 := Nat.le_trans b1.1 (by omega)
  have m2 : rows'.length ≤ 1000000000 := Nat.le_trans p1.1 (by omega)
  obtain ⟨t1, ht1⟩ : ∃ t, decide (z = z') = t := ⟨_, rfl⟩
  obtain ⟨t2, ht2⟩ : ∃ t, decide (rows = rows') = t := ⟨_, rfl⟩
  have D2 := Lib.hid ht2
  have hq0 : (z == z') = t1 := by rw [← ht1]; rfl
  have hq : (z != z') = !t1 := by rw [← ht1]; by_cases q : z = z' <;> simp [q]
  have HE := Lib.hid (show decide ((z, rows) = (z', rows')) = (t1 && t2) by rw [HD.out, ht1, ht2])
  clear h h' hb hb' b1 p1 ht1 ht2 HD
  cases t1
  all_goals
    go_enter Try.func19, Try.ntmps19
    go_upto_region 1 with fail
    refine wp_name ?_
    intro W hW
    have xW : ∃ y, W = ext w y := by rw [hW.out]; exact (by refine Chg.isExt (F := []) ?_ (refl_ext _) (by simp); repeat (with_reducible (first | exact Chg.refl _ _ | exact Nat.le_refl _ | exact Chg.ofExt (by assumption) | refine Chg.trans0 ?_ (by assumption) | refine Chg.extS ?_ _ | refine Chg.alloc ?_ _ | refine Chg.drew ?_ | refine Chg.setCellE ?_ ?_ _ | refine le_addk ?_ _ | refine le_ext ?_ | refine le_alloc ?_ _ | refine le_setC ?_ _ _ | refine le_drew ?_ | assumption | (refine Nat.le_of_lt ?_; omega) | omega)))
    have BW0 : BoxAt W (w.heap.size) #[.int .i64 z, .slice A rows.length c] := by rw [hW.out]; refine ⟨?_, fun j => ?_, fun j => ?_⟩ <;> go_simp
    obtain ⟨lW0, bW0, fW0⟩ := BW0
    have cW0_0 : W.cell? ⟨w.heap.size, 0, none⟩ = some (.int .i64 z) := bW0 0
    have cW0_1 : W.cell? ⟨w.heap.size, 1, none⟩ = some (.slice A rows.length c) := bW0 1
    have BW1 : BoxAt W (w.heap.size + 1) #[.int .i64 z', .slice A' rows'.length c'] := by rw [hW.out]; refine ⟨?_, fun j => ?_, fun j => ?_⟩ <;> go_simp
    obtain ⟨lW1, bW1, fW1⟩ := BW1
    have cW1_0 : W.cell? ⟨w.heap.size + 1, 0, none⟩ = some (.int .i64 z') := bW1 0
    have cW1_1 : W.cell? ⟨w.heap.size + 1, 1, none⟩ = some (.slice A' rows'.length c') := bW1 1
    clear hW
    go_wp2_with (go_at_call 28; refine (sameRows_any m1 B1.out (r1.toExt (by refine Chg.isExt (F := []) ?_ (refl_ext _) (by simp); repeat (with_reducible (first | exact Chg.refl _ _ | exact Nat.le_refl _ | exact Chg.ofExt (by assumption) | refine Chg.trans0 ?_ (by assumption) | refine Chg.extS ?_ _ | refine Chg.alloc ?_ _ | refine Chg.drew ?_ | refine Chg.setCellE ?_ ?_ _ | refine le_addk ?_ _ | refine le_ext ?_ | refine le_alloc ?_ _ | refine le_setC ?_ _ _ | refine le_drew ?_ | assumption | (refine Nat.le_of_lt ?_; omega) | omega)))) m2 P1'.out (s1.toExt (by refine Chg.isExt (F := []) ?_ (refl_ext _) (by simp); repeat (with_reducible (first | exact Chg.refl _ _ | exact Nat.le_refl _ | exact Chg.ofExt (by assumption) | refine Chg.trans0 ?_ (by assumption) | refine Chg.extS ?_ _ | refine Chg.alloc ?_ _ | refine Chg.drew ?_ | refine Chg.setCellE ?_ ?_ _ | refine le_addk ?_ _ | refine le_ext ?_ | refine le_alloc ?_ _ | refine le_setC ?_ _ _ | refine le_drew ?_ | assumption | (refine Nat.le_of_lt ?_; omega) | omega))))).mono ?_; rintro e w1 ⟨rfl, hx1⟩; rw [D2.out])
    go_ret
    exact ⟨by rw [HE.out]; rfl, (by refine Chg.isExt (F := []) ?_ (refl_ext _) (by simp); repeat (with_reducible (first | exact Chg.refl _ _ | exact Nat.le_refl _ | exact Chg.ofExt (by assumption) | refine Chg.trans0 ?_ (by assumption) | refine Chg.extS ?_ _ | refine Chg.alloc ?_ _ | refine Chg.drew ?_ | refine Chg.setCellE ?_ ?_ _ | refine le_addk ?_ _ | refine le_ext ?_ | refine le_alloc ?_ _ | refine le_setC ?_ _ _ | refine le_drew ?_ | assumption | (refine Nat.le_of_lt ?_; omega) | omega)))⟩
set_option maxHeartbeats 4000000 in
theorem specEqualRelations_any {A A' : Option Addr} {c c' : Nat} {d d' : Rd} {w : World} (hb : BRel d) (h : vRel w [.int .i64 d.1, .slice A d.2.length c] d) (hb' : BRel d') (h' : vRel w [.int .i64 d'.1, .slice A' d'.2.length c'] d') :
    Calls Try.prog 15 #[.agg #[.int .i64 d.1, .slice A d.2.length c], .agg #[.int .i64 d'.1, .slice A' d'.2.length c']] w fun e w' => e = .returned (.bool (decide (d = d'))) ∧ ∃ y, w' = ext w y := by
  have r1 := (vII_get (vRel_get h).2).2
  have s1 := (vII_get (vRel_get h').2).2
  have b1 := hb.2
  have p1 := hb'.2
  have HD := Lib.hid (show decide (d = d') = (decide (d.1 = d'.1) && decide (d.2 = d'.2)) by
    rw [Bool.eq_iff_iff]
    simp [Prod.ext_iff])
  obtain ⟨z, rows⟩ := d
  obtain ⟨z', rows'⟩ := d'
  dsimp only at r1 s1 b1 p1 HD ⊢
  have B1 := Lib.hid b1.big
  have P1' := Lib.hid p1.big
  have m1 : rows.length ≤ 1000000000 := Nat.le_trans b1.1 (by omega)
  have m2 : rows'.length ≤ 1000000000 := Nat.le_trans p1.1 (by omega)
  obtain ⟨t1, ht1⟩ : ∃ t, decide (z = z') = t := ⟨_, rfl⟩
  obtain ⟨t2, ht2⟩ : ∃ t, decide (rows = rows') = t := ⟨_, rfl⟩
  have D2 := Lib.hid ht2
  have hq0 : (z == z') = t1 := by rw [← ht1]; rfl
  have hq : (z != z') = !t1 := by rw [← ht1]; by_cases q : z = z' <;> simp [q]
  have HE := Lib.hid (show decide ((z, rows) = (z', rows')) = (t1 && t2) by rw [HD.out, ht1, ht2])
  clear h h' hb hb' b1 p1 ht1 ht2 HD
  cases t1 with
  | false =>
    go_enter Try.func15, Try.ntmps15
    go_wp2
    go_ret
    exact ⟨by rw [HE.out]; rfl, (by refine Chg.isExt (F := []) ?_ (refl_ext _) (by simp); repeat (with_reducible (first | exact Chg.refl _ _ | exact Nat.le_refl _ | exact Chg.ofExt (by assumption) | refine Chg.trans0 ?_ (by assumption) | refine Chg.extS ?_ _ | refine Chg.alloc ?_ _ | refine Chg.drew ?_ | refine Chg.setCellE ?_ ?_ _ | refine le_addk ?_ _ | refine le_ext ?_ | refine le_alloc ?_ _ | refine le_setC ?_ _ _ | refine le_drew ?_ | assumption | (refine Nat.le_of_lt ?_; omega) | omega)))⟩
  | true =>
    by_cases hl : rows.length = rows'.length
    · have hn : ((rows.length : Int) != (rows'.length : Int)) = false := by simp [hl]
      have hl2 : rows'.length ≤ rows.length := by omega
      have hl3 : rows.length ≤ rows'.length := by omega
      have HL := Lib.hid hl
      clear hl
      go_enter Try.func15, Try.ntmps15
      go_upto_region 1 with fail
      refine wp_name ?_
      intro W hW
      have xW : ∃ y, W = ext w y := by rw [hW.out]; exact (by refine Chg.isExt (F := []) ?_ (refl_ext _) (by simp); repeat (with_reducible (first | exact Chg.refl _ _ | exact Nat.le_refl _ | exact Chg.ofExt (by assumption) | refine Chg.trans0 ?_ (by assumption) | refine Chg.extS ?_ _ | refine Chg.alloc ?_ _ | refine Chg.drew ?_ | refine Chg.setCellE ?_ ?_ _ | refine le_addk ?_ _ | refine le_ext ?_ | refine le_alloc ?_ _ | refine le_setC ?_ _ _ | refine le_drew ?_ | assumption | (refine Nat.le_of_lt ?_; omega) | omega)))
      have BW0 : BoxAt W (w.heap.size) #[.int .i64 z, .slice A rows.length c] := by rw [hW.out]; refine ⟨?_, fun j => ?_, fun j => ?_⟩ <;> go_simp
      obtain ⟨lW0, bW0, fW0⟩ := BW0
      have cW0_0 : W.cell? ⟨w.heap.size, 0, none⟩ = some (.int .i64 z) := bW0 0
      have cW0_1 : W.cell? ⟨w.heap.size, 1, none⟩ = some (.slice A rows.length c) := bW0 1
      have BW1 : BoxAt W (w.heap.size + 1) #[.int .i64 z', .slice A' rows'.length c'] := by rw [hW.out]; refine ⟨?_, fun j => ?_, fun j => ?_⟩ <;> go_simp
      obtain ⟨lW1, bW1, fW1⟩ := BW1
      have cW1_0 : W.cell? ⟨w.heap.size + 1, 0, none⟩ = some (.int .i64 z') := bW1 0
      have cW1_1 : W.cell? ⟨w.heap.size + 1, 1, none⟩ = some (.slice A' rows'.length c') := bW1 1
      clear hW
      have PW : BoxAt W w.heap.size #[.int .i64 z, .slice A rows.length c] := ⟨lW0, bW0, fW0⟩
      have QW : BoxAt W (w.heap.size + 1) #[.int .i64 z', .slice A' rows'.length c'] := ⟨lW1, bW1, fW1⟩
      go_wp2
      clear lW0 bW0 fW0 cW0_0 cW0_1 lW1 bW1 fW1 cW1_0 cW1_1
      go_loopw [5] (fun i wr => ∃ k : Nat, i = .int .i64 k ∧ k ≤ rows.length ∧ Hid (rows.take k = rows'.take k) ∧ ∃ y, wr = ext W y) (fun i _ => rows.length - (intOf i).toNat)
      case atStart => exact ⟨0, rfl, by omega, Lib.hid (by simp), refl_ext W⟩
      case round =>
        obtain ⟨k, rfl, hk, Ht, hy⟩ := hrel
        obtain ⟨l1, a1, a1', f1⟩ := bx2 (PW.toExt hy)
        obtain ⟨l2, a2, a2', f2⟩ := bx2 (QW.toExt hy)
        by_cases hlt : k < rows.length
        · have hlt2 : k < rows'.length := by omega
          obtain ⟨b, o, A1, c1, rfl, hb, hc, hv⟩ := (r1.toExt (trans_ext xW hy)).atV hlt
          obtain ⟨b', o', A2, c2, rfl, hb', hc', hv'⟩ := (s1.toExt (trans_ext xW hy)).atV hlt2
          have lx := B1.out rows[k] (List.getElem_mem hlt)
          have ly := P1'.out rows'[k] (List.getElem_mem hlt2)
          have HS := Lib.hid (fun he : rows[k] = rows'[k] => take_snoc_eq hlt hlt2 Ht.out he)
          have HNE := Lib.hid (fun he : ¬ rows[k] = rows'[k] => ne_of_at hlt hlt2 he)
          obtain ⟨x, hx1⟩ : ∃ x, rows[k] = x := ⟨_, rfl⟩
          obtain ⟨y, hy1⟩ : ∃ y, rows'[k] = y := ⟨_, rfl⟩
          rw [hx1] at hc hv lx HS HNE
          rw [hy1] at hc' hv' ly HS HNE
          obtain ⟨C, hC⟩ : ∃ C, cmpL x y = C := ⟨_, rfl⟩
          have HC := Lib.hid hC
          have HZ := Lib.hid (show C = 0 ↔ x = y by rw [← hC]; exact cmpL_zero)
          clear hx1 hy1 hC
          by_cases h0 : C = 0
          · have HXY := Lib.hid (HZ.out.1 h0)
            subst h0
            go_wp2
            refine wp_region_ext (by kernel_rfl) (by kernel_rfl) ?_
            repeat (go_big_quiet_step ((go_at_call 14; exact quietEj (specCompareRows_any lx hv.ext ly hv'.ext) HC.out)))
            refine wpQuiet_nil ?_
            rintro _ ⟨z, rfl⟩
            go_wp2
            exact ⟨⟨k + 1, by go_num, by omega, Lib.hid (HS.out HXY.out), (by refine Chg.isExt (F := []) ?_ (refl_ext _) (by simp); repeat (with_reducible (first | exact Chg.refl _ _ | exact Nat.le_refl _ | exact Chg.ofExt (by assumption) | refine Chg.trans0 ?_ (by assumption) | refine Chg.extS ?_ _ | refine Chg.alloc ?_ _ | refine Chg.drew ?_ | refine Chg.setCellE ?_ ?_ _ | refine le_addk ?_ _ | refine le_ext ?_ | refine le_alloc ?_ _ | refine le_setC ?_ _ _ | refine le_drew ?_ | assumption | (refine Nat.le_of_lt ?_; omega) | omega)))⟩, by simp [intOf]; omega⟩
          · have h9 : (C != 0) = true := by simpa using h0
            have HN0 := Lib.hid h0
            clear h0
            go_wp2
            refine wp_region_ext (by kernel_rfl) (by kernel_rfl) ?_
            repeat (go_big_quiet_step ((go_at_call 14; exact quietEj (specCompareRows_any lx hv.ext ly hv'.ext) HC.out)))
            refine wpQuiet_nil ?_
            rintro _ ⟨z, rfl⟩
            go_wp2
            go_ret
            exact ⟨by rw [HE.out, ← D2.out, decide_eq_false (HNE.out (fun e => HN0.out (HZ.out.2 e)))]; rfl, (by refine Chg.isExt (F := []) ?_ (refl_ext _) (by simp); repeat (with_reducible (first | exact Chg.refl _ _ | exact Nat.le_refl _ | exact Chg.ofExt (by assumption) | refine Chg.trans0 ?_ (by assumption) | refine Chg.extS ?_ _ | refine Chg.alloc ?_ _ | refine Chg.drew ?_ | refine Chg.setCellE ?_ ?_ _ | refine le_addk ?_ _ | refine le_ext ?_ | refine le_alloc ?_ _ | refine le_setC ?_ _ _ | refine le_drew ?_ | assumption | (refine Nat.le_of_lt ?_; omega) | omega)))⟩
        · go_wp2
          go_ret
          exact ⟨by rw [HE.out, ← D2.out, decide_eq_true (all_eq HL.out hlt Ht.out)]; rfl, trans_ext xW hy⟩
    · have hn : ((rows.length : Int) != (rows'.length : Int)) = true := by simp; omega
      have HN := Lib.hid (show t2 = false by rw [← D2.out, decide_eq_false (by rintro rfl; exact hl rfl)])
      clear hl
      go_enter Try.func15, Try.ntmps15
      go_wp2
      go_ret
      exact ⟨by rw [HE.out, HN.out]; rfl, (by refine Chg.isExt (F := []) ?_ (refl_ext _) (by simp); repeat (with_reducible (first | exact Chg.refl _ _ | exact Nat.le_refl _ | exact Chg.ofExt (by assumption) | refine Chg.trans0 ?_ (by assumption) | refine Chg.extS ?_ _ | refine Chg.alloc ?_ _ | refine Chg.drew ?_ | refine Chg.setCellE ?_ ?_ _ | refine le_addk ?_ _ | refine le_ext ?_ | refine le_alloc ?_ _ | refine le_setC ?_ _ _ | refine le_drew ?_ | assumption | (refine Nat.le_of_lt ?_; omega) | omega)))⟩
set_option maxHeartbeats 1000000 in
theorem EqualVarRelations_any {A B A' B' : Option Addr} {a b a' b' : Nat} {d d' : VRd} {w : World} (hb : BVR d) (h : vVR w [.slice A d.1.length a, .int .i64 d.2.1, .slice B d.2.2.length b] d) (hb' : BVR d') (h' : vVR w [.slice A' d'.1.length a', .int .i64 d'.2.1, .slice B' d'.2.2.length b'] d') :
    Calls Try.prog 8 #[.agg #[.slice A d.1.length a, .int .i64 d.2.1, .slice B d.2.2.length b], .agg #[.slice A' d'.1.length a', .int .i64 d'.2.1, .slice B' d'.2.2.length b']] w fun e w' => e = .returned (.bool (decide (d = d'))) ∧ ∃ y, w' = ext w y := by
  obtain ⟨r1, r2, _⟩ := vVR_get h
  obtain ⟨s1, s2, _⟩ := vVR_get h'
  obtain ⟨b1, b2⟩ := hb
  obtain ⟨p1, p2⟩ := hb'
  have m1 : d.1.length ≤ 1000000000 := by omega
  have m2 : d'.1.length ≤ 1000000000 := by omega
  have HD := Lib.hid (show decide (d = d') = (decide (d.1 = d'.1) && decide (d.2 = d'.2)) by
    rw [Bool.eq_iff_iff]
    simp [Prod.ext_iff])
  obtain ⟨t1, ht1⟩ : ∃ t, decide (d.1 = d'.1) = t := ⟨_, rfl⟩
  obtain ⟨t2, ht2⟩ : ∃ t, decide (d.2 = d'.2) = t := ⟨_, rfl⟩
  have D1 := Lib.hid ht1
  have D2 := Lib.hid ht2
  have HE := Lib.hid (show decide (d = d') = (t1 && t2) by rw [HD.out, ht1, ht2])
  clear h h' ht1 ht2 HD
  cases t1
  all_goals
    go_enter Try.func8, Try.ntmps8
    go_upto_region 1 with fail
    refine wp_name ?_
    intro W hW
    have xW : ∃ y, W = ext w y := by rw [hW.out]; exact (by refine Chg.isExt (F := []) ?_ (refl_ext _) (by simp); repeat (with_reducible (first | exact Chg.refl _ _ | exact Nat.le_refl _ | exact Chg.ofExt (by assumption) | refine Chg.trans0 ?_ (by assumption) | refine Chg.extS ?_ _ | refine Chg.alloc ?_ _ | refine Chg.drew ?_ | refine Chg.setCellE ?_ ?_ _ | refine le_addk ?_ _ | refine le_ext ?_ | refine le_alloc ?_ _ | refine le_setC ?_ _ _ | refine le_drew ?_ | assumption | (refine Nat.le_of_lt ?_; omega) | omega)))
    have BW0 : BoxAt W (w.heap.size) #[.slice A d.1.length a, .int .i64 d.2.1, .slice B d.2.2.length b] := by rw [hW.out]; refine ⟨?_, fun j => ?_, fun j => ?_⟩ <;> go_simp
    obtain ⟨lW0, bW0, fW0⟩ := BW0
    have cW0_0 : W.cell? ⟨w.heap.size, 0, none⟩ = some (.slice A d.1.length a) := bW0 0
    have cW0_1 : W.cell? ⟨w.heap.size, 1, none⟩ = some (.int .i64 d.2.1) := bW0 1
    have cW0_2 : W.cell? ⟨w.heap.size, 2, none⟩ = some (.slice B d.2.2.length b) := bW0 2
    have BW1 : BoxAt W (w.heap.size + 1) #[.slice A' d'.1.length a', .int .i64 d'.2.1, .slice B' d'.2.2.length b'] := by rw [hW.out]; refine ⟨?_, fun j => ?_, fun j => ?_⟩ <;> go_simp
    obtain ⟨lW1, bW1, fW1⟩ := BW1
    have cW1_0 : W.cell? ⟨w.heap.size + 1, 0, none⟩ = some (.slice A' d'.1.length a') := bW1 0
    have cW1_1 : W.cell? ⟨w.heap.size + 1, 1, none⟩ = some (.int .i64 d'.2.1) := bW1 1
    have cW1_2 : W.cell? ⟨w.heap.size + 1, 2, none⟩ = some (.slice B' d'.2.2.length b') := bW1 2
    clear hW
    go_wp2_with (first
      | (go_at_call 18; (with_reducible refine (sameInts_any m1 (r1.toExt ?_) m2 (s1.toExt ?_)).mono ?_); (focus (exact (by refine Chg.isExt (F := []) ?_ (refl_ext _) (by simp); repeat (with_reducible (first | exact Chg.refl _ _ | exact Nat.le_refl _ | exact Chg.ofExt (by assumption) | refine Chg.trans0 ?_ (by assumption) | refine Chg.extS ?_ _ | refine Chg.alloc ?_ _ | refine Chg.drew ?_ | refine Chg.setCellE ?_ ?_ _ | refine le_addk ?_ _ | refine le_ext ?_ | refine le_alloc ?_ _ | refine le_setC ?_ _ _ | refine le_drew ?_ | assumption | (refine Nat.le_of_lt ?_; omega) | omega))))); (focus (exact (by refine Chg.isExt (F := []) ?_ (refl_ext _) (by simp); repeat (with_reducible (first | exact Chg.refl _ _ | exact Nat.le_refl _ | exact Chg.ofExt (by assumption) | refine Chg.trans0 ?_ (by assumption) | refine Chg.extS ?_ _ | refine Chg.alloc ?_ _ | refine Chg.drew ?_ | refine Chg.setCellE ?_ ?_ _ | refine le_addk ?_ _ | refine le_ext ?_ | refine le_alloc ?_ _ | refine le_setC ?_ _ _ | refine le_drew ?_ | assumption | (refine Nat.le_of_lt ?_; omega) | omega))))); rintro e w1 ⟨rfl, hx1⟩; rw [D1.out]; have P1 := BoxAt.toExt (cs := #[.slice A d.1.length a, .int .i64 d.2.1, .slice B d.2.2.length b]) ⟨lW0, bW0, fW0⟩ hx1; have Q1 := BoxAt.toExt (cs := #[.slice A' d'.1.length a', .int .i64 d'.2.1, .slice B' d'.2.2.length b']) ⟨lW1, bW1, fW1⟩ hx1; obtain ⟨l1, a1, a1', a1'', f1⟩ := box3 P1; obtain ⟨o1, z1, z1', z1'', g1⟩ := box3 Q1)
      | (go_at_call 19; refine (EqualRelations_any b2 (VD.toExt r2 (by refine Chg.isExt (F := []) ?_ (refl_ext _) (by simp); repeat (with_reducible (first | exact Chg.refl _ _ | exact Nat.le_refl _ | exact Chg.ofExt (by assumption) | refine Chg.trans0 ?_ (by assumption) | refine Chg.extS ?_ _ | refine Chg.alloc ?_ _ | refine Chg.drew ?_ | refine Chg.setCellE ?_ ?_ _ | refine le_addk ?_ _ | refine le_ext ?_ | refine le_alloc ?_ _ | refine le_setC ?_ _ _ | refine le_drew ?_ | assumption | (refine Nat.le_of_lt ?_; omega) | omega)))) p2 (VD.toExt s2 (by refine Chg.isExt (F := []) ?_ (refl_ext _) (by simp); repeat (with_reducible (first | exact Chg.refl _ _ | exact Nat.le_refl _ | exact Chg.ofExt (by assumption) | refine Chg.trans0 ?_ (by assumption) | refine Chg.extS ?_ _ | refine Chg.alloc ?_ _ | refine Chg.drew ?_ | refine Chg.setCellE ?_ ?_ _ | refine le_addk ?_ _ | refine le_ext ?_ | refine le_alloc ?_ _ | refine le_setC ?_ _ _ | refine le_drew ?_ | assumption | (refine Nat.le_of_lt ?_; omega) | omega))))).mono ?_; rintro e w2 ⟨rfl, hx2⟩; rw [D2.out]))
    go_ret
    exact ⟨by rw [HE.out]; rfl, (by refine Chg.isExt (F := []) ?_ (refl_ext _) (by simp); repeat (with_reducible (first | exact Chg.refl _ _ | exact Nat.le_refl _ | exact Chg.ofExt (by assumption) | refine Chg.trans0 ?_ (by assumption) | refine Chg.extS ?_ _ | refine Chg.alloc ?_ _ | refine Chg.drew ?_ | refine Chg.setCellE ?_ ?_ _ | refine le_addk ?_ _ | refine le_ext ?_ | refine le_alloc ?_ _ | refine le_setC ?_ _ _ | refine le_drew ?_ | assumption | (refine Nat.le_of_lt ?_; omega) | omega)))⟩
set_option maxHeartbeats 1000000 in
theorem specEqualVarRelations_any {A B A' B' : Option Addr} {a b a' b' : Nat} {d d' : VRd} {w : World} (hb : BVR d) (h : vVR w [.slice A d.1.length a, .int .i64 d.2.1, .slice B d.2.2.length b] d) (hb' : BVR d') (h' : vVR w [.slice A' d'.1.length a', .int .i64 d'.2.1, .slice B' d'.2.2.length b'] d') :
    Calls Try.prog 6 #[.agg #[.slice A d.1.length a, .int .i64 d.2.1, .slice B d.2.2.length b], .agg #[.slice A' d'.1.length a', .int .i64 d'.2.1, .slice B' d'.2.2.length b']] w fun e w' => e = .returned (.bool (decide (d = d'))) ∧ ∃ y, w' = ext w y := by
  obtain ⟨r1, r2, _⟩ := vVR_get h
  obtain ⟨s1, s2, _⟩ := vVR_get h'
  obtain ⟨b1, b2⟩ := hb
  obtain ⟨p1, p2⟩ := hb'
  have m1 : d.1.length ≤ 1000000000 := by omega
  have m2 : d'.1.length ≤ 1000000000 := by omega
  have HD := Lib.hid (show decide (d = d') = (decide (d.1 = d'.1) && decide (d.2 = d'.2)) by
    rw [Bool.eq_iff_iff]
    simp [Prod.ext_iff])
  obtain ⟨t1, ht1⟩ : ∃ t, decide (d.1 = d'.1) = t := ⟨_, rfl⟩
  obtain ⟨t2, ht2⟩ : ∃ t, decide (d.2 = d'.2) = t := ⟨_, rfl⟩
  have D1 := Lib.hid ht1
  have D2 := Lib.hid ht2
  have HE := Lib.hid (show decide (d = d') = (t1 && t2) by rw [HD.out, ht1, ht2])
  clear h h' ht1 ht2 HD
  obtain ⟨C, hC⟩ : ∃ C, cmpL d.1 d'.1 = C := ⟨_, rfl⟩
  have HC := Lib.hid hC
  have hCq : (C == 0) = t1 := by rw [← D1.out, ← hC, Bool.eq_iff_iff]; simp [cmpL_zero]
  clear hC
  cases t1
  all_goals
    go_enter Try.func6, Try.ntmps6
    go_upto_region 1 with fail
    refine wp_name ?_
    intro W hW
    have xW : ∃ y, W = ext w y := by rw [hW.out]; exact (by refine Chg.isExt (F := []) ?_ (refl_ext _) (by simp); repeat (with_reducible (first | exact Chg.refl _ _ | exact Nat.le_refl _ | exact Chg.ofExt (by assumption) | refine Chg.trans0 ?_ (by assumption) | refine Chg.extS ?_ _ | refine Chg.alloc ?_ _ | refine Chg.drew ?_ | refine Chg.setCellE ?_ ?_ _ | refine le_addk ?_ _ | refine le_ext ?_ | refine le_alloc ?_ _ | refine le_setC ?_ _ _ | refine le_drew ?_ | assumption | (refine Nat.le_of_lt ?_; omega) | omega)))
    have BW0 : BoxAt W (w.heap.size) #[.slice A d.1.length a, .int .i64 d.2.1, .slice B d.2.2.length b] := by rw [hW.out]; refine ⟨?_, fun j => ?_, fun j => ?_⟩ <;> go_simp
    obtain ⟨lW0, bW0, fW0⟩ := BW0
    have cW0_0 : W.cell? ⟨w.heap.size, 0, none⟩ = some (.slice A d.1.length a) := bW0 0
    have cW0_1 : W.cell? ⟨w.heap.size, 1, none⟩ = some (.int .i64 d.2.1) := bW0 1
    have cW0_2 : W.cell? ⟨w.heap.size, 2, none⟩ = some (.slice B d.2.2.length b) := bW0 2
    have BW1 : BoxAt W (w.heap.size + 1) #[.slice A' d'.1.length a', .int .i64 d'.2.1, .slice B' d'.2.2.length b'] := by rw [hW.out]; refine ⟨?_, fun j => ?_, fun j => ?_⟩ <;> go_simp
    obtain ⟨lW1, bW1, fW1⟩ := BW1
    have cW1_0 : W.cell? ⟨w.heap.size + 1, 0, none⟩ = some (.slice A' d'.1.length a') := bW1 0
    have cW1_1 : W.cell? ⟨w.heap.size + 1, 1, none⟩ = some (.int .i64 d'.2.1) := bW1 1
    have cW1_2 : W.cell? ⟨w.heap.size + 1, 2, none⟩ = some (.slice B' d'.2.2.length b') := bW1 2
    clear hW
    go_wp2_with (first
      | (go_at_call 14; (with_reducible refine (specCompareRows_any m1 (r1.toExt ?_) m2 (s1.toExt ?_)).mono ?_); (focus (exact (by refine Chg.isExt (F := []) ?_ (refl_ext _) (by simp); repeat (with_reducible (first | exact Chg.refl _ _ | exact Nat.le_refl _ | exact Chg.ofExt (by assumption) | refine Chg.trans0 ?_ (by assumption) | refine Chg.extS ?_ _ | refine Chg.alloc ?_ _ | refine Chg.drew ?_ | refine Chg.setCellE ?_ ?_ _ | refine le_addk ?_ _ | refine le_ext ?_ | refine le_alloc ?_ _ | refine le_setC ?_ _ _ | refine le_drew ?_ | assumption | (refine Nat.le_of_lt ?_; omega) | omega))))); (focus (exact (by refine Chg.isExt (F := []) ?_ (refl_ext _) (by simp); repeat (with_reducible (first | exact Chg.refl _ _ | exact Nat.le_refl _ | exact Chg.ofExt (by assumption) | refine Chg.trans0 ?_ (by assumption) | refine Chg.extS ?_ _ | refine Chg.alloc ?_ _ | refine Chg.drew ?_ | refine Chg.setCellE ?_ ?_ _ | refine le_addk ?_ _ | refine le_ext ?_ | refine le_alloc ?_ _ | refine le_setC ?_ _ _ | refine le_drew ?_ | assumption | (refine Nat.le_of_lt ?_; omega) | omega))))); rintro e w1 ⟨rfl, hx1⟩; rw [HC.out]; have P1 := BoxAt.toExt (cs := #[.slice A d.1.length a, .int .i64 d.2.1, .slice B d.2.2.length b]) ⟨lW0, bW0, fW0⟩ hx1; have Q1 := BoxAt.toExt (cs := #[.slice A' d'.1.length a', .int .i64 d'.2.1, .slice B' d'.2.2.length b']) ⟨lW1, bW1, fW1⟩ hx1; obtain ⟨l1, a1, a1', a1'', f1⟩ := box3 P1; obtain ⟨o1, z1, z1', z1'', g1⟩ := box3 Q1)
      | (go_at_call 15; refine (specEqualRelations_any b2 (VD.toExt r2 (by refine Chg.isExt (F := []) ?_ (refl_ext _) (by simp); repeat (with_reducible (first | exact Chg.refl _ _ | exact Nat.le_refl _ | exact Chg.ofExt (by assumption) | refine Chg.trans0 ?_ (by assumption) | refine Chg.extS ?_ _ | refine Chg.alloc ?_ _ | refine Chg.drew ?_ | refine Chg.setCellE ?_ ?_ _ | refine le_addk ?_ _ | refine le_ext ?_ | refine le_alloc ?_ _ | refine le_setC ?_ _ _ | refine le_drew ?_ | assumption | (refine Nat.le_of_lt ?_; omega) | omega)))) p2 (VD.toExt s2 (by refine Chg.isExt (F := []) ?_ (refl_ext _) (by simp); repeat (with_reducible (first | exact Chg.refl _ _ | exact Nat.le_refl _ | exact Chg.ofExt (by assumption) | refine Chg.trans0 ?_ (by assumption) | refine Chg.extS ?_ _ | refine Chg.alloc ?_ _ | refine Chg.drew ?_ | refine Chg.setCellE ?_ ?_ _ | refine le_addk ?_ _ | refine le_ext ?_ | refine le_alloc ?_ _ | refine le_setC ?_ _ _ | refine le_drew ?_ | assumption | (refine Nat.le_of_lt ?_; omega) | omega))))).mono ?_; rintro e w2 ⟨rfl, hx2⟩; rw [D2.out]))
    go_ret
    exact ⟨by rw [HE.out]; rfl, (by refine Chg.isExt (F := []) ?_ (refl_ext _) (by simp); repeat (with_reducible (first | exact Chg.refl _ _ | exact Nat.le_refl _ | exact Chg.ofExt (by assumption) | refine Chg.trans0 ?_ (by assumption) | refine Chg.extS ?_ _ | refine Chg.alloc ?_ _ | refine Chg.drew ?_ | refine Chg.setCellE ?_ ?_ _ | refine le_addk ?_ _ | refine le_ext ?_ | refine le_alloc ?_ _ | refine le_setC ?_ _ _ | refine le_drew ?_ | assumption | (refine Nat.le_of_lt ?_; omega) | omega)))⟩
end Go.Proofs.Ytficeifgaoljmaa
