/- Whether a relation is valid; the program's way and the reference's. -/
import Derived.Test.YtficeifgaoljmaaRelEq
import Derived.Test.YtficeifgaoljmaaBasic
namespace Go.Proofs.Ytficeifgaoljmaa
open Go.RowKit

def rowV (xs : List Int) : Bool := xs.all fun v => inB v 0 99
def allN (p : Nat → Bool) : Nat → Nat → Bool
  | 0, _ => true
  | f + 1, k => p k && allN p f (k + 1)
theorem allN_step {p : Nat → Bool} {n k : Nat} (h : k < n) : allN p (n - k) k = (p k && allN p (n - (k + 1)) (k + 1)) := by
  rw [show n - k = (n - (k + 1)) + 1 by omega, allN]
theorem allN_end {p : Nat → Bool} {n k : Nat} (h : ¬ k < n) : allN p (n - k) k = true := by
  rw [show n - k = 0 by omega, allN]
def rowOk (a : Int) (rows : List (List Int)) (i : Nat) : Bool := decide (((rows.getD i []).length : Int) = a) && rowV (rows.getD i []) && (decide (i = 0) || decide (cmpL (rows.getD (i - 1) []) (rows.getD i []) < 0))
def rowsB (a : Int) (rows : List (List Int)) : Bool := inB a 0 5 && decide (rows.length ≤ 4000) && allN (rowOk a rows) rows.length 0
def vars1 (xs : List Int) (i : Nat) : Bool := inB (xs.getD i 0) 0 4 && (decide (i = 0) || decide (xs.getD (i - 1) 0 < xs.getD i 0))
def varsB (xs : List Int) : Bool := allN (vars1 xs) xs.length 0
def vrB (d : VRd) : Bool := varsB d.1 && rowsB d.2.1 d.2.2 && decide (d.2.1 = (d.1.length : Int))
theorem allR_step {p : Int → Bool} {xs : List Int} {k : Nat} (h : k < xs.length) : (xs.drop k).all p = (p xs[k] && (xs.drop (k + 1)).all p) := by
  rw [List.drop_eq_getElem_cons h, List.all_cons]
theorem allR_end {p : Int → Bool} {xs : List Int} {k : Nat} (h : ¬ k < xs.length) : (xs.drop k).all p = true := by
  rw [List.drop_eq_nil_of_le (by omega)]; rfl
set_option maxHeartbeats 400000 in
theorem AreValidValues_any {A : Option Addr} {c : Nat} {xs : List Int} {w : World} (hx : xs.length ≤ 1000000000) (h1 : RI w A xs) :
    Calls Try.prog 32 #[.slice A xs.length c] w fun e w' => e = .returned (.bool (rowV xs)) ∧ w = w' := by
  go_enter Try.func32, Try.ntmps32
  go_wp2
  go_loop [7] (fun i => ∃ k : Nat, i = .int .i64 k ∧ k ≤ xs.length ∧ Hid ((xs.drop k).all (fun v => inB v 0 99) = rowV xs)) (fun i => xs.length - (intOf i).toNat)
  case atStart => exact ⟨0, rfl, by omega, Lib.hid rfl⟩
  case round =>
    obtain ⟨k, rfl, hk, Hj⟩ := hrel
    by_cases hlt : k < xs.length
    · obtain ⟨b, o, rfl, hb, hc⟩ := h1.atI hlt
      have e := Hj.out
      rw [allR_step hlt] at e
      obtain ⟨t, ht⟩ : ∃ t, inB xs[k] 0 99 = t := ⟨_, rfl⟩
      rw [ht] at e
      have NT := Lib.hid ht
      have He := Lib.hid e
      clear e ht Hj
      cases t with
      | true =>
        go_wp2_with (go_at_call 24; refine (within_any _ _ _ _).mono ?_; rintro e w' ⟨rfl, rfl⟩; rw [NT.out])
        exact ⟨⟨k + 1, by go_num, by omega, Lib.hid (by simpa using He.out)⟩, by simp [intOf]; omega⟩
      | false =>
        go_wp2_with (go_at_call 24; refine (within_any _ _ _ _).mono ?_; rintro e w' ⟨rfl, rfl⟩; rw [NT.out])
        go_ret
        exact ⟨by rw [← He.out]; rfl, rfl⟩
    · have e := Hj.out
      rw [allR_end hlt] at e
      have He := Lib.hid e
      clear e Hj
      go_wp2
      go_ret
      exact ⟨by rw [← He.out]; rfl, rfl⟩
set_option maxHeartbeats 400000 in
theorem specAreValidValues_any {A : Option Addr} {c : Nat} {xs : List Int} {w : World} (hx : xs.length ≤ 1000000000) (h1 : RI w A xs) :
    Calls Try.prog 30 #[.slice A xs.length c] w fun e w' => e = .returned (.bool (rowV xs)) ∧ w = w' := by
  go_enter Try.func30, Try.ntmps30
  go_wp2
  go_loop [3] (fun i => ∃ k : Nat, i = .int .i64 k ∧ k ≤ xs.length ∧ Hid ((xs.drop k).all (fun v => inB v 0 99) = rowV xs)) (fun i => xs.length - (intOf i).toNat)
  case atStart => exact ⟨0, rfl, by omega, Lib.hid rfl⟩
  case round =>
    obtain ⟨k, rfl, hk, Hj⟩ := hrel
    by_cases hlt : k < xs.length
    · obtain ⟨b, o, rfl, hb, hc⟩ := h1.atI hlt
      have e := Hj.out
      rw [allR_step hlt] at e
      obtain ⟨t, ht⟩ : ∃ t, inB xs[k] 0 99 = t := ⟨_, rfl⟩
      rw [ht] at e
      have NT := Lib.hid ht
      have He := Lib.hid e
      clear e ht Hj
      cases t with
      | true =>
        go_wp2_with (go_at_call 22; refine (l1In_any _ _ _ _).mono ?_; rintro e w' ⟨rfl, rfl⟩; rw [NT.out])
        exact ⟨⟨k + 1, by go_num, by omega, Lib.hid (by simpa using He.out)⟩, by simp [intOf]; omega⟩
      | false =>
        go_wp2_with (go_at_call 22; refine (l1In_any _ _ _ _).mono ?_; rintro e w' ⟨rfl, rfl⟩; rw [NT.out])
        go_ret
        exact ⟨by rw [← He.out]; rfl, rfl⟩
    · have e := Hj.out
      rw [allR_end hlt] at e
      have He := Lib.hid e
      clear e Hj
      go_wp2
      go_ret
      exact ⟨by rw [← He.out]; rfl, rfl⟩
theorem compareInts_any (a b : Int) (w : World) : Calls Try.prog 34 #[.int .i64 a, .int .i64 b] w fun e w' => e = .returned (.int .i64 (cmpI a b)) ∧ w = w' := by
  by_cases h1 : a < b
  · have HE := Lib.hid (show cmpI a b = -1 by unfold cmpI; rw [if_pos h1])
    go_enter Try.func34, Try.ntmps34
    go_wp2
    go_ret
    exact ⟨by rw [HE.out]; rfl, rfl⟩
  · by_cases h2 : b < a
    · have HE := Lib.hid (show cmpI a b = 1 by unfold cmpI; rw [if_neg h1, if_pos h2])
      go_enter Try.func34, Try.ntmps34
      go_wp2
      go_ret
      exact ⟨by rw [HE.out]; rfl, rfl⟩
    · have HE := Lib.hid (show cmpI a b = 0 by unfold cmpI; rw [if_neg h1, if_neg h2])
      go_enter Try.func34, Try.ntmps34
      go_wp2
      go_ret
      exact ⟨by rw [HE.out]; rfl, rfl⟩
theorem quietSj {P : Program} {f : FuncId} {args : Array Value} {w y : World} {m n : Int}
    (h : Calls P f args (ext w y) fun e w' => e = .returned (.int .i64 m) ∧ ext w y = w') (hc : m = n) : Calls P f args (ext w y) fun e w' => e = .returned (.int .i64 n) ∧ ∃ z, w' = ext w z := by
  subst hc; exact quietS h
set_option maxHeartbeats 1000000 in
theorem CompareRows_any {A A' : Option Addr} {c c' : Nat} {xs ys : List Int} {w : World} (hx : xs.length ≤ 1000000000) (h1 : RI w A xs) (hy : ys.length ≤ 1000000000) (h2 : RI w A' ys) :
    Calls Try.prog 33 #[.slice A xs.length c, .slice A' ys.length c'] w fun e w' => e = .returned (.int .i64 (cmpL xs ys)) ∧ ∃ y, w' = ext w y := by
  go_enter Try.func33, Try.ntmps33
  go_wp2
  go_loopw [5] (fun i wr => ∃ k : Nat, i = .int .i64 k ∧ k ≤ xs.length ∧ k ≤ ys.length ∧ Hid (cmpL (xs.drop k) (ys.drop k) = cmpL xs ys) ∧ ∃ y, wr = ext w y) (fun i _ => xs.length - (intOf i).toNat)
  case atStart => exact ⟨0, rfl, by omega, by omega, Lib.hid (by simp), refl_ext w⟩
  case round =>
    obtain ⟨k, rfl, hk, hk2, Ht, hw⟩ := hrel
    by_cases hlt : k < xs.length
    · by_cases hlt2 : k < ys.length
      · obtain ⟨b, o, rfl, hb, hc⟩ := (h1.toExt hw).atI hlt
        obtain ⟨b', o', rfl, hb', hc'⟩ := (h2.toExt hw).atI hlt2
        by_cases he : xs[k] = ys[k]
        · have He := Lib.hid ((cmpL_step hlt hlt2 he).symm.trans Ht.out)
          have hq : (xs[k] != ys[k]) = false := by simp [he]
          clear he Ht
          go_wp2
          refine wp_region_ext (by kernel_rfl) (by kernel_rfl) ?_
          repeat (go_big_quiet_step (fail))
          refine wpQuiet_nil ?_
          rintro _ ⟨z, rfl⟩
          go_wp2
          exact ⟨⟨k + 1, by go_num, by omega, by omega, He, (by refine Chg.isExt (F := []) ?_ (refl_ext _) (by simp); repeat (with_reducible (first | exact Chg.refl _ _ | exact Nat.le_refl _ | exact Chg.ofExt (by assumption) | refine Chg.trans0 ?_ (by assumption) | refine Chg.extS ?_ _ | refine Chg.alloc ?_ _ | refine Chg.drew ?_ | refine Chg.setCellE ?_ ?_ _ | refine le_addk ?_ _ | refine le_ext ?_ | refine le_alloc ?_ _ | refine le_setC ?_ _ _ | refine le_drew ?_ | assumption | (refine Nat.le_of_lt ?_; omega) | omega)))⟩, by simp [intOf]; omega⟩
        · have He := Lib.hid ((cmpL_stop hlt hlt2 he).symm.trans Ht.out)
          have hq : (xs[k] != ys[k]) = true := by simp [he]
          clear he Ht
          go_wp2
          refine wp_region_ext (by kernel_rfl) (by kernel_rfl) ?_
          repeat (go_big_quiet_step (fail))
          refine wpQuiet_nil ?_
          rintro _ ⟨z, rfl⟩
          have hb2 := lt_ext (x := z) hb
          have hb3 := lt_ext (x := z) hb'
          go_wp2
          refine wp_region_ext (by kernel_rfl) (by kernel_rfl) ?_
          repeat (go_big_quiet_step ((go_at_call 34; exact quietSj (compareInts_any _ _ _) He.out)))
          refine wpQuiet_nil ?_
          rintro _ ⟨z2, rfl⟩
          go_wp2
          go_ret
          exact ⟨rfl, (by refine Chg.isExt (F := []) ?_ (refl_ext _) (by simp); repeat (with_reducible (first | exact Chg.refl _ _ | exact Nat.le_refl _ | exact Chg.ofExt (by assumption) | refine Chg.trans0 ?_ (by assumption) | refine Chg.extS ?_ _ | refine Chg.alloc ?_ _ | refine Chg.drew ?_ | refine Chg.setCellE ?_ ?_ _ | refine le_addk ?_ _ | refine le_ext ?_ | refine le_alloc ?_ _ | refine le_setC ?_ _ _ | refine le_drew ?_ | assumption | (refine Nat.le_of_lt ?_; omega) | omega)))⟩
      · have He := Lib.hid ((cmpL_end hk hk2 (by omega)).symm.trans Ht.out)
        clear Ht
        go_wp2_with (go_at_call 34; refine (compareInts_any _ _ _).mono ?_; rintro e w' ⟨rfl, rfl⟩; rw [He.out])
        go_ret
        exact ⟨rfl, hw⟩
    · have He := Lib.hid ((cmpL_end hk hk2 (by omega)).symm.trans Ht.out)
      clear Ht
      go_wp2_with (go_at_call 34; refine (compareInts_any _ _ _).mono ?_; rintro e w' ⟨rfl, rfl⟩; rw [He.out])
      go_ret
      exact ⟨rfl, hw⟩
theorem RV.atV' {w : World} {b o : Nat} {d : List (List Int)} (h : RII w (some ⟨b, o, none⟩) d) {k : Nat} (hk : k < d.length) : b < w.heap.size ∧ ∃ A' c', w.cell? ⟨b, o + k, none⟩ = some (.slice A' (d.getD k []).length c') ∧ RI w A' (d.getD k []) := by
  obtain ⟨b', o', A', c', e, h1, h2, h3⟩ := h.atV hk
  injection e with e
  injection e with e1 e2 _
  subst e1 e2
  have eg : d.getD k [] = d[k] := by rw [List.getD_eq_getElem?_getD, List.getElem?_eq_getElem hk]; rfl
  rw [eg]
  exact ⟨h1, A', c', h2, h3⟩
theorem RV.pl {w : World} {α : Type} {size : Nat} {E : VE α} {A : Option Addr} {d : List α} (h : RV size E w A d) (hk : 0 < d.length) : ∃ b o, A = some ⟨b, o, none⟩ := by
  obtain ⟨b, o, e, _⟩ := h (by intro e; rw [e] at hk; simp at hk)
  exact ⟨b, o, e⟩
theorem rows_f {a : Int} {rows : List (List Int)} (h : allN (rowOk a rows) rows.length 0 = false) : rowsB a rows = false := by unfold rowsB; rw [h, Bool.and_false]
set_option maxRecDepth 100000 in
set_option maxHeartbeats 8000000 in
theorem rowsValid_any {a : Int} {A : Option Addr} {c : Nat} {rows : List (List Int)} {w : World} (hx : rows.length ≤ 1000000000) (hxl : ∀ j, (rows.getD j []).length ≤ 1000000000) (h1 : RII w A rows) :
    Calls Try.prog 31 #[.int .i64 a, .slice A rows.length c] w fun e w' => e = .returned (.bool (rowsB a rows)) ∧ ∃ y, w' = ext w y := by
  have HL := Lib.hid hxl
  clear hxl
  obtain ⟨t1, ht1⟩ : ∃ t, inB a 0 5 = t := ⟨_, rfl⟩
  have N1 := Lib.hid ht1
  have HE := Lib.hid (show rowsB a rows = (t1 && decide (rows.length ≤ 4000) && allN (rowOk a rows) rows.length 0) by unfold rowsB; rw [ht1])
  clear ht1
  cases t1 with
  | false =>
    go_enter Try.func31, Try.ntmps31
    go_wp2_with (go_at_call 24; refine (within_any _ _ _ _).mono ?_; rintro e w' ⟨rfl, rfl⟩; rw [N1.out])
    go_ret
    exact ⟨by rw [HE.out]; rfl, refl_ext w⟩
  | true =>
    by_cases h4 : rows.length ≤ 4000
    · have HE2 := Lib.hid (show rowsB a rows = allN (rowOk a rows) rows.length 0 by rw [HE.out, decide_eq_true h4]; simp)
      go_enter Try.func31, Try.ntmps31
      go_wp2_with (go_at_call 24; refine (within_any _ _ _ _).mono ?_; rintro e w' ⟨rfl, rfl⟩; rw [N1.out])
      go_loopw [17] (fun i wr => ∃ k : Nat, i = .int .i64 k ∧ k ≤ rows.length ∧ (∃ y, wr = ext w y) ∧ Hid (allN (rowOk a rows) (rows.length - k) k = allN (rowOk a rows) rows.length 0)) (fun i _ => rows.length - (intOf i).toNat)
      case atStart => exact ⟨0, rfl, by omega, refl_ext w, Lib.hid rfl⟩
      case round =>
        obtain ⟨k, rfl, hk, hy, Hj⟩ := hrel
        by_cases hlt : k < rows.length
        · obtain ⟨b, o, rfl⟩ := h1.pl (by omega)
          obtain ⟨hb, A1, c1, hc, hv⟩ := (h1.toExt hy).atV' hlt
          have e := Hj.out
          rw [allN_step hlt] at e
          obtain ⟨r, hr⟩ : ∃ r, rows.getD k [] = r := ⟨_, rfl⟩
          have lr := HL.out k
          rw [hr] at hc hv lr
          obtain ⟨t3, ht3⟩ : ∃ t, decide ((r.length : Int) = a) = t := ⟨_, rfl⟩
          obtain ⟨t4, ht4⟩ : ∃ t, rowV r = t := ⟨_, rfl⟩
          have q3 : ((r.length : Int) != a) = !t3 := by rw [← ht3]; by_cases q : (r.length : Int) = a <;> simp [q]
          have eR : rowOk a rows k = (t3 && t4 && (decide (k = 0) || decide (cmpL (rows.getD (k - 1) []) r < 0))) := by unfold rowOk; rw [hr, ht3, ht4]
          rw [eR] at e
          have N4 := Lib.hid ht4
          clear hr ht3 ht4 eR Hj
          cases t3 with
          | false =>
            have HF := Lib.hid (rows_f (a := a) (rows := rows) (by rw [← e]; rfl))
            clear e
            go_wp2
            go_ret
            exact ⟨by rw [HF.out]; rfl, hy⟩
          | true =>
            cases t4 with
            | false =>
              have HF := Lib.hid (rows_f (a := a) (rows := rows) (by rw [← e]; rfl))
              clear e
              go_wp2_with (go_at_call 32; refine (AreValidValues_any lr hv).mono ?_; rintro e w' ⟨rfl, rfl⟩; rw [N4.out])
              go_ret
              exact ⟨by rw [HF.out]; rfl, hy⟩
            | true =>
              by_cases hk0 : 0 < k
              · obtain ⟨_, A2, c2, hc2, hv2⟩ := (h1.toExt hy).atV' (k := k - 1) (by omega)
                have lr2 := HL.out (k - 1)
                obtain ⟨r2, hr2⟩ : ∃ r, rows.getD (k - 1) [] = r := ⟨_, rfl⟩
                rw [hr2] at hc2 hv2 lr2 e
                obtain ⟨C, hC⟩ : ∃ C, cmpL r2 r = C := ⟨_, rfl⟩
                rw [hC, decide_eq_false (show ¬ k = 0 by omega)] at e
                have HC := Lib.hid hC
                have s2 : ((k : Int) - 1).toNat = k - 1 := by omega
                clear hr2 hC
                by_cases hC0 : C < 0
                · have HK := Lib.hid (show allN (rowOk a rows) (rows.length - (k + 1)) (k + 1) = allN (rowOk a rows) rows.length 0 by rw [decide_eq_true hC0] at e; simpa using e)
                  clear e
                  go_wp2_with (first
                    | (go_at_call 32; refine (AreValidValues_any lr hv).mono ?_; rintro e w' ⟨rfl, rfl⟩; rw [N4.out])
                    | (go_at_call 33; refine (CompareRows_any lr2 hv2 lr hv).mono ?_; rintro e w2 ⟨rfl, hx2⟩; rw [HC.out]))
                  exact ⟨⟨k + 1, by go_num, by omega, trans_ext hy hx2, HK⟩, by simp [intOf]; omega⟩
                · have HF := Lib.hid (rows_f (a := a) (rows := rows) (by rw [decide_eq_false hC0] at e; rw [← e]; rfl))
                  have hC1 : 0 ≤ C := by omega
                  clear e
                  go_wp2_with (first
                    | (go_at_call 32; refine (AreValidValues_any lr hv).mono ?_; rintro e w' ⟨rfl, rfl⟩; rw [N4.out])
                    | (go_at_call 33; refine (CompareRows_any lr2 hv2 lr hv).mono ?_; rintro e w2 ⟨rfl, hx2⟩; rw [HC.out]))
                  go_ret
                  exact ⟨by rw [HF.out]; rfl, trans_ext hy hx2⟩
              · have HK := Lib.hid (show allN (rowOk a rows) (rows.length - (k + 1)) (k + 1) = allN (rowOk a rows) rows.length 0 by rw [decide_eq_true (show k = 0 by omega)] at e; simpa using e)
                clear e
                go_wp2_with (go_at_call 32; refine (AreValidValues_any lr hv).mono ?_; rintro e w' ⟨rfl, rfl⟩; rw [N4.out])
                exact ⟨⟨k + 1, by go_num, by omega, hy, HK⟩, by simp [intOf]; omega⟩
        · have e := Hj.out
          rw [allN_end hlt] at e
          have HK := Lib.hid (show rowsB a rows = true by rw [HE2.out, ← e])
          clear e Hj
          go_wp2
          go_ret
          exact ⟨by rw [HK.out]; rfl, hy⟩
    · have HE2 := Lib.hid (show rowsB a rows = false by rw [HE.out, decide_eq_false h4]; rfl)
      have h5 : 4000 < rows.length := by omega
      go_enter Try.func31, Try.ntmps31
      go_wp2_with (go_at_call 24; refine (within_any _ _ _ _).mono ?_; rintro e w' ⟨rfl, rfl⟩; rw [N1.out])
      go_ret
      exact ⟨by rw [HE2.out]; rfl, refl_ext w⟩
theorem rows_len {d : Rd} (h : BRel d) (j : Nat) : (d.2.getD j []).length ≤ 1000000000 := by
  by_cases hj : j < d.2.length
  · rw [List.getD_eq_getElem?_getD, List.getElem?_eq_getElem hj]
    exact h.2.big _ (List.getElem_mem hj)
  · rw [List.getD_eq_getElem?_getD, List.getElem?_eq_none (by omega)]
    simp
theorem IsValidRelation_any {A : Option Addr} {c : Nat} {d : Rd} {w : World} (hb : BRel d) (h : vRel w [.int .i64 d.1, .slice A d.2.length c] d) :
    Calls Try.prog 25 #[.agg #[.int .i64 d.1, .slice A d.2.length c]] w fun e w' => e = .returned (.bool (rowsB d.1 d.2)) ∧ ∃ y, w' = ext w y := by
  have r1 := (vII_get (vRel_get h).2).2
  have HL := Lib.hid (rows_len hb)
  have m1 : d.2.length ≤ 1000000000 := Nat.le_trans hb.2.1 (by omega)
  clear h hb
  go_enter Try.func25, Try.ntmps25
  go_wp2_with (go_at_call 31; refine (rowsValid_any m1 HL.out (r1.toExt (by refine Chg.isExt (F := []) ?_ (refl_ext _) (by simp); repeat (with_reducible (first | exact Chg.refl _ _ | exact Nat.le_refl _ | exact Chg.ofExt (by assumption) | refine Chg.trans0 ?_ (by assumption) | refine Chg.extS ?_ _ | refine Chg.alloc ?_ _ | refine Chg.drew ?_ | refine Chg.setCellE ?_ ?_ _ | refine le_addk ?_ _ | refine le_ext ?_ | refine le_alloc ?_ _ | refine le_setC ?_ _ _ | refine le_drew ?_ | assumption | (refine Nat.le_of_lt ?_; omega) | omega))))).mono ?_; rintro e w1 ⟨rfl, hx1⟩)
  go_ret
  exact ⟨rfl, (by refine Chg.isExt (F := []) ?_ (refl_ext _) (by simp); repeat (with_reducible (first | exact Chg.refl _ _ | exact Nat.le_refl _ | exact Chg.ofExt (by assumption) | refine Chg.trans0 ?_ (by assumption) | refine Chg.extS ?_ _ | refine Chg.alloc ?_ _ | refine Chg.drew ?_ | refine Chg.setCellE ?_ ?_ _ | refine le_addk ?_ _ | refine le_ext ?_ | refine le_alloc ?_ _ | refine le_setC ?_ _ _ | refine le_drew ?_ | assumption | (refine Nat.le_of_lt ?_; omega) | omega)))⟩
end Go.Proofs.Ytficeifgaoljmaa
