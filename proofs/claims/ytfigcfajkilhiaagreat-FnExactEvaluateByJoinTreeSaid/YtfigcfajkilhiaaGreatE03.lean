/- Contracts of functions that the statement reaches. -/
import Derived.Test.YtfigcfajkilhiaaGreatE02
import Derived.Test.YtfigcfajkilhiaaGreatE01
namespace Go.Proofs.YtfigcfajkilhiaaGreat
open Go.RowKit
def rowV (xs : List Int) : Bool := xs.all fun v => inB v 0 99
def allN (p : Nat → Bool) : Nat → Nat → Bool
  | 0, _ => true
  | f + 1, k => p k && allN p f (k + 1)
theorem allN_step {p : Nat → Bool} {n k : Nat} (h : k < n) : allN p (n - k) k = (p k && allN p (n - (k + 1)) (k + 1)) := by
  rw [show n - k = (n - (k + 1)) + 1 by omega, allN]
theorem allN_end {p : Nat → Bool} {n k : Nat} (h : ¬ k < n) : allN p (n - k) k = true := by
  rw [show n - k = 0 by omega, allN]
def rowOk (a : Int) (rows : List (List Int)) (i : Nat) : Bool := decide (((rows.getD i []).length : Int) = a) && rowV (rows.getD i []) && (decide (i = 0) || decide (cmpL (rows.getD (i - 1) []) (rows.getD i []) < 0))
def rowsB (a : Int) (rows : List (List Int)) : Bool := inB a 0 5 && decide (rows.length ≤ 4000) && allN (rowOk a rows) rows.length 0
def vars1 (xs : List Int) (i : Nat) : Bool := inB (xs.getD i 0) 0 4 && (decide (i = 0) || decide (xs.getD (i - 1) 0 < xs.getD i 0))
def varsB (xs : List Int) : Bool := allN (vars1 xs) xs.length 0
def vrB (d : VRd) : Bool := varsB d.1 && rowsB d.2.1 d.2.2 && decide (d.2.1 = (d.1.length : Int))
theorem allR_step {p : Int → Bool} {xs : List Int} {k : Nat} (h : k < xs.length) : (xs.drop k).all p = (p xs[k] && (xs.drop (k + 1)).all p) := by
  rw [List.drop_eq_getElem_cons h, List.all_cons]
theorem allR_end {p : Int → Bool} {xs : List Int} {k : Nat} (h : ¬ k < xs.length) : (xs.drop k).all p = true := by
  rw [List.drop_eq_nil_of_le (by omega)]; rfl
set_option maxHeartbeats 400000 in
theorem AreValidValues_any {A : Option Addr} {c : Nat} {xs : List Int} {w : World} (hx : xs.length ≤ 1000000000) (h1 : RI w A xs) :
    Calls Tryz.prog 115 #[.slice A xs.length c] w fun e w' => e = .returned (.bool (rowV xs)) ∧ w = w' := by
  go_enter Tryz.func115, Tryz.ntmps115
  go_wp2
  go_loop [7] (fun i => ∃ k : Nat, i = .int .i64 k ∧ k ≤ xs.length ∧ Hid ((xs.drop k).all (fun v => inB v 0 99) = rowV xs)) (fun i => xs.length - (intOf i).toNat)
  case atStart => exact ⟨0, rfl, by omega, Lib.hid rfl⟩
  case round =>
    obtain ⟨k, rfl, hk, Hj⟩ := hrel
    by_cases hlt : k < xs.length
    · obtain ⟨b, o, rfl, hb, hc⟩ := h1.atI hlt
      have e := Hj.out
      rw [allR_step hlt] at e
      obtain ⟨t, ht⟩ : ∃ t, inB xs[k] 0 99 = t := ⟨_, rfl⟩
      rw [ht] at e
      have NT := Lib.hid ht
      have He := Lib.hid e
      clear e ht Hj
      cases t with
      | true =>
        go_wp2_with (go_at_call 109; refine (within_any _ _ _ _).mono ?_; rintro e w' ⟨rfl, rfl⟩; rw [NT.out])
        exact ⟨⟨k + 1, by go_num, by omega, Lib.hid (by simpa using He.out)⟩, by simp [intOf]; omega⟩
      | false =>
        go_wp2_with (go_at_call 109; refine (within_any _ _ _ _).mono ?_; rintro e w' ⟨rfl, rfl⟩; rw [NT.out])
        go_ret
        exact ⟨by rw [← He.out]; rfl, rfl⟩
    · have e := Hj.out
      rw [allR_end hlt] at e
      have He := Lib.hid e
      clear e Hj
      go_wp2
      go_ret
      exact ⟨by rw [← He.out]; rfl, rfl⟩
set_option maxHeartbeats 400000 in
theorem specAreValidValues_any {A : Option Addr} {c : Nat} {xs : List Int} {w : World} (hx : xs.length ≤ 1000000000) (h1 : RI w A xs) :
    Calls Tryz.prog 110 #[.slice A xs.length c] w fun e w' => e = .returned (.bool (rowV xs)) ∧ w = w' := by
  go_enter Tryz.func110, Tryz.ntmps110
  go_wp2
  go_loop [3] (fun i => ∃ k : Nat, i = .int .i64 k ∧ k ≤ xs.length ∧ Hid ((xs.drop k).all (fun v => inB v 0 99) = rowV xs)) (fun i => xs.length - (intOf i).toNat)
  case atStart => exact ⟨0, rfl, by omega, Lib.hid rfl⟩
  case round =>
    obtain ⟨k, rfl, hk, Hj⟩ := hrel
    by_cases hlt : k < xs.length
    · obtain ⟨b, o, rfl, hb, hc⟩ := h1.atI hlt
      have e := Hj.out
      rw [allR_step hlt] at e
      obtain ⟨t, ht⟩ : ∃ t, inB xs[k] 0 99 = t := ⟨_, rfl⟩
      rw [ht] at e
      have NT := Lib.hid ht
      have He := Lib.hid e
      clear e ht Hj
      cases t with
      | true =>
        go_wp2_with (go_at_call 91; refine (l1In_any _ _ _ _).mono ?_; rintro e w' ⟨rfl, rfl⟩; rw [NT.out])
        exact ⟨⟨k + 1, by go_num, by omega, Lib.hid (by simpa using He.out)⟩, by simp [intOf]; omega⟩
      | false =>
        go_wp2_with (go_at_call 91; refine (l1In_any _ _ _ _).mono ?_; rintro e w' ⟨rfl, rfl⟩; rw [NT.out])
        go_ret
        exact ⟨by rw [← He.out]; rfl, rfl⟩
    · have e := Hj.out
      rw [allR_end hlt] at e
      have He := Lib.hid e
      clear e Hj
      go_wp2
      go_ret
      exact ⟨by rw [← He.out]; rfl, rfl⟩
theorem compareInts_any (a b : Int) (w : World) : Calls Tryz.prog 122 #[.int .i64 a, .int .i64 b] w fun e w' => e = .returned (.int .i64 (cmpI a b)) ∧ w = w' := by
  by_cases h1 : a < b
  · have HE := Lib.hid (show cmpI a b = -1 by unfold cmpI; rw [if_pos h1])
    go_enter Tryz.func122, Tryz.ntmps122
    go_wp2
    go_ret
    exact ⟨by rw [HE.out]; rfl, rfl⟩
  · by_cases h2 : b < a
    · have HE := Lib.hid (show cmpI a b = 1 by unfold cmpI; rw [if_neg h1, if_pos h2])
      go_enter Tryz.func122, Tryz.ntmps122
      go_wp2
      go_ret
      exact ⟨by rw [HE.out]; rfl, rfl⟩
    · have HE := Lib.hid (show cmpI a b = 0 by unfold cmpI; rw [if_neg h1, if_neg h2])
      go_enter Tryz.func122, Tryz.ntmps122
      go_wp2
      go_ret
      exact ⟨by rw [HE.out]; rfl, rfl⟩
theorem quietSj {P : Program} {f : FuncId} {args : Array Value} {w y : World} {m n : Int}
    (h : Calls P f args (ext w y) fun e w' => e = .returned (.int .i64 m) ∧ ext w y = w') (hc : m = n) : Calls P f args (ext w y) fun e w' => e = .returned (.int .i64 n) ∧ ∃ z, w' = ext w z := by
  subst hc; exact quietS h
set_option maxHeartbeats 1000000 in
theorem CompareRows_any {A A' : Option Addr} {c c' : Nat} {xs ys : List Int} {w : World} (hx : xs.length ≤ 1000000000) (h1 : RI w A xs) (hy : ys.length ≤ 1000000000) (h2 : RI w A' ys) :
    Calls Tryz.prog 113 #[.slice A xs.length c, .slice A' ys.length c'] w fun e w' => e = .returned (.int .i64 (cmpL xs ys)) ∧ ∃ y, w' = ext w y := by
  go_enter Tryz.func113, Tryz.ntmps113
  go_wp2
  go_loopw [5] (fun i wr => ∃ k : Nat, i = .int .i64 k ∧ k ≤ xs.length ∧ k ≤ ys.length ∧ Hid (cmpL (xs.drop k) (ys.drop k) = cmpL xs ys) ∧ ∃ y, wr = ext w y) (fun i _ => xs.length - (intOf i).toNat)
  case atStart => exact ⟨0, rfl, by omega, by omega, Lib.hid (by simp), refl_ext w⟩
  case round =>
    obtain ⟨k, rfl, hk, hk2, Ht, hw⟩ := hrel
    by_cases hlt : k < xs.length
    · by_cases hlt2 : k < ys.length
      · obtain ⟨b, o, rfl, hb, hc⟩ := (h1.toExt hw).atI hlt
        obtain ⟨b', o', rfl, hb', hc'⟩ := (h2.toExt hw).atI hlt2
        by_cases he : xs[k] = ys[k]
        · have He := Lib.hid ((cmpL_step hlt hlt2 he).symm.trans Ht.out)
          have hq : (xs[k] != ys[k]) = false := by simp [he]
          clear he Ht
          go_wp2
          refine wp_region_ext (by kernel_rfl) (by kernel_rfl) ?_
          repeat (go_big_quiet_step (fail))
          refine wpQuiet_nil ?_
          rintro _ ⟨z, rfl⟩
          go_wp2
          exact ⟨⟨k + 1, by go_num, by omega, by omega, He, (by refine x'z ?_; repeat (with_reducible (first | exact x'a _ _ | exact x'b _ | exact x'c (by assumption) | refine x'd ?_ (by assumption) | refine x'e ?_ _ | refine x'f ?_ _ | refine x'g ?_ | refine x'h ?_ ?_ _ | refine x'i ?_ _ | refine x'j ?_ | refine x'k ?_ _ | refine x'l ?_ _ _ | refine x'm ?_ | assumption | (refine x'n ?_; omega) | omega)))⟩, by simp [intOf]; omega⟩
        · have He := Lib.hid ((cmpL_stop hlt hlt2 he).symm.trans Ht.out)
          have hq : (xs[k] != ys[k]) = true := by simp [he]
          clear he Ht
          go_wp2
          refine wp_region_ext (by kernel_rfl) (by kernel_rfl) ?_
          repeat (go_big_quiet_step (fail))
          refine wpQuiet_nil ?_
          rintro _ ⟨z, rfl⟩
          have hb2 := lt_ext (x := z) hb
          have hb3 := lt_ext (x := z) hb'
          go_wp2
          refine wp_region_ext (by kernel_rfl) (by kernel_rfl) ?_
          repeat (go_big_quiet_step ((go_at_call 122; exact quietSj (compareInts_any _ _ _) He.out)))
          refine wpQuiet_nil ?_
          rintro _ ⟨z2, rfl⟩
          go_wp2
          go_ret
          exact ⟨rfl, (by refine x'z ?_; repeat (with_reducible (first | exact x'a _ _ | exact x'b _ | exact x'c (by assumption) | refine x'd ?_ (by assumption) | refine x'e ?_ _ | refine x'f ?_ _ | refine x'g ?_ | refine x'h ?_ ?_ _ | refine x'i ?_ _ | refine x'j ?_ | refine x'k ?_ _ | refine x'l ?_ _ _ | refine x'm ?_ | assumption | (refine x'n ?_; omega) | omega)))⟩
      · have He := Lib.hid ((cmpL_end hk hk2 (by omega)).symm.trans Ht.out)
        clear Ht
        go_wp2_with (go_at_call 122; refine (compareInts_any _ _ _).mono ?_; rintro e w' ⟨rfl, rfl⟩; rw [He.out])
        go_ret
        exact ⟨rfl, hw⟩
    · have He := Lib.hid ((cmpL_end hk hk2 (by omega)).symm.trans Ht.out)
      clear Ht
      go_wp2_with (go_at_call 122; refine (compareInts_any _ _ _).mono ?_; rintro e w' ⟨rfl, rfl⟩; rw [He.out])
      go_ret
      exact ⟨rfl, hw⟩
theorem RV.atV' {w : World} {b o : Nat} {d : List (List Int)} (h : RII w (some ⟨b, o, none⟩) d) {k : Nat} (hk : k < d.length) : b < w.heap.size ∧ ∃ A' c', w.cell? ⟨b, o + k, none⟩ = some (.slice A' (d.getD k []).length c') ∧ RI w A' (d.getD k []) := by
  obtain ⟨b', o', A', c', e, h1, h2, h3⟩ := h.atV hk
  injection e with e
  injection e with e1 e2 _
  subst e1 e2
  have eg : d.getD k [] = d[k] := by rw [List.getD_eq_getElem?_getD, List.getElem?_eq_getElem hk]; rfl
  rw [eg]
  exact ⟨h1, A', c', h2, h3⟩
theorem RV.pl {w : World} {α : Type} {size : Nat} {E : VE α} {A : Option Addr} {d : List α} (h : RV size E w A d) (hk : 0 < d.length) : ∃ b o, A = some ⟨b, o, none⟩ := by
  obtain ⟨b, o, e, _⟩ := h (by intro e; rw [e] at hk; simp at hk)
  exact ⟨b, o, e⟩
theorem rows_f {a : Int} {rows : List (List Int)} (h : allN (rowOk a rows) rows.length 0 = false) : rowsB a rows = false := by unfold rowsB; rw [h, Bool.and_false]
set_option maxRecDepth 100000 in
set_option maxHeartbeats 8000000 in
theorem rowsValid_any {a : Int} {A : Option Addr} {c : Nat} {rows : List (List Int)} {w : World} (hx : rows.length ≤ 1000000000) (hxl : ∀ j, (rows.getD j []).length ≤ 1000000000) (h1 : RII w A rows) :
    Calls Tryz.prog 114 #[.int .i64 a, .slice A rows.length c] w fun e w' => e = .returned (.bool (rowsB a rows)) ∧ ∃ y, w' = ext w y := by
  have HL := Lib.hid hxl
  clear hxl
  obtain ⟨t1, ht1⟩ : ∃ t, inB a 0 5 = t := ⟨_, rfl⟩
  have N1 := Lib.hid ht1
  have HE := Lib.hid (show rowsB a rows = (t1 && decide (rows.length ≤ 4000) && allN (rowOk a rows) rows.length 0) by unfold rowsB; rw [ht1])
  clear ht1
  cases t1 with
  | false =>
    go_enter Tryz.func114, Tryz.ntmps114
    go_wp2_with (go_at_call 109; refine (within_any _ _ _ _).mono ?_; rintro e w' ⟨rfl, rfl⟩; rw [N1.out])
    go_ret
    exact ⟨by rw [HE.out]; rfl, refl_ext w⟩
  | true =>
    by_cases h4 : rows.length ≤ 4000
    · have HE2 := Lib.hid (show rowsB a rows = allN (rowOk a rows) rows.length 0 by rw [HE.out, decide_eq_true h4]; simp)
      go_enter Tryz.func114, Tryz.ntmps114
      go_wp2_with (go_at_call 109; refine (within_any _ _ _ _).mono ?_; rintro e w' ⟨rfl, rfl⟩; rw [N1.out])
      go_loopw [17] (fun i wr => ∃ k : Nat, i = .int .i64 k ∧ k ≤ rows.length ∧ (∃ y, wr = ext w y) ∧ Hid (allN (rowOk a rows) (rows.length - k) k = allN (rowOk a rows) rows.length 0)) (fun i _ => rows.length - (intOf i).toNat)
      case atStart => exact ⟨0, rfl, by omega, refl_ext w, Lib.hid rfl⟩
      case round =>
        obtain ⟨k, rfl, hk, hy, Hj⟩ := hrel
        by_cases hlt : k < rows.length
        · obtain ⟨b, o, rfl⟩ := h1.pl (by omega)
          obtain ⟨hb, A1, c1, hc, hv⟩ := (h1.toExt hy).atV' hlt
          have e := Hj.out
          rw [allN_step hlt] at e
          obtain ⟨r, hr⟩ : ∃ r, rows.getD k [] = r := ⟨_, rfl⟩
          have lr := HL.out k
          rw [hr] at hc hv lr
          obtain ⟨t3, ht3⟩ : ∃ t, decide ((r.length : Int) = a) = t := ⟨_, rfl⟩
          obtain ⟨t4, ht4⟩ : ∃ t, rowV r = t := ⟨_, rfl⟩
          have q3 : ((r.length : Int) != a) = !t3 := by rw [← ht3]; by_cases q : (r.length : Int) = a <;> simp [q]
          have eR : rowOk a rows k = (t3 && t4 && (decide (k = 0) || decide (cmpL (rows.getD (k - 1) []) r < 0))) := by unfold rowOk; rw [hr, ht3, ht4]
          rw [eR] at e
          have N4 := Lib.hid ht4
          clear hr ht3 ht4 eR Hj
          cases t3 with
          | false =>
            have HF := Lib.hid (rows_f (a := a) (rows := rows) (by rw [← e]; rfl))
            clear e
            go_wp2
            go_ret
            exact ⟨by rw [HF.out]; rfl, hy⟩
          | true =>
            cases t4 with
            | false =>
              have HF := Lib.hid (rows_f (a := a) (rows := rows) (by rw [← e]; rfl))
              clear e
              go_wp2_with (go_at_call 115; refine (AreValidValues_any lr hv).mono ?_; rintro e w' ⟨rfl, rfl⟩; rw [N4.out])
              go_ret
              exact ⟨by rw [HF.out]; rfl, hy⟩
            | true =>
              by_cases hk0 : 0 < k
              · obtain ⟨_, A2, c2, hc2, hv2⟩ := (h1.toExt hy).atV' (k := k - 1) (by omega)
                have lr2 := HL.out (k - 1)
                obtain ⟨r2, hr2⟩ : ∃ r, rows.getD (k - 1) [] = r := ⟨_, rfl⟩
                rw [hr2] at hc2 hv2 lr2 e
                obtain ⟨C, hC⟩ : ∃ C, cmpL r2 r = C := ⟨_, rfl⟩
                rw [hC, decide_eq_false (show ¬ k = 0 by omega)] at e
                have HC := Lib.hid hC
                have s2 : ((k : Int) - 1).toNat = k - 1 := by omega
                clear hr2 hC
                by_cases hC0 : C < 0
                · have HK := Lib.hid (show allN (rowOk a rows) (rows.length - (k + 1)) (k + 1) = allN (rowOk a rows) rows.length 0 by rw [decide_eq_true hC0] at e; simpa using e)
                  clear e
                  go_wp2_with (first
                    | (go_at_call 115; refine (AreValidValues_any lr hv).mono ?_; rintro e w' ⟨rfl, rfl⟩; rw [N4.out])
                    | (go_at_call 113; refine (CompareRows_any lr2 hv2 lr hv).mono ?_; rintro e w2 ⟨rfl, hx2⟩; rw [HC.out]))
                  exact ⟨⟨k + 1, by go_num, by omega, trans_ext hy hx2, HK⟩, by simp [intOf]; omega⟩
                · have HF := Lib.hid (rows_f (a := a) (rows := rows) (by rw [decide_eq_false hC0] at e; rw [← e]; rfl))
                  have hC1 : 0 ≤ C := by omega
                  clear e
                  go_wp2_with (first
                    | (go_at_call 115; refine (AreValidValues_any lr hv).mono ?_; rintro e w' ⟨rfl, rfl⟩; rw [N4.out])
                    | (go_at_call 113; refine (CompareRows_any lr2 hv2 lr hv).mono ?_; rintro e w2 ⟨rfl, hx2⟩; rw [HC.out]))
                  go_ret
                  exact ⟨by rw [HF.out]; rfl, trans_ext hy hx2⟩
              · have HK := Lib.hid (show allN (rowOk a rows) (rows.length - (k + 1)) (k + 1) = allN (rowOk a rows) rows.length 0 by rw [decide_eq_true (show k = 0 by omega)] at e; simpa using e)
                clear e
                go_wp2_with (go_at_call 115; refine (AreValidValues_any lr hv).mono ?_; rintro e w' ⟨rfl, rfl⟩; rw [N4.out])
                exact ⟨⟨k + 1, by go_num, by omega, hy, HK⟩, by simp [intOf]; omega⟩
        · have e := Hj.out
          rw [allN_end hlt] at e
          have HK := Lib.hid (show rowsB a rows = true by rw [HE2.out, ← e])
          clear e Hj
          go_wp2
          go_ret
          exact ⟨by rw [HK.out]; rfl, hy⟩
    · have HE2 := Lib.hid (show rowsB a rows = false by rw [HE.out, decide_eq_false h4]; rfl)
      have h5 : 4000 < rows.length := by omega
      go_enter Tryz.func114, Tryz.ntmps114
      go_wp2_with (go_at_call 109; refine (within_any _ _ _ _).mono ?_; rintro e w' ⟨rfl, rfl⟩; rw [N1.out])
      go_ret
      exact ⟨by rw [HE2.out]; rfl, refl_ext w⟩
theorem rows_lenW {rows : List (List Int)} (h : ∀ x ∈ rows, x.length ≤ 1000000000) (j : Nat) : (rows.getD j []).length ≤ 1000000000 := by
  by_cases hj : j < rows.length
  · rw [List.getD_eq_getElem?_getD, List.getElem?_eq_getElem hj]
    exact h _ (List.getElem_mem hj)
  · rw [List.getD_eq_getElem?_getD, List.getElem?_eq_none (by omega)]
    simp
theorem IsValidRelation_w {a : Int} {A : Option Addr} {c : Nat} {rows : List (List Int)} {w : World} (hx : rows.length ≤ 1000000000) (hxl : ∀ x ∈ rows, x.length ≤ 1000000000) (h1 : RII w A rows) :
    Calls Tryz.prog 94 #[.agg #[.int .i64 a, .slice A rows.length c]] w fun e w' => e = .returned (.bool (rowsB a rows)) ∧ ∃ y, w' = ext w y := by
  have HL := Lib.hid (rows_lenW hxl)
  clear hxl
  go_enter Tryz.func94, Tryz.ntmps94
  go_wp2_with (go_at_call 114; refine (rowsValid_any hx HL.out (h1.toExt (by refine x'z ?_; repeat (with_reducible (first | exact x'a _ _ | exact x'b _ | exact x'c (by assumption) | refine x'd ?_ (by assumption) | refine x'e ?_ _ | refine x'f ?_ _ | refine x'g ?_ | refine x'h ?_ ?_ _ | refine x'i ?_ _ | refine x'j ?_ | refine x'k ?_ _ | refine x'l ?_ _ _ | refine x'm ?_ | assumption | (refine x'n ?_; omega) | omega))))).mono ?_; rintro e w1 ⟨rfl, hx1⟩)
  go_ret
  exact ⟨rfl, (by refine x'z ?_; repeat (with_reducible (first | exact x'a _ _ | exact x'b _ | exact x'c (by assumption) | refine x'd ?_ (by assumption) | refine x'e ?_ _ | refine x'f ?_ _ | refine x'g ?_ | refine x'h ?_ ?_ _ | refine x'i ?_ _ | refine x'j ?_ | refine x'k ?_ _ | refine x'l ?_ _ _ | refine x'm ?_ | assumption | (refine x'n ?_; omega) | omega)))⟩
theorem IsValidRelation_any {A : Option Addr} {c : Nat} {d : Rd} {w : World} (hb : BRel d) (h : vRel w [.int .i64 d.1, .slice A d.2.length c] d) :
    Calls Tryz.prog 94 #[.agg #[.int .i64 d.1, .slice A d.2.length c]] w fun e w' => e = .returned (.bool (rowsB d.1 d.2)) ∧ ∃ y, w' = ext w y := by
  exact IsValidRelation_w (Nat.le_trans hb.2.1 (by omega)) hb.2.big (vII_get (vRel_get h).2).2
end Go.Proofs.YtfigcfajkilhiaaGreat
namespace Go.Proofs.YtfigcfajkilhiaaGreat
open Go.RowKit
theorem getDl {α : Type} (l : List α) (d : α) {i : Nat} (h : i < l.length) : l.getD i d = l[i] := by rw [List.getD_eq_getElem?_getD, List.getElem?_eq_getElem h]; rfl
theorem cmpI_neg (a b : Int) : cmpI a b = - cmpI b a := by unfold cmpI; split <;> split <;> (try split) <;> omega
theorem cmpL_neg : ∀ (xs ys : List Int), cmpL xs ys = - cmpL ys xs
  | [], [] => by simp [cmpL]
  | [], _ :: _ => by simp [cmpL]
  | _ :: _, [] => by simp [cmpL]
  | x :: xs, y :: ys => by
    rw [cmpL, cmpL]
    by_cases h : x = y
    · subst h; rw [if_pos rfl, if_pos rfl]; exact cmpL_neg xs ys
    · rw [if_neg h, if_neg (fun e => h e.symm)]; exact cmpI_neg x y
theorem cmpL_trans : ∀ {xs ys zs : List Int}, cmpL xs ys < 0 → cmpL ys zs < 0 → cmpL xs zs < 0
  | [], [], _, h, _ => by simp [cmpL] at h
  | _ :: _, [], _, h, _ => by simp [cmpL] at h
  | _, _ :: _, [], _, h => by simp [cmpL] at h
  | [], _ :: _, _ :: _, _, _ => by simp [cmpL]
  | x :: xs, y :: ys, z :: zs, h, k => by
    rw [cmpL] at h k ⊢
    by_cases e : x = y
    · subst e
      rw [if_pos rfl] at h
      by_cases e2 : x = z
      · subst e2; rw [if_pos rfl] at k ⊢; exact cmpL_trans h k
      · rw [if_neg e2] at k ⊢; exact k
    · rw [if_neg e] at h
      by_cases e2 : y = z
      · subst e2; rw [if_neg e]; exact h
      · rw [if_neg e2] at k
        unfold cmpI at h k
        by_cases e3 : x = z
        · subst e3
          exfalso
          split at h <;> (try split at h) <;> split at k <;> (try split at k) <;> omega
        · rw [if_neg e3]; unfold cmpI
          split at h <;> (try split at h) <;> split at k <;> (try split at k) <;> (try omega)
theorem cmpL_self (x : List Int) : cmpL x x = 0 := cmpL_zero.2 rfl
theorem cmpL_pos {x y : List Int} (h : 0 < cmpL x y) : cmpL y x < 0 := by rw [cmpL_neg]; omega
def AscR (l : List (List Int)) : Prop := l.Pairwise fun x y => cmpL x y < 0
theorem ascR_nil : AscR [] := List.Pairwise.nil
theorem ascR_ext : ∀ {a b : List (List Int)}, AscR a → AscR b → (∀ x, x ∈ a ↔ x ∈ b) → a = b
  | [], [], _, _, _ => rfl
  | [], y :: b, _, _, h => absurd ((h y).2 (by simp)) (by simp)
  | x :: a, [], _, _, h => absurd ((h x).1 (by simp)) (by simp)
  | x :: a, y :: b, ha, hb, h => by
    unfold AscR at ha hb
    rw [List.pairwise_cons] at ha hb
    have e : x = y := by
      rcases List.mem_cons.1 ((h x).1 (by simp)) with e | e
      · exact e
      · rcases List.mem_cons.1 ((h y).2 (by simp)) with k | k
        · exact k.symm
        · have h1 := hb.1 x e
          have h2 := ha.1 y k
          rw [cmpL_neg] at h1
          omega
    subst e
    rw [ascR_ext ha.2 hb.2 fun z => ?_]
    constructor
    · intro hz
      rcases List.mem_cons.1 ((h z).1 (by simp [hz])) with k | k
      · subst k; have := ha.1 z hz; rw [cmpL_self] at this; omega
      · exact k
    · intro hz
      rcases List.mem_cons.1 ((h z).2 (by simp [hz])) with k | k
      · subst k; have := hb.1 z hz; rw [cmpL_self] at this; omega
      · exact k
theorem ascR_nodup {a : List (List Int)} (h : AscR a) : a.Nodup := List.Pairwise.imp (fun {x y} h => by
  rintro rfl
  rw [cmpL_self] at h
  omega) h
theorem ascR_filter {a : List (List Int)} (p : List Int → Bool) (h : AscR a) : AscR (a.filter p) := List.Pairwise.filter p h
def insRow (x : List Int) : List (List Int) → List (List Int)
  | [] => [x]
  | y :: l => if cmpL x y < 0 then x :: y :: l else if cmpL x y = 0 then y :: l else y :: insRow x l
def sortR (l : List (List Int)) : List (List Int) := l.foldr insRow []
theorem mem_insRow {x z : List Int} : ∀ {l : List (List Int)}, z ∈ insRow x l ↔ z = x ∨ z ∈ l
  | [] => by simp [insRow]
  | y :: l => by
    rw [insRow]
    split
    · simp
    · split
      · rename_i h
        rw [cmpL_zero] at h
        subst h
        simp
      · rw [List.mem_cons, mem_insRow, List.mem_cons]
        constructor
        · rintro (h | h | h)
          · exact .inr (.inl h)
          · exact .inl h
          · exact .inr (.inr h)
        · rintro (h | h | h)
          · exact .inr (.inl h)
          · exact .inl h
          · exact .inr (.inr h)
theorem asc_insRow {x : List Int} : ∀ {l : List (List Int)}, AscR l → AscR (insRow x l)
  | [], _ => by simp [insRow, AscR]
  | y :: l, h => by
    unfold AscR at h
    rw [List.pairwise_cons] at h
    rw [insRow]
    split
    · rename_i h1
      refine List.pairwise_cons.2 ⟨fun z hz => ?_, List.pairwise_cons.2 h⟩
      rcases List.mem_cons.1 hz with e | e
      · subst e; exact h1
      · exact cmpL_trans h1 (h.1 z e)
    · rename_i h1
      split
      · exact List.pairwise_cons.2 h
      · rename_i h2
        refine List.pairwise_cons.2 ⟨fun z hz => ?_, asc_insRow h.2⟩
        rcases mem_insRow.1 hz with e | e
        · subst e
          rw [cmpL_neg]
          have := cmpL_bd z y
          omega
        · exact h.1 z e
theorem mem_sortR {z : List Int} : ∀ {l : List (List Int)}, z ∈ sortR l ↔ z ∈ l
  | [] => by simp [sortR]
  | y :: l => by
    have := mem_sortR (z := z) (l := l)
    unfold sortR at this ⊢
    rw [List.foldr_cons, mem_insRow, List.mem_cons, this]
theorem asc_sortR : ∀ (l : List (List Int)), AscR (sortR l)
  | [] => ascR_nil
  | y :: l => by
    have := asc_sortR l
    unfold sortR at this ⊢
    rw [List.foldr_cons]
    exact asc_insRow this
theorem sortR_eq {a l : List (List Int)} (h : AscR a) (hm : ∀ x, x ∈ a ↔ x ∈ l) : a = sortR l := ascR_ext h (asc_sortR l) fun x => by rw [hm, mem_sortR]
theorem insRow_length {x : List Int} : ∀ {l : List (List Int)}, (insRow x l).length ≤ l.length + 1
  | [] => by simp [insRow]
  | y :: l => by
    rw [insRow]
    split
    · simp
    · split
      · simp
      · have := insRow_length (x := x) (l := l)
        simp
        omega
theorem sortR_length : ∀ (l : List (List Int)), (sortR l).length ≤ l.length
  | [] => by simp [sortR]
  | y :: l => by
    have := sortR_length l
    unfold sortR at this ⊢
    rw [List.foldr_cons]
    have := insRow_length (x := y) (l := l.foldr insRow [])
    simp
    omega
theorem sortR_small {l : List (List Int)} (h : l.length < 2) : sortR l = l := by
  match l, h with
  | [], _ => rfl
  | [x], _ => rfl
structure MI (rows out a b : List (List Int)) : Prop where
  o : AscR out
  sa : AscR a
  sb : AscR b
  la : ∀ x ∈ out, ∀ y ∈ a, cmpL x y ≤ 0
  lb : ∀ x ∈ out, ∀ y ∈ b, cmpL x y ≤ 0
  m : ∀ x, x ∈ rows ↔ x ∈ out ∨ x ∈ a ∨ x ∈ b
structure MS (rows out a b : List (List Int)) : Prop where
  o : AscR out
  sa : AscR a
  sb : AscR b
  la : ∀ x ∈ out, ∀ y ∈ a, cmpL x y < 0
  lb : ∀ x ∈ out, ∀ y ∈ b, cmpL x y < 0
  m : ∀ x, x ∈ rows ↔ x ∈ out ∨ x ∈ a ∨ x ∈ b
theorem MI.start {rows a b : List (List Int)} (ha : a = sortR (rows.take (rows.length / 2))) (hb : b = sortR (rows.drop (rows.length / 2))) : MI rows [] a b :=
  ⟨ascR_nil, ha ▸ asc_sortR _, hb ▸ asc_sortR _, by simp, by simp, fun x => by
    rw [ha, hb, mem_sortR, mem_sortR, ← List.mem_append.trans Iff.rfl, List.take_append_drop]
    simp⟩
theorem MS.start {rows a b : List (List Int)} (ha : a = sortR (rows.take (rows.length / 2))) (hb : b = sortR (rows.drop (rows.length / 2))) : MS rows [] a b :=
  have h := MI.start ha hb
  ⟨h.o, h.sa, h.sb, by simp, by simp, h.m⟩
theorem MI.done {rows out : List (List Int)} (h : MI rows out [] []) : out = sortR rows := sortR_eq h.o fun x => by simpa using (h.m x).symm
theorem MS.done {rows out : List (List Int)} (h : MS rows out [] []) : out = sortR rows := sortR_eq h.o fun x => by simpa using (h.m x).symm
theorem asc_snoc {out : List (List Int)} {x : List Int} (h : AscR out) (hx : ∀ y ∈ out, cmpL y x < 0) : AscR (out ++ [x]) :=
  List.pairwise_append.2 ⟨h, List.pairwise_singleton _ _, fun y hy z hz => by rw [List.mem_singleton.1 hz]; exact hx y hy⟩
theorem AscR.tail {x : List Int} {l : List (List Int)} (h : AscR (x :: l)) : AscR l := (List.pairwise_cons.1 h).2
theorem AscR.head {x : List Int} {l : List (List Int)} (h : AscR (x :: l)) : ∀ y ∈ l, cmpL x y < 0 := (List.pairwise_cons.1 h).1
theorem MS.left {rows out a b : List (List Int)} {x : List Int} (h : MS rows out (x :: a) b) (hb : ∀ y ∈ b, cmpL x y < 0) : MS rows (out ++ [x]) a b where
  o := asc_snoc h.o fun y hy => h.la y hy x (by simp)
  sa := h.sa.tail
  sb := h.sb
  la := fun y hy z hz => by
    rcases List.mem_append.1 hy with k | k
    · exact h.la y k z (by simp [hz])
    · rw [List.mem_singleton.1 k]; exact h.sa.head z hz
  lb := fun y hy z hz => by
    rcases List.mem_append.1 hy with k | k
    · exact h.lb y k z hz
    · rw [List.mem_singleton.1 k]; exact hb z hz
  m := fun z => by rw [h.m]; simp only [List.mem_append, List.mem_cons, List.not_mem_nil, or_false]; grind
theorem MS.right {rows out a b : List (List Int)} {y : List Int} (h : MS rows out a (y :: b)) (ha : ∀ x ∈ a, cmpL y x < 0) : MS rows (out ++ [y]) a b where
  o := asc_snoc h.o fun z hz => h.lb z hz y (by simp)
  sa := h.sa
  sb := h.sb.tail
  la := fun u hu z hz => by
    rcases List.mem_append.1 hu with k | k
    · exact h.la u k z hz
    · rw [List.mem_singleton.1 k]; exact ha z hz
  lb := fun u hu z hz => by
    rcases List.mem_append.1 hu with k | k
    · exact h.lb u k z (by simp [hz])
    · rw [List.mem_singleton.1 k]; exact h.sb.head z hz
  m := fun z => by rw [h.m]; simp only [List.mem_append, List.mem_cons, List.not_mem_nil, or_false]; grind
theorem MS.both {rows out a b : List (List Int)} {x : List Int} (h : MS rows out (x :: a) (x :: b)) : MS rows (out ++ [x]) a b where
  o := asc_snoc h.o fun z hz => h.lb z hz x (by simp)
  sa := h.sa.tail
  sb := h.sb.tail
  la := fun u hu z hz => by
    rcases List.mem_append.1 hu with k | k
    · exact h.la u k z (by simp [hz])
    · rw [List.mem_singleton.1 k]; exact h.sa.head z hz
  lb := fun u hu z hz => by
    rcases List.mem_append.1 hu with k | k
    · exact h.lb u k z (by simp [hz])
    · rw [List.mem_singleton.1 k]; exact h.sb.head z hz
  m := fun z => by rw [h.m]; simp only [List.mem_append, List.mem_cons, List.not_mem_nil, or_false]; grind
theorem lt_tail {x y : List Int} {b : List (List Int)} (hb : AscR (y :: b)) (h : cmpL x y < 0) : ∀ z ∈ y :: b, cmpL x z < 0 := fun z hz => by
  rcases List.mem_cons.1 hz with k | k
  · rw [k]; exact h
  · exact cmpL_trans h (hb.head z k)
theorem le_tail {x y : List Int} {b : List (List Int)} (hb : AscR (y :: b)) (h : cmpL x y ≤ 0) : ∀ z ∈ y :: b, cmpL x z ≤ 0 := fun z hz => by
  rcases Int.lt_or_eq_of_le h with h1 | h1
  · exact Int.le_of_lt (lt_tail hb h1 z hz)
  · obtain rfl := cmpL_zero.1 h1
    rcases List.mem_cons.1 hz with k | k
    · rw [k]; exact h
    · exact Int.le_of_lt (hb.head z k)
theorem MI.left {rows out a b : List (List Int)} {x : List Int} (h : MI rows out (x :: a) b) (hb : ∀ y ∈ b, cmpL x y ≤ 0) (hl : ∀ z, out.getLast? = some z → cmpL z x ≠ 0) : MI rows (out ++ [x]) a b where
  o := asc_snoc h.o fun y hy => by
    have h1 := h.la y hy x (by simp)
    rcases Int.lt_or_eq_of_le h1 with h2 | h2
    · exact h2
    · exfalso
      obtain rfl := cmpL_zero.1 h2
      obtain ⟨z, hz⟩ : ∃ z, out.getLast? = some z := by
        cases hg : out.getLast? with
        | none => rw [List.getLast?_eq_none_iff] at hg; subst hg; simp at hy
        | some z => exact ⟨z, rfl⟩
      have hzm := List.mem_of_getLast? hz
      have h3 := hl z hz
      have h4 := h.la z hzm y (by simp)
      obtain ⟨ys, e⟩ := List.getLast?_eq_some_iff.1 hz
      subst e
      have ho := h.o
      unfold AscR at ho
      rw [List.pairwise_append] at ho
      rcases List.mem_append.1 hy with k | k
      · have h5 := ho.2.2 y k z (by simp)
        rw [cmpL_neg] at h5
        omega
      · rw [List.mem_singleton.1 k, cmpL_self] at h3
        exact h3 rfl
  sa := h.sa.tail
  sb := h.sb
  la := fun y hy z hz => by
    rcases List.mem_append.1 hy with k | k
    · exact h.la y k z (by simp [hz])
    · rw [List.mem_singleton.1 k]; exact Int.le_of_lt (h.sa.head z hz)
  lb := fun y hy z hz => by
    rcases List.mem_append.1 hy with k | k
    · exact h.lb y k z hz
    · rw [List.mem_singleton.1 k]; exact hb z hz
  m := fun z => by rw [h.m]; simp only [List.mem_append, List.mem_cons, List.not_mem_nil, or_false]; grind
theorem MI.swap {rows out a b : List (List Int)} (h : MI rows out a b) : MI rows out b a := ⟨h.o, h.sb, h.sa, h.lb, h.la, fun x => by rw [h.m]; constructor <;> (intro k; rcases k with k | k | k <;> simp [k])⟩
theorem MI.right {rows out a b : List (List Int)} {x : List Int} (h : MI rows out a (x :: b)) (ha : ∀ y ∈ a, cmpL x y ≤ 0) (hl : ∀ z, out.getLast? = some z → cmpL z x ≠ 0) : MI rows (out ++ [x]) a b := (h.swap.left ha hl).swap
theorem MI.skipL {rows out a b : List (List Int)} {x : List Int} (h : MI rows out (x :: a) b) (hx : x ∈ out) : MI rows out a b :=
  ⟨h.o, h.sa.tail, h.sb, fun y hy z hz => h.la y hy z (by simp [hz]), h.lb, fun z => by
    rw [h.m]; constructor
    · rintro (k | k | k)
      · exact .inl k
      · rcases List.mem_cons.1 k with k | k
        · subst k; exact .inl hx
        · exact .inr (.inl k)
      · exact .inr (.inr k)
    · rintro (k | k | k)
      · exact .inl k
      · exact .inr (.inl (by simp [k]))
      · exact .inr (.inr k)⟩
theorem MI.skipR {rows out a b : List (List Int)} {x : List Int} (h : MI rows out a (x :: b)) (hx : x ∈ out) : MI rows out a b := (h.swap.skipL hx).swap
theorem asc_get {rows : List (List Int)} (h : AscR rows) {i j : Nat} (hij : i < j) (hj : j < rows.length) : cmpL rows[i] rows[j] < 0 := List.pairwise_iff_getElem.1 h i j (by omega) hj hij
theorem place_mem {rows : List (List Int)} {row : List Int} {k : Nat} (h : AscR rows) (hl : ∀ i (h : i < rows.length), i < k → cmpL rows[i] row < 0) (hr : ∀ i (h : i < rows.length), k ≤ i → ¬ cmpL rows[i] row < 0) :
    (decide (k < rows.length) && decide (cmpL (rows.getD k []) row = 0)) = decide (row ∈ rows) := by
  rw [Bool.eq_iff_iff]
  simp only [Bool.and_eq_true, decide_eq_true_eq]
  constructor
  · rintro ⟨h1, h2⟩
    rw [cmpL_zero] at h2
    rw [← h2, getDl _ _ h1]
    exact List.getElem_mem h1
  · intro hm
    obtain ⟨i, hi, rfl⟩ := List.getElem_of_mem hm
    have hik : ¬ i < k := fun hlt => by have := hl i hi hlt; rw [cmpL_self] at this; omega
    have hki : k ≤ i := by omega
    rcases Nat.lt_or_eq_of_le hki with h1 | h1
    · have := asc_get h h1 hi
      exact absurd this (hr k (by omega) (Nat.le_refl _))
    · subst h1
      exact ⟨hi, by rw [getDl _ _ hi, cmpL_self]⟩
def rowsIn (a : Int) (rows : List (List Int)) : Bool := rows.all fun r => decide ((r.length : Int) = a) && rowV r
def newR (a : Int) (rows : List (List Int)) : Option Rd := if rowsIn a rows = true ∧ rowsB a (sortR rows) = true then some (a, sortR rows) else none
theorem allN_true {p : Nat → Bool} : ∀ {n k : Nat}, allN p n k = true ↔ ∀ i, k ≤ i → i < k + n → p i = true
  | 0, k => by simp [allN]; intro i h1 h2; omega
  | n + 1, k => by
    rw [allN, Bool.and_eq_true, allN_true]
    constructor
    · rintro ⟨h1, h2⟩ i h3 h4
      rcases Nat.lt_or_eq_of_le h3 with h5 | h5
      · exact h2 i (by omega) (by omega)
      · subst h5; exact h1
    · exact fun h => ⟨h k (Nat.le_refl _) (by omega), fun i h1 h2 => h i (by omega) (by omega)⟩
theorem rowsB_iff {a : Int} {rows : List (List Int)} : rowsB a rows = true ↔ 0 ≤ a ∧ a ≤ 5 ∧ rows.length ≤ 4000 ∧ (∀ r ∈ rows, (r.length : Int) = a ∧ rowV r = true) ∧ AscR rows := by
  unfold rowsB
  rw [Bool.and_eq_true, Bool.and_eq_true, allN_true]
  constructor
  · rintro ⟨⟨h1, h2⟩, h3⟩
    have := inB_t h1
    refine ⟨this.1, this.2, by simpa using h2, fun r hr => ?_, ?_⟩
    · obtain ⟨i, hi, rfl⟩ := List.getElem_of_mem hr
      have := h3 i (by omega) (by omega)
      unfold rowOk at this
      rw [getDl _ _ hi] at this
      simp only [Bool.and_eq_true, decide_eq_true_eq] at this
      exact this.1
    · unfold AscR
      -- neighbours ascend, so all do
      have hn : ∀ i (h : i + 1 < rows.length), cmpL rows[i] rows[i + 1] < 0 := fun i h => by
        have := h3 (i + 1) (by omega) (by omega)
        unfold rowOk at this
        rw [getDl _ _ h, show i + 1 - 1 = i by omega, getDl _ _ (show i < rows.length by omega)] at this
        simp only [Bool.and_eq_true, Bool.or_eq_true, decide_eq_true_eq] at this
        rcases this.2 with k | k
        · omega
        · exact k
      rw [List.pairwise_iff_getElem]
      intro i j hi hj hij
      obtain ⟨d, rfl⟩ : ∃ d, j = i + 1 + d := ⟨j - i - 1, by omega⟩
      induction d with
      | zero => exact hn i hj
      | succ d ih => exact cmpL_trans (ih (by omega) (by omega)) (hn (i + 1 + d) hj)
  · rintro ⟨h1, h2, h3, h4, h5⟩
    refine ⟨⟨by simp [inB, h1, h2], by simpa using h3⟩, fun i _ hi => ?_⟩
    rw [Nat.zero_add] at hi
    unfold rowOk
    rw [getDl _ _ hi]
    have h6 := h4 _ (List.getElem_mem hi)
    simp only [Bool.and_eq_true, decide_eq_true_eq, Bool.or_eq_true]
    refine ⟨⟨h6.1, h6.2⟩, ?_⟩
    rcases Nat.eq_zero_or_pos i with h7 | h7
    · exact .inl h7
    · right
      rw [getDl _ _ (show i - 1 < rows.length by omega)]
      exact asc_get h5 (by omega) hi
theorem rowsIn_iff {a : Int} {rows : List (List Int)} : rowsIn a rows = true ↔ ∀ r ∈ rows, (r.length : Int) = a ∧ rowV r = true := by
  unfold rowsIn
  simp
theorem newR_some {a : Int} {rows : List (List Int)} (h : rowsIn a rows = true) (h1 : 0 ≤ a) (h2 : a ≤ 5) (h3 : (sortR rows).length ≤ 4000) : newR a rows = some (a, sortR rows) := by
  unfold newR
  rw [if_pos ⟨h, rowsB_iff.2 ⟨h1, h2, h3, fun r hr => rowsIn_iff.1 h r (mem_sortR.1 hr), asc_sortR _⟩⟩]
theorem newR_valid {a : Int} {rows : List (List Int)} {d : Rd} (h : newR a rows = some d) : rowsB d.1 d.2 = true ∧ d = (a, sortR rows) := by
  unfold newR at h
  split at h
  · rename_i hh
    injection h with h
    subst h
    exact ⟨hh.2, rfl⟩
  · cases h
theorem newR_none {a : Int} {rows : List (List Int)} : newR a rows = none ↔ ¬ (rowsIn a rows = true ∧ rowsB a (sortR rows) = true) := by
  unfold newR
  split <;> simp_all
end Go.Proofs.YtfigcfajkilhiaaGreat
namespace Go.Proofs.YtfigcfajkilhiaaGreat
open Go.RowKit
def letB (b : UInt8) : Bool := decide (97 ≤ b.toNat ∧ b.toNat ≤ 122)
def nameB (s : ByteArray) : Bool := inB s.size 1 4 && (bl s).all letB
theorem letB_t {b : UInt8} (h : letB b = true) : 97 ≤ (b.toNat : Int) ∧ (b.toNat : Int) ≤ 122 := by simp [letB] at h; omega
theorem letB_f {b : UInt8} (h : ¬ letB b = true) : (b.toNat : Int) < 97 ∨ 122 < (b.toNat : Int) := by simp [letB] at h; omega
theorem lets_step {s : ByteArray} {k : Nat} (h : k < s.size) : ((bl s).drop k).all letB = (letB s[k] && ((bl s).drop (k + 1)).all letB) := by
  rw [List.drop_eq_getElem_cons (by rw [bl_length]; exact h), List.all_cons, bl_get s h]
theorem lets_end {s : ByteArray} {k : Nat} (h : ¬ k < s.size) : ((bl s).drop k).all letB = true := by
  rw [List.drop_eq_nil_of_le (by rw [bl_length]; omega)]; rfl
set_option maxHeartbeats 400000 in
theorem isLetters_any {s : ByteArray} {w : World} (hs : s.size ≤ 1000000000) :
    Calls Tryz.prog 123 #[.string s, .int .i64 4] w fun e w' => e = .returned (.bool (nameB s)) ∧ w = w' := by
  by_cases h1 : s.size < 1
  · have HE := Lib.hid (show nameB s = false by unfold nameB inB; rw [decide_eq_false (by omega), Bool.false_and])
    go_enter Tryz.func123, Tryz.ntmps123
    go_wp2
    go_ret
    exact ⟨by rw [HE.out]; rfl, rfl⟩
  · by_cases h2 : 4 < s.size
    · have HE := Lib.hid (show nameB s = false by unfold nameB inB; rw [decide_eq_false (by omega), Bool.false_and])
      go_enter Tryz.func123, Tryz.ntmps123
      go_wp2
      go_ret
      exact ⟨by rw [HE.out]; rfl, rfl⟩
    · have HE := Lib.hid (show nameB s = (bl s).all letB by unfold nameB inB; rw [decide_eq_true (by omega), Bool.true_and])
      go_enter Tryz.func123, Tryz.ntmps123
      go_wp2
      go_loop [5] (fun i => ∃ k : Nat, i = .int .i64 k ∧ k ≤ s.size ∧ ((bl s).drop k).all letB = nameB s) (fun i => s.size - (intOf i).toNat)
      case atStart => exact ⟨0, rfl, by omega, by rw [HE.out]; simp⟩
      case round =>
        obtain ⟨k, rfl, hk, hj⟩ := hrel
        have Hj := Lib.hid hj
        clear hj
        by_cases hlt : k < s.size
        · have e := Hj.out
          rw [lets_step hlt] at e
          by_cases hl : letB s[k] = true
          · obtain ⟨q1, q2⟩ := letB_t hl
            rw [hl, Bool.true_and] at e
            have He := Lib.hid e
            clear e hl
            go_wp2
            exact ⟨⟨k + 1, by go_num, by omega, He.out⟩, by simp [intOf]; omega⟩
          · rw [show letB s[k] = false by simpa using hl, Bool.false_and] at e
            have He := Lib.hid e
            rcases letB_f hl with q | q
            all_goals
              clear e hl
              go_wp2
              go_ret
              exact ⟨by rw [← He.out]; rfl, rfl⟩
        · have e := Hj.out
          rw [lets_end hlt] at e
          have He := Lib.hid e
          clear e
          go_wp2
          go_ret
          exact ⟨by rw [← He.out]; rfl, rfl⟩
theorem IsValidName_any {s : ByteArray} {w : World} (hs : s.size ≤ 1000000000) :
    Calls Tryz.prog 119 #[.string s] w fun e w' => e = .returned (.bool (nameB s)) ∧ w = w' := by
  go_enter Tryz.func119, Tryz.ntmps119
  go_wp2_with (go_at_call 123; refine (isLetters_any hs).mono ?_; rintro e w' ⟨rfl, rfl⟩)
  go_ret
  exact ⟨rfl, rfl⟩
set_option maxHeartbeats 400000 in
theorem specIsValidName_any {s : ByteArray} {w : World} (hs : s.size ≤ 1000000000) :
    Calls Tryz.prog 100 #[.string s] w fun e w' => e = .returned (.bool (nameB s)) ∧ w = w' := by
  go_enter Tryz.func100, Tryz.ntmps100
  go_wp2
  go_loop [3] (fun i => ∃ k : Nat, i = .int .i64 k ∧ k ≤ s.size ∧ ((bl s).drop k).all letB = (bl s).all letB) (fun i => s.size - (intOf i).toNat)
  case atStart => exact ⟨0, rfl, by omega, by simp⟩
  case round =>
    obtain ⟨k, rfl, hk, hj⟩ := hrel
    have Hj := Lib.hid hj
    clear hj
    by_cases hlt : k < s.size
    · have e := Hj.out
      rw [lets_step hlt] at e
      by_cases hl : letB s[k] = true
      · obtain ⟨q1, q2⟩ := letB_t hl
        rw [hl, Bool.true_and] at e
        have He := Lib.hid e
        clear e hl
        go_wp2
        exact ⟨⟨k + 1, by go_num, by omega, He.out⟩, by simp [intOf]; omega⟩
      · rw [show letB s[k] = false by simpa using hl, Bool.false_and] at e
        have He := Lib.hid (show nameB s = false by unfold nameB; rw [← e, Bool.and_false])
        rcases letB_f hl with q | q
        all_goals
          clear e hl
          go_wp2
          go_ret
          exact ⟨by rw [He.out]; rfl, rfl⟩
    · have e := Hj.out
      rw [lets_end hlt] at e
      have He := Lib.hid (show nameB s = inB s.size 1 4 by unfold nameB; rw [← e, Bool.and_true])
      clear e
      go_wp2_with (go_at_call 91; refine (l1In_any _ _ _ _).mono ?_; rintro e w' ⟨rfl, rfl⟩)
      go_ret
      exact ⟨by rw [He.out]; rfl, rfl⟩
def setB (n : Int) : List Int → List Int → Bool
  | _, [] => true
  | pre, x :: xs => inB x 0 (n - 1) && !decide (x ∈ pre) && setB n (pre ++ [x]) xs
theorem setB_step {n : Int} {xs : List Int} {k : Nat} (h : k < xs.length) : setB n (xs.take k) (xs.drop k) = (inB xs[k] 0 (n - 1) && !decide (xs[k] ∈ xs.take k) && setB n (xs.take (k + 1)) (xs.drop (k + 1))) := by
  rw [List.drop_eq_getElem_cons h, setB, List.take_succ_eq_append_getElem h]
theorem setB_end {n : Int} {xs : List Int} {k : Nat} (h : ¬ k < xs.length) : setB n (xs.take k) (xs.drop k) = true := by
  rw [List.drop_eq_nil_of_le (by omega), setB]
theorem setB_sound : ∀ {n : Int} {xs pre : List Int}, setB n pre xs = true → (∀ x ∈ xs, 0 ≤ x ∧ x < n) ∧ xs.Nodup ∧ ∀ x ∈ xs, x ∉ pre
  | n, [], pre, _ => ⟨by simp, by simp, by simp⟩
  | n, x :: xs, pre, h => by
    rw [setB, Bool.and_eq_true, Bool.and_eq_true] at h
    obtain ⟨⟨h1, h2⟩, h3⟩ := h
    have h1 := inB_t h1
    obtain ⟨a, b, c⟩ := setB_sound h3
    refine ⟨?_, ?_, ?_⟩
    · intro y hy
      rcases List.mem_cons.1 hy with e | e
      · subst e; omega
      · exact a y e
    · refine List.nodup_cons.2 ⟨fun hm => ?_, b⟩
      have := c x hm
      simp at this
    · intro y hy
      rcases List.mem_cons.1 hy with e | e
      · subst e; simpa using h2
      · intro hp
        have := c y e
        simp [hp] at this
theorem nodup_len : ∀ (n : Nat) (xs : List Int), xs.Nodup → (∀ x ∈ xs, 0 ≤ x ∧ x < n) → xs.length ≤ n
  | 0, xs, _, h => by
    cases xs with
    | nil => simp
    | cons x xs => have := h x (by simp); omega
  | n + 1, xs, hn, h => by
    by_cases hm : (n : Int) ∈ xs
    · obtain ⟨s, t, rfl⟩ := List.append_of_mem hm
      have hn2 := List.nodup_append.1 hn
      have hn3 := List.nodup_cons.1 hn2.2.1
      have h2 : (s ++ t).Nodup := List.nodup_append.2 ⟨hn2.1, hn3.2, fun a ha b hb => hn2.2.2 a ha b (by simp [hb])⟩
      have := nodup_len n (s ++ t) h2 fun x hx => by
        have h3 := h x (by rcases List.mem_append.1 hx with e | e <;> simp [e])
        have h4 : x ≠ n := by
          rintro rfl
          rcases List.mem_append.1 hx with e | e
          · exact hn2.2.2 _ e _ (by simp) rfl
          · exact hn3.1 e
        omega
      simp at this ⊢
      omega
    · have := nodup_len n xs hn fun x hx => by
        have h3 := h x hx
        have h4 : x ≠ n := by rintro rfl; exact hm hx
        omega
      omega
theorem setB_len {n : Int} {xs : List Int} (h : setB n [] xs = true) (hn : 0 ≤ n) : (xs.length : Int) ≤ n := by
  obtain ⟨a, b, _⟩ := setB_sound h
  have := nodup_len n.toNat xs b fun x hx => by have := a x hx; omega
  omega
theorem RV.pre {w : World} {α : Type} {size : Nat} {E : VE α} {A : Option Addr} {xs : List α} (h : RV size E w A xs) (k : Nat) : RV size E w A (xs.take k) := fun hn => by
  obtain ⟨b, o, h1, h2, h3⟩ := h (by intro e; subst e; simp at hn)
  refine ⟨b, o, h1, h2, fun j hj => ?_⟩
  simp only [List.length_take] at hj
  obtain ⟨c, hc, hr, he⟩ := h3 j (by omega)
  exact ⟨c, hc, hr, by simpa using he⟩
theorem hasInt_n {A : Option Addr} {c m : Nat} {xs : List Int} {n : Int} {w : World} (hm : xs.length = m) (hx : m ≤ 1000000000) (h1 : RI w A xs) :
    Calls Tryz.prog 121 #[.slice A m c, .int .i64 n] w fun e w' => e = .returned (.bool (decide (n ∈ xs))) ∧ ∃ y, w' = ext w y := by
  subst hm
  exact hasInt_any hx h1
set_option maxHeartbeats 1000000 in
theorem isSetOf_any {A : Option Addr} {c : Nat} {xs : List Int} {n : Int} {w : World} (hx : xs.length ≤ 1000000000) (hcap : xs.length ≤ c) (h1 : RI w A xs) (hn0 : 0 ≤ n) (hn1 : n ≤ 1000) :
    Calls Tryz.prog 118 #[.slice A xs.length c, .int .i64 n] w fun e w' => e = .returned (.bool (setB n [] xs)) ∧ ∃ y, w' = ext w y := by
  go_enter Tryz.func118, Tryz.ntmps118
  go_wp2
  go_loopw [9] (fun i wr => ∃ k : Nat, i = .int .i64 k ∧ k ≤ xs.length ∧ setB n (xs.take k) (xs.drop k) = setB n [] xs ∧ ∃ y, wr = ext w y) (fun i _ => xs.length - (intOf i).toNat)
  case atStart => exact ⟨0, rfl, by omega, by simp, refl_ext w⟩
  case round =>
    obtain ⟨k, rfl, hk, hj, hy⟩ := hrel
    have Hj := Lib.hid hj
    clear hj
    by_cases hlt : k < xs.length
    · have h1' := h1.toExt hy
      obtain ⟨b, o, rfl, hb, hc⟩ := h1'.atI hlt
      have e := Hj.out
      rw [setB_step hlt] at e
      obtain ⟨t1, ht1⟩ : ∃ t, inB xs[k] 0 (n - 1) = t := ⟨_, rfl⟩
      obtain ⟨t2, ht2⟩ : ∃ t, decide (xs[k] ∈ xs.take k) = t := ⟨_, rfl⟩
      rw [ht1, ht2] at e
      have T1 := Lib.hid ht1
      have T2 := Lib.hid ht2
      have He := Lib.hid e
      have hp := h1'.pre k
      have hpl : (xs.take k).length = k := by simp; omega
      have HP := Lib.hid hpl
      clear e ht1 ht2 hpl
      cases t1 with
      | false =>
        go_wp2_with (go_at_call 109; refine (within_any _ _ _ _).mono ?_; rintro e w' ⟨rfl, rfl⟩; rw [T1.out])
        go_ret
        exact ⟨by rw [← He.out]; rfl, hy⟩
      | true =>
        cases t2 with
        | true =>
          go_wp2_with (first
            | (go_at_call 109; refine (within_any _ _ _ _).mono ?_; rintro e w' ⟨rfl, rfl⟩; rw [T1.out])
            | (go_at_call 121; refine (hasInt_n HP.out (by omega) hp).mono ?_; rintro e w' ⟨rfl, hx1⟩; rw [T2.out]))
          go_ret
          exact ⟨by rw [← He.out]; rfl, (by refine x'z ?_; repeat (with_reducible (first | exact x'a _ _ | exact x'b _ | exact x'c (by assumption) | refine x'd ?_ (by assumption) | refine x'e ?_ _ | refine x'f ?_ _ | refine x'g ?_ | refine x'h ?_ ?_ _ | refine x'i ?_ _ | refine x'j ?_ | refine x'k ?_ _ | refine x'l ?_ _ _ | refine x'm ?_ | assumption | (refine x'n ?_; omega) | omega)))⟩
        | false =>
          go_wp2_with (first
            | (go_at_call 109; refine (within_any _ _ _ _).mono ?_; rintro e w' ⟨rfl, rfl⟩; rw [T1.out])
            | (go_at_call 121; refine (hasInt_n HP.out (by omega) hp).mono ?_; rintro e w' ⟨rfl, hx1⟩; rw [T2.out]))
          exact ⟨⟨k + 1, by go_num, by omega, by simpa using He.out, (by refine x'z ?_; repeat (with_reducible (first | exact x'a _ _ | exact x'b _ | exact x'c (by assumption) | refine x'd ?_ (by assumption) | refine x'e ?_ _ | refine x'f ?_ _ | refine x'g ?_ | refine x'h ?_ ?_ _ | refine x'i ?_ _ | refine x'j ?_ | refine x'k ?_ _ | refine x'l ?_ _ _ | refine x'm ?_ | assumption | (refine x'n ?_; omega) | omega)))⟩, by simp [intOf]; omega⟩
    · have e := Hj.out
      rw [setB_end hlt] at e
      have He := Lib.hid e
      clear e
      go_wp2
      go_ret
      exact ⟨by rw [← He.out]; rfl, hy⟩
set_option maxHeartbeats 400000 in
theorem l7Find_any {A : Option Addr} {c : Nat} {xs : List Int} {n : Int} {w : World} (hx : xs.length ≤ 1000000000) (h1 : RI w A xs) :
    Calls Tryz.prog 89 #[.slice A xs.length c, .int .i64 n] w fun e w' => e = .returned (.int .i64 (iof 0 n xs)) ∧ ∃ y, w' = ext w y := by
  go_enter Tryz.func89, Tryz.ntmps89
  go_wp2
  go_loop [5] (fun i => ∃ k : Nat, i = .int .i64 k ∧ k ≤ xs.length ∧ iof k n (xs.drop k) = iof 0 n xs) (fun i => xs.length - (intOf i).toNat)
  case atStart => exact ⟨0, rfl, by omega, by simp⟩
  case round =>
    obtain ⟨k, rfl, hk, hj⟩ := hrel
    have Hj := Lib.hid hj
    clear hj
    by_cases hlt : k < xs.length
    · obtain ⟨b, o, rfl, hb, hc⟩ := h1.atI hlt
      go_wp2
      · go_ret
        have e := Hj.out
        rw [iof_step hlt, if_pos (by simpa using ‹(xs[k] == n) = true›)] at e
        exact ⟨by rw [← e]; rfl, refl_ext w⟩
      · have e := Hj.out
        rw [iof_step hlt, if_neg (by simpa using ‹(xs[k] == n) = false›)] at e
        exact ⟨⟨k + 1, by go_num, by omega, e⟩, by simp [intOf]; omega⟩
    · go_wp2
      go_ret
      have e := Hj.out
      rw [List.drop_eq_nil_of_le (by omega)] at e
      exact ⟨by rw [← e]; rfl, refl_ext w⟩
end Go.Proofs.YtfigcfajkilhiaaGreat
namespace Go.Proofs.YtfigcfajkilhiaaGreat
open Go.RowKit
abbrev Td := ByteArray × Rd
abbrev Dbd := List Td
def sLt (a b : ByteArray) : Bool := Op.bytesLess a.toList b.toList
theorem bl_trans : ∀ {a b c : List UInt8}, Op.bytesLess a b = true → Op.bytesLess b c = true → Op.bytesLess a c = true
  | _, [], _, h, _ => by simp [Op.bytesLess] at h
  | _, _ :: _, [], _, k => by simp [Op.bytesLess] at k
  | [], _ :: _, _ :: _, _, _ => by simp [Op.bytesLess]
  | a :: x, b :: y, c :: z, h, k => by
    simp only [Op.bytesLess, Bool.or_eq_true, decide_eq_true_eq, Bool.and_eq_true, beq_iff_eq] at h k ⊢
    rcases h with h | ⟨rfl, h⟩
    · rcases k with k | ⟨rfl, k⟩
      · exact .inl (UInt8.lt_trans h k)
      · exact .inl h
    · rcases k with k | ⟨rfl, k⟩
      · exact .inl k
      · exact .inr ⟨rfl, bl_trans h k⟩
theorem sLt_trans {a b c : ByteArray} (h : sLt a b = true) (k : sLt b c = true) : sLt a c = true := bl_trans h k
def zT : Td := (⟨#[]⟩, 0, [])
def tOk (d : Dbd) (i : Nat) : Bool := nameB (d.getD i zT).1 && (decide (i = 0) || sLt (d.getD (i - 1) zT).1 (d.getD i zT).1) && rowsB (d.getD i zT).2.1 (d.getD i zT).2.2 && decide (1 ≤ (d.getD i zT).2.1) && decide ((d.getD i zT).2.2.length ≤ 16)
def dbB (d : Dbd) : Bool := decide (d.length ≤ 6) && allN (tOk d) d.length 0
structure TOk (t : Td) : Prop where
  nm : nameB t.1 = true
  rel : rowsB t.2.1 t.2.2 = true
  ar : 1 ≤ t.2.1
  cnt : t.2.2.length ≤ 16
def AscT (d : Dbd) : Prop := d.Pairwise fun x y => sLt x.1 y.1 = true
theorem dbB_iff {d : Dbd} : dbB d = true ↔ d.length ≤ 6 ∧ (∀ t ∈ d, TOk t) ∧ AscT d := by
  unfold dbB
  rw [Bool.and_eq_true, decide_eq_true_eq, allN_true]
  refine and_congr_right fun _ => ?_
  constructor
  · intro h
    refine ⟨fun t ht => ?_, ?_⟩
    · obtain ⟨i, hi, rfl⟩ := List.getElem_of_mem ht
      have := h i (by omega) (by omega)
      unfold tOk at this
      rw [getDl _ _ hi] at this
      simp only [Bool.and_eq_true, decide_eq_true_eq] at this
      exact ⟨this.1.1.1.1, this.1.1.2, this.1.2, this.2⟩
    · have hn : ∀ i (h : i + 1 < d.length), sLt d[i].1 d[i + 1].1 = true := fun i hi => by
        have := h (i + 1) (by omega) (by omega)
        unfold tOk at this
        rw [getDl _ _ hi, show i + 1 - 1 = i by omega, getDl _ _ (show i < d.length by omega)] at this
        simp only [Bool.and_eq_true, Bool.or_eq_true, decide_eq_true_eq] at this
        rcases this.1.1.1.2 with k | k
        · omega
        · exact k
      unfold AscT
      rw [List.pairwise_iff_getElem]
      intro i j hi hj hij
      obtain ⟨e, rfl⟩ : ∃ e, j = i + 1 + e := ⟨j - i - 1, by omega⟩
      induction e with
      | zero => exact hn i hj
      | succ e ih => exact sLt_trans (ih (by omega) (by omega)) (hn (i + 1 + e) hj)
  · rintro ⟨h1, h2⟩ i _ hi
    rw [Nat.zero_add] at hi
    unfold tOk
    have h3 := h1 _ (List.getElem_mem hi)
    rw [getDl _ _ hi]
    simp only [Bool.and_eq_true, decide_eq_true_eq, Bool.or_eq_true]
    refine ⟨⟨⟨⟨h3.nm, ?_⟩, h3.rel⟩, h3.ar⟩, h3.cnt⟩
    rcases Nat.eq_zero_or_pos i with h4 | h4
    · exact .inl h4
    · right
      rw [getDl _ _ (show i - 1 < d.length by omega)]
      exact List.pairwise_iff_getElem.1 h2 (i - 1) i (by omega) hi (by omega)
def fndD (name : ByteArray) : Dbd → Option Rd
  | [] => none
  | t :: d => if t.1 = name then some t.2 else fndD name d
theorem fndD_step {name : ByteArray} {d : Dbd} {k : Nat} (h : k < d.length) : fndD name (d.drop k) = if d[k].1 = name then some d[k].2 else fndD name (d.drop (k + 1)) := by
  rw [List.drop_eq_getElem_cons h, fndD]
theorem fndD_end {name : ByteArray} {d : Dbd} {k : Nat} (h : ¬ k < d.length) : fndD name (d.drop k) = none := by
  rw [List.drop_eq_nil_of_le (by omega), fndD]
def lookD (d : Dbd) (name : ByteArray) : Option Rd := if dbB d = true then fndD name d else none
theorem fndD_mem {name : ByteArray} : ∀ {d : Dbd} {r : Rd}, fndD name d = some r → (name, r) ∈ d
  | [], r, h => by simp [fndD] at h
  | t :: d, r, h => by
    rw [fndD] at h
    split at h
    · rename_i e
      injection h with h
      subst e h
      simp
    · exact List.mem_cons_of_mem _ (fndD_mem h)
theorem lookD_ok {d : Dbd} {name : ByteArray} {r : Rd} (h : lookD d name = some r) : dbB d = true ∧ TOk (name, r) := by
  unfold lookD at h
  split at h
  · rename_i hv
    exact ⟨hv, (dbB_iff.1 hv).2.1 _ (fndD_mem h)⟩
  · cases h
end Go.Proofs.YtfigcfajkilhiaaGreat
namespace Go.Proofs.YtfigcfajkilhiaaGreat
open Go.RowKit
theorem cellW {w wr : World} {b o : Nat} {u : Value} (hy : ∃ y, wr = ext w y) (hb : b < w.heap.size) (h : w.cell? ⟨b, o, none⟩ = some u) : wr.cell? ⟨b, o, none⟩ = some u := by
  obtain ⟨y, rfl⟩ := hy
  rw [cell_ext hb]; exact h
theorem ltW {w wr : World} {b : Nat} (hy : ∃ y, wr = ext w y) (hb : b < w.heap.size) : b < wr.heap.size := Nat.lt_of_lt_of_le hb (size_of_ext hy)
end Go.Proofs.YtfigcfajkilhiaaGreat
namespace Go.Proofs.YtfigcfajkilhiaaGreat
open Go.RowKit
abbrev vTb : VE Td := vP 1 vS vRel
abbrev vDb : VE Dbd := vSl 3 vTb
abbrev sTb : SE Td := sP 1 sS sRel
abbrev sDb : SE Dbd := sSl 110 3 sTb
theorem sTb_v {w : World} (c : List Value) (d : Td) (F : List Nat) (h : sTb w c d F) : vTb w c d := sP_v sS_v sRel_v c d F h
theorem sDb_v {w : World} (c : List Value) (d : Dbd) (F : List Nat) (h : sDb w c d F) : vDb w c d := sSl_v sTb_v c d F h
def QTb (x : Td) : Prop := x.1.size ≤ maxLen ∧ QRel x.2
def QDb (d : Dbd) : Prop := d.length ≤ maxLen ∧ ∀ x ∈ d, QTb x
def cTb (x : Td) : Nat := x.1.size + (x.2.2.length + (x.2.2.map List.length).sum)
def BDb (d : Dbd) : Prop := (d.length ≤ 1048576 ∧ (d.map cTb).sum ≤ 1048576) ∧ ∀ x ∈ d, I64 x.2.1
theorem BDb.each {d : Dbd} (h : BDb d) : ∀ x ∈ d, x.1.size ≤ 1048576 ∧ BRel x.2 := fun x hx => by
  have h1 := sum_each (c := cTb) hx
  have h2 := h.1.2
  unfold cTb at h1 h2
  exact ⟨by omega, h.2 x hx, by omega, by omega⟩
def szTb (l : Int) (x : Td) : Int := if l - x.1.size < 0 then -1 else szN szI (l - x.1.size) x.2.2
theorem szN_sub {α : Type} {f : Int → α → Int} {c : α → Nat} (hf : ∀ l x, 0 ≤ f l x → f l x ≤ l - c x) {left : Int} {xs : List α} (h : 0 ≤ szN f left xs) : szN f left xs ≤ left - xs.length - ((xs.map c).sum : Nat) := by
  unfold szN at h ⊢
  split at h
  · omega
  · rename_i h1
    rw [if_neg h1]
    have := szG_each hf xs _ h
    omega
theorem szTb_sub (l : Int) (x : Td) (h : 0 ≤ szTb l x) : szTb l x ≤ l - cTb x := by
  unfold szTb at h ⊢
  split at h
  · omega
  · rename_i h1
    rw [if_neg h1]
    have := szN_sub (c := List.length) szI_sub h
    unfold cTb
    omega
theorem szDb_le {left : Int} {xs : Dbd} (h : 0 ≤ szN szTb left xs) : szN szTb left xs ≤ left := szN_le (fun l x h => by have := szTb_sub l x h; omega) h
theorem szDb_small {left : Int} {xs : Dbd} (hq : QDb xs) (h : 0 ≤ szN szTb left xs) (hl : left ≤ 1048576) : BDb xs := by
  have := szN_small (c := cTb) szTb_sub h
  exact ⟨⟨by omega, by omega⟩, fun x hx => (hq.2 x hx).2.1⟩
theorem RV.atT {w : World} {A : Option Addr} {d : Dbd} {k : Nat} (h : RV 3 vTb w A d) (hk : k < d.length) : ∃ b o A' c', A = some ⟨b, o, none⟩ ∧ b < w.heap.size ∧ w.cell? ⟨b, o + k * 3, none⟩ = some (.string d[k].1) ∧ w.cell? ⟨b, o + k * 3 + 1, none⟩ = some (.int .i64 d[k].2.1) ∧ w.cell? ⟨b, o + k * 3 + 2, none⟩ = some (.slice A' d[k].2.2.length c') ∧ vRel w [.int .i64 d[k].2.1, .slice A' d[k].2.2.length c'] d[k].2 := by
  obtain ⟨b, o, h1, h2, c, hc, hr, c0, c1, e, _, hs, hv⟩ := h.get hk
  obtain ⟨A', c', rfl⟩ := vRel_shape hv
  simp only [vS] at hs
  subst hs e
  exact ⟨b, o, A', c', h1, h2, by simpa using hr 0 (by simp), by simpa using hr 1 (by simp), by simpa using hr 2 (by simp), hv⟩
theorem vDb_get {w : World} {A : Option Addr} {n c : Nat} {d : Dbd} (h : vDb w [.slice A n c] d) : n = d.length ∧ RV 3 vTb w A d ∧ d.length ≤ c := by
  obtain ⟨A', c', e, h⟩ := h
  injection e with e
  injection e with e1 e2 e3
  subst e1
  exact ⟨e2, h, by omega⟩
theorem vDb_shape {w : World} {c : List Value} {d : Dbd} (h : vDb w c d) : ∃ A a, c = [.slice A d.length a] := by
  obtain ⟨A', c', e, h⟩ := h
  exact ⟨_, _, e⟩
set_option maxHeartbeats 1000000 in
theorem szTable_any {s : ByteArray} {A : Option Addr} {c : Nat} {d : Rd} {left : Int} {w : World} (hs : s.size ≤ 9223372036854775807) (hq : QRel d) (h : vRel w [.int .i64 d.1, .slice A d.2.length c] d) (h1 : 0 ≤ left) (h2 : left ≤ 1000000000) :
    Calls Tryz.prog 60 #[.agg #[.string s, .int .i64 d.1, .slice A d.2.length c], .int .i64 left] w fun e w' => e = .returned (.int .i64 (szTb left (s, d))) ∧ ∃ y, w' = ext w y := by
  by_cases h3 : left - s.size < 0
  · have HE := Lib.hid (show szTb left (s, d) = -1 by unfold szTb; rw [if_pos h3])
    go_enter Tryz.func60, Tryz.ntmps60
    go_wp2_with fail
    go_ret
    exact ⟨by rw [HE.out]; rfl, (by refine x'z ?_; repeat (with_reducible (first | exact x'a _ _ | exact x'b _ | exact x'c (by assumption) | refine x'd ?_ (by assumption) | refine x'e ?_ _ | refine x'f ?_ _ | refine x'g ?_ | refine x'h ?_ ?_ _ | refine x'i ?_ _ | refine x'j ?_ | refine x'k ?_ _ | refine x'l ?_ _ _ | refine x'm ?_ | assumption | (refine x'n ?_; omega) | omega)))⟩
  · have HE := Lib.hid (show szTb left (s, d) = szN szI (left - s.size) d.2 by unfold szTb; rw [if_neg h3])
    obtain ⟨l, hl⟩ : ∃ l, szN szI (left - s.size) d.2 = l := ⟨_, rfl⟩
    have HL := Lib.hid hl
    rw [hl] at HE
    by_cases c1 : l < 0
    · have HN := Lib.hid (show l = -1 by rw [← hl] at c1 ⊢; exact szI_neg c1)
      clear hl
      go_enter Tryz.func60, Tryz.ntmps60
      go_wp2_with (go_at_call 98; refine (szRelation_d hq (VD.toExt h (by refine x'z ?_; repeat (with_reducible (first | exact x'a _ _ | exact x'b _ | exact x'c (by assumption) | refine x'd ?_ (by assumption) | refine x'e ?_ _ | refine x'f ?_ _ | refine x'g ?_ | refine x'h ?_ ?_ _ | refine x'i ?_ _ | refine x'j ?_ | refine x'k ?_ _ | refine x'l ?_ _ _ | refine x'm ?_ | assumption | (refine x'n ?_; omega) | omega)))) (by omega) (by omega)).mono ?_; rintro e w1 ⟨rfl, y1, rfl⟩; rw [HL.out])
      go_ret
      exact ⟨by rw [HE.out, HN.out]; rfl, (by refine x'z ?_; repeat (with_reducible (first | exact x'a _ _ | exact x'b _ | exact x'c (by assumption) | refine x'd ?_ (by assumption) | refine x'e ?_ _ | refine x'f ?_ _ | refine x'g ?_ | refine x'h ?_ ?_ _ | refine x'i ?_ _ | refine x'j ?_ | refine x'k ?_ _ | refine x'l ?_ _ _ | refine x'm ?_ | assumption | (refine x'n ?_; omega) | omega)))⟩
    · clear hl
      go_enter Tryz.func60, Tryz.ntmps60
      go_wp2_with (go_at_call 98; refine (szRelation_d hq (VD.toExt h (by refine x'z ?_; repeat (with_reducible (first | exact x'a _ _ | exact x'b _ | exact x'c (by assumption) | refine x'd ?_ (by assumption) | refine x'e ?_ _ | refine x'f ?_ _ | refine x'g ?_ | refine x'h ?_ ?_ _ | refine x'i ?_ _ | refine x'j ?_ | refine x'k ?_ _ | refine x'l ?_ _ _ | refine x'm ?_ | assumption | (refine x'n ?_; omega) | omega)))) (by omega) (by omega)).mono ?_; rintro e w1 ⟨rfl, y1, rfl⟩; rw [HL.out])
      go_ret
      exact ⟨by rw [HE.out]; rfl, (by refine x'z ?_; repeat (with_reducible (first | exact x'a _ _ | exact x'b _ | exact x'c (by assumption) | refine x'd ?_ (by assumption) | refine x'e ?_ _ | refine x'f ?_ _ | refine x'g ?_ | refine x'h ?_ ?_ _ | refine x'i ?_ _ | refine x'j ?_ | refine x'k ?_ _ | refine x'l ?_ _ _ | refine x'm ?_ | assumption | (refine x'n ?_; omega) | omega)))⟩
set_option maxHeartbeats 1000000 in
theorem szTableS_any {A : Option Addr} {c : Nat} {d : Dbd} {left : Int} {w : World} (hq : QDb d) (h : RV 3 vTb w A d) (h1 : 0 ≤ left) (h2 : left ≤ 1000000000) :
    Calls Tryz.prog 27 #[.slice A d.length c, .int .i64 left] w fun e w' => e = .returned (.int .i64 (szN szTb left d)) ∧ ∃ y, w' = ext w y := by
  have hn := le_maxLen hq.1
  have Hl := Lib.hid hq.2
  clear hq
  by_cases h0 : left - d.length < 0
  · rw [show szN szTb left d = -1 by unfold szN; rw [if_pos h0]]
    go_enter Tryz.func27, Tryz.ntmps27
    go_wp2
    go_ret
    exact ⟨rfl, refl_ext w⟩
  · rw [show szN szTb left d = szG szTb (left - d.length) d by unfold szN; rw [if_neg h0]]
    go_enter Tryz.func27, Tryz.ntmps27
    go_wp2
    go_loopw [1, 5] (fun m i wr => ∃ (k : Nat) (l : Int), m = .int .i64 l ∧ i = .int .i64 k ∧ k ≤ d.length ∧ 0 ≤ l ∧ l ≤ left ∧ szG szTb l (d.drop k) = szG szTb (left - d.length) d ∧ ∃ y, wr = ext w y) (fun _ i _ => d.length - (intOf i).toNat)
    case atStart => exact ⟨0, left - d.length, rfl, rfl, by omega, by omega, by omega, by simp, refl_ext w⟩
    case round =>
      obtain ⟨k, l, rfl, rfl, hk, hl0, hl1, hj, hy⟩ := hrel
      have Hj := Lib.hid hj
      clear hj
      by_cases hlt : k < d.length
      · obtain ⟨b, o, A', c', rfl, hb, hc, hc1, hc2, hv⟩ := (h.toExt hy).atT hlt
        have hle := Hl.out d[k] (List.getElem_mem hlt)
        have hle1 := le_maxLen hle.1
        have hle2 := hle.2
        clear hle
        by_cases hs : 0 ≤ szTb l d[k]
        · have e := Hj.out
          rw [szG_step hlt hs] at e
          have he := szTb_sub l d[k] hs
          obtain ⟨r, hr⟩ : ∃ r, szTb l d[k] = r := ⟨_, rfl⟩
          rw [hr] at e hs he
          have He := Lib.hid e
          have Hr := Lib.hid hr
          clear e hr
          go_wp2_with (go_at_call 60; refine (szTable_any hle1 hle2 hv (by omega) (by omega)).mono ?_; rintro e w' ⟨rfl, hx9⟩; rw [show szTb l (d[k].1, d[k].2) = r from Hr.out])
          exact ⟨⟨k + 1, r, rfl, by go_num, by omega, by omega, by omega, He.out, (by refine x'z ?_; repeat (with_reducible (first | exact x'a _ _ | exact x'b _ | exact x'c (by assumption) | refine x'd ?_ (by assumption) | refine x'e ?_ _ | refine x'f ?_ _ | refine x'g ?_ | refine x'h ?_ ?_ _ | refine x'i ?_ _ | refine x'j ?_ | refine x'k ?_ _ | refine x'l ?_ _ _ | refine x'm ?_ | assumption | (refine x'n ?_; omega) | omega)))⟩, by simp [intOf]; omega⟩
        · have hs : szTb l d[k] < 0 := by omega
          have e := Hj.out
          rw [szG_stop hlt hs] at e
          obtain ⟨r, hr⟩ : ∃ r, szTb l d[k] = r := ⟨_, rfl⟩
          rw [hr] at hs
          have He := Lib.hid e
          have Hr := Lib.hid hr
          clear e hr
          go_wp2_with (go_at_call 60; refine (szTable_any hle1 hle2 hv (by omega) (by omega)).mono ?_; rintro e w' ⟨rfl, hx9⟩; rw [show szTb l (d[k].1, d[k].2) = r from Hr.out])
          go_ret
          exact ⟨by rw [← He.out]; rfl, (by refine x'z ?_; repeat (with_reducible (first | exact x'a _ _ | exact x'b _ | exact x'c (by assumption) | refine x'd ?_ (by assumption) | refine x'e ?_ _ | refine x'f ?_ _ | refine x'g ?_ | refine x'h ?_ ?_ _ | refine x'i ?_ _ | refine x'j ?_ | refine x'k ?_ _ | refine x'l ?_ _ _ | refine x'm ?_ | assumption | (refine x'n ?_; omega) | omega)))⟩
      · go_wp2
        go_ret
        have e := Hj.out
        rw [szG_end hlt] at e
        exact ⟨by rw [← e]; rfl, hy⟩
theorem szDatabase_d {A : Option Addr} {c : Nat} {d : Dbd} {left : Int} {w : World} (hq : QDb d) (h : vDb w [.slice A d.length c] d) (h1 : 0 ≤ left) (h2 : left ≤ 1000000000) :
    Calls Tryz.prog 5 #[.agg #[.slice A d.length c], .int .i64 left] w fun e w' => e = .returned (.int .i64 (szN szTb left d)) ∧ ∃ y, w' = ext w y := by
  have hv := (vDb_get h).2.1
  obtain ⟨l, hl⟩ : ∃ l, szN szTb left d = l := ⟨_, rfl⟩
  have HL := Lib.hid hl
  by_cases c1 : l < 0
  · have HN := Lib.hid (show l = -1 by
      rw [← hl] at c1 ⊢
      unfold szN at c1 ⊢
      split
      · rfl
      · rename_i h3
        rw [if_neg h3] at c1
        exact szG_neg _ _ (by omega) c1)
    clear hl h
    go_enter Tryz.func5, Tryz.ntmps5
    go_wp2_with (go_at_call 27; refine (szTableS_any hq (hv.toExt (by refine x'z ?_; repeat (with_reducible (first | exact x'a _ _ | exact x'b _ | exact x'c (by assumption) | refine x'd ?_ (by assumption) | refine x'e ?_ _ | refine x'f ?_ _ | refine x'g ?_ | refine x'h ?_ ?_ _ | refine x'i ?_ _ | refine x'j ?_ | refine x'k ?_ _ | refine x'l ?_ _ _ | refine x'm ?_ | assumption | (refine x'n ?_; omega) | omega)))) h1 h2).mono ?_; rintro e w1 ⟨rfl, y1, rfl⟩; rw [HL.out])
    go_ret
    exact ⟨by rw [HL.out, HN.out]; rfl, (by refine x'z ?_; repeat (with_reducible (first | exact x'a _ _ | exact x'b _ | exact x'c (by assumption) | refine x'd ?_ (by assumption) | refine x'e ?_ _ | refine x'f ?_ _ | refine x'g ?_ | refine x'h ?_ ?_ _ | refine x'i ?_ _ | refine x'j ?_ | refine x'k ?_ _ | refine x'l ?_ _ _ | refine x'm ?_ | assumption | (refine x'n ?_; omega) | omega)))⟩
  · clear hl h
    go_enter Tryz.func5, Tryz.ntmps5
    go_wp2_with (go_at_call 27; refine (szTableS_any hq (hv.toExt (by refine x'z ?_; repeat (with_reducible (first | exact x'a _ _ | exact x'b _ | exact x'c (by assumption) | refine x'd ?_ (by assumption) | refine x'e ?_ _ | refine x'f ?_ _ | refine x'g ?_ | refine x'h ?_ ?_ _ | refine x'i ?_ _ | refine x'j ?_ | refine x'k ?_ _ | refine x'l ?_ _ _ | refine x'm ?_ | assumption | (refine x'n ?_; omega) | omega)))) h1 h2).mono ?_; rintro e w1 ⟨rfl, y1, rfl⟩; rw [HL.out])
    go_ret
    exact ⟨by rw [HL.out]; rfl, (by refine x'z ?_; repeat (with_reducible (first | exact x'a _ _ | exact x'b _ | exact x'c (by assumption) | refine x'd ?_ (by assumption) | refine x'e ?_ _ | refine x'f ?_ _ | refine x'g ?_ | refine x'h ?_ ?_ _ | refine x'i ?_ _ | refine x'j ?_ | refine x'k ?_ _ | refine x'l ?_ _ _ | refine x'm ?_ | assumption | (refine x'n ?_; omega) | omega)))⟩
theorem sTb_form {w : World} {v0 v1 v2 : Value} {d : Td} {F : List Nat} (h : sTb w [v0, v1, v2] d F) : ∃ A c, v0 = .string d.1 ∧ v1 = .int .i64 d.2.1 ∧ v2 = .slice A d.2.2.length c ∧ sRel w [v1, v2] d.2 F := by
  obtain ⟨c0, c1, F0, F1, e0, h0, ⟨h1, f0⟩, h3, e4⟩ := h
  subst h1 f0 e4
  simp only [List.cons_append, List.nil_append, List.cons.injEq] at e0
  obtain ⟨rfl, rfl⟩ := e0
  obtain ⟨A, c, rfl, rfl, _⟩ := sRel_form h3
  exact ⟨A, c, rfl, rfl, rfl, by simpa using h3⟩
theorem sTb_mk {w : World} {s : ByteArray} {v1 v2 : Value} {r : Rd} {F : List Nat} (h : sRel w [v1, v2] r F) : sTb w [.string s, v1, v2] (s, r) F := by
  have := sP_mk (E0 := sS) (E1 := sRel) (w := w) (u := .string s) (d := (s, r)) ⟨rfl, rfl⟩ h
  simpa using this
theorem sTb_list {w : World} {c : List Value} {d : Td} {F : List Nat} (h : sTb w c d F) : ∃ A n, c = [.string d.1, .int .i64 d.2.1, .slice A d.2.2.length n] := by
  obtain ⟨c0, c1, F0, F1, e0, h0, ⟨h1, f0⟩, h3, e4⟩ := h
  subst h1
  obtain ⟨A, n, rfl⟩ := vRel_shape (sRel_v _ _ _ h3)
  exact ⟨A, n, e0⟩
set_option maxHeartbeats 1000000 in
theorem toTable_any {s : ByteArray} {A : Option Addr} {c : Nat} {d : Rd} {w : World} (hb : BRel d) (h : vRel w [.int .i64 d.1, .slice A d.2.length c] d) :
    Calls Tryz.prog 74 #[.agg #[.string s, .int .i64 d.1, .slice A d.2.length c]] w fun e w' => ∃ v0 v1 F, e = .returned (.agg #[.string s, v0, v1]) ∧ (∃ y, w' = ext w y) ∧ sRel w' [v0, v1] d F ∧ F.Nodup ∧ ∀ b ∈ F, w.heap.size ≤ b := by
  go_enter Tryz.func74, Tryz.ntmps74
  go_upto_region 1 with fail
  refine wp_name ?_
  intro w0 hw0
  have hx0 : ∃ y, w0 = ext w y := by rw [hw0.out]; exact (by refine x'z ?_; repeat (with_reducible (first | exact x'a _ _ | exact x'b _ | exact x'c (by assumption) | refine x'd ?_ (by assumption) | refine x'e ?_ _ | refine x'f ?_ _ | refine x'g ?_ | refine x'h ?_ ?_ _ | refine x'i ?_ _ | refine x'j ?_ | refine x'k ?_ _ | refine x'l ?_ _ _ | refine x'm ?_ | assumption | (refine x'n ?_; omega) | omega)))
  have P0 : BoxAt w0 w.heap.size #[.string s, .int .i64 d.1, .slice A d.2.length c] := by rw [hw0.out]; exact (by repeat (with_reducible (first | assumption | exact BoxAt.new _ _ _ | apply BoxAt.set3 | refine BoxAt.set3' ?_ (by omega) | apply BoxAt.set30 | apply BoxAt.set31 | apply BoxAt.set32 | apply BoxAt.set2 | refine BoxAt.set2' ?_ (by omega) | apply BoxAt.setP0 | apply BoxAt.setP1 | refine BoxAt.setO ?_ (by omega) | refine BoxAt.alloc ?_ _ | refine BoxAt.drew ?_ | refine BoxAt.toExt ?_ (by assumption))))
  have R0 : BoxAt w0 (w.heap.size + 1) #[.string ⟨#[]⟩, .int .i64 0, .slice none 0 0] := by
    rw [hw0.out]
    simpa using BoxAt.new (w.alloc (.cells #[.string s, .int .i64 d.1, .slice A d.2.length c] 94)) #[.string ⟨#[]⟩, .int .i64 0, .slice none 0 0] 110
  obtain ⟨l0, k0, k0', k0'', f0⟩ := box3 P0
  obtain ⟨m0, n0, n0', n0'', g0⟩ := box3 R0
  have hz0 := size_of_ext hx0
  clear hw0
  go_wp2_with (go_at_call 101; refine (toRelation_d hb (VD.toExt h (by refine x'z ?_; repeat (with_reducible (first | exact x'a _ _ | exact x'b _ | exact x'c (by assumption) | refine x'd ?_ (by assumption) | refine x'e ?_ _ | refine x'f ?_ _ | refine x'g ?_ | refine x'h ?_ ?_ _ | refine x'i ?_ _ | refine x'j ?_ | refine x'k ?_ _ | refine x'l ?_ _ _ | refine x'm ?_ | assumption | (refine x'n ?_; omega) | omega))))).mono ?_; rintro e w2 ⟨v2, u2, F2, rfl, hx2, hS2, hN2, hF2⟩; obtain ⟨A2, c2, rfl, rfl, _⟩ := sRel_form hS2; have P2 : BoxAt w2 w.heap.size #[.string s, .int .i64 d.1, .slice A d.2.length c] := (by repeat (with_reducible (first | assumption | exact BoxAt.new _ _ _ | apply BoxAt.set3 | refine BoxAt.set3' ?_ (by omega) | apply BoxAt.set30 | apply BoxAt.set31 | apply BoxAt.set32 | apply BoxAt.set2 | refine BoxAt.set2' ?_ (by omega) | apply BoxAt.setP0 | apply BoxAt.setP1 | refine BoxAt.setO ?_ (by omega) | refine BoxAt.alloc ?_ _ | refine BoxAt.drew ?_ | refine BoxAt.toExt ?_ (by assumption)))); have R2 : BoxAt w2 (w.heap.size + 1) #[.string ⟨#[]⟩, .int .i64 0, .slice none 0 0] := (by repeat (with_reducible (first | assumption | exact BoxAt.new _ _ _ | apply BoxAt.set3 | refine BoxAt.set3' ?_ (by omega) | apply BoxAt.set30 | apply BoxAt.set31 | apply BoxAt.set32 | apply BoxAt.set2 | refine BoxAt.set2' ?_ (by omega) | apply BoxAt.setP0 | apply BoxAt.setP1 | refine BoxAt.setO ?_ (by omega) | refine BoxAt.alloc ?_ _ | refine BoxAt.drew ?_ | refine BoxAt.toExt ?_ (by assumption)))); have O2 : BoxAt w2 w0.heap.size #[.string s, .int .i64 0, .slice none 0 0] := (by repeat (with_reducible (first | assumption | exact BoxAt.new _ _ _ | apply BoxAt.set3 | refine BoxAt.set3' ?_ (by omega) | apply BoxAt.set30 | apply BoxAt.set31 | apply BoxAt.set32 | apply BoxAt.set2 | refine BoxAt.set2' ?_ (by omega) | apply BoxAt.setP0 | apply BoxAt.setP1 | refine BoxAt.setO ?_ (by omega) | refine BoxAt.alloc ?_ _ | refine BoxAt.drew ?_ | refine BoxAt.toExt ?_ (by assumption)))); obtain ⟨l2, k2, k2', k2'', f2⟩ := box3 P2; obtain ⟨m2, n2, n2', n2'', g2⟩ := box3 O2; obtain ⟨o2, p2, p2', p2'', q2'⟩ := box3 R2)
  have hz2 := size_of_ext hx2
  simp only [World.size_alloc] at hz2 hF2
  refine bodyPost_ret (v := .agg #[.string s, .int .i64 d.1, .slice A2 d.2.length c2]) (by simp [results, Tryz.results74, go_sem, *]) rfl ⟨_, _, F2, rfl, (by refine x'z ?_; repeat (with_reducible (first | exact x'a _ _ | exact x'b _ | exact x'c (by assumption) | refine x'd ?_ (by assumption) | refine x'e ?_ _ | refine x'f ?_ _ | refine x'g ?_ | refine x'h ?_ ?_ _ | refine x'i ?_ _ | refine x'j ?_ | refine x'k ?_ _ | refine x'l ?_ _ _ | refine x'm ?_ | assumption | (refine x'n ?_; omega) | omega))), OD.chg (G := [w0.heap.size, w.heap.size + 1]) hS2 (by repeat (with_reducible (first | exact Chg.refl _ _ | refine Chg.trans0 ?_ (by assumption) | refine Chg.extS ?_ _ | refine Chg.alloc ?_ _ | refine Chg.drew ?_ | refine Chg.setCell ?_ (.inl (by simp)) _))) ?_, hN2, ?_⟩
  · intro b hb h
    have := hF2 b hb
    simp at h
    omega
  · intro b hb
    have := hF2 b hb
    omega
theorem tTb : SlT Tryz.prog 37 110 3 48 (.agg #[.string ⟨#[]⟩, .int .i64 0, .slice none 0 0]) := ⟨Tryz.underlying37, by kernel_rfl, rfl, by omega⟩
theorem sDb_form {w : World} {v : Value} {d : Dbd} {F : List Nat} (h : sDb w [v] d F) : ∃ A c, v = .slice A d.length c := by
  obtain ⟨v', e, h⟩ := h
  injection e with e
  subst e
  obtain ⟨A, c, e, _⟩ := h.form
  exact ⟨A, c, e⟩
set_option maxHeartbeats 1000000 in
theorem toTableS_any {A : Option Addr} {c : Nat} {d : Dbd} {w : World} (hb : BDb d) (h1 : RV 3 vTb w A d) :
    Calls Tryz.prog 36 #[.slice A d.length c] w fun e w' => ∃ v F, e = .returned v ∧ (∃ y, w' = ext w y) ∧ sDb w' [v] d F ∧ F.Nodup ∧ ∀ b ∈ F, w.heap.size ≤ b := by
  have hx := hb.1.1
  have Hl := Lib.hid hb.each
  clear hb
  go_enter Tryz.func36, Tryz.ntmps36
  go_wp2_with (at_make; refine wpList_makeF (E := sTb) _ rfl _ _ _ rfl tTb rfl rfl d (by omega) (by omega) ?_; intro w1 hS hx1 hg1)
  go_loopw [4] (fun i wr => ∃ (k : Nat) (F : List Nat), i = .int .i64 k ∧ k ≤ d.length ∧ Fill 110 3 sTb wr (.slice (some ⟨w.heap.size, 0, none⟩) d.length d.length) d.length [.string ⟨#[]⟩, .int .i64 0, .slice none 0 0] d k F ∧ F.Nodup ∧ (∀ b ∈ F, w.heap.size ≤ b) ∧ ∃ y, wr = ext w y) (fun i _ => d.length - (intOf i).toNat)
  case atStart => exact ⟨0, _, rfl, by omega, hS, by simp, by simp, hx1⟩
  case round =>
    obtain ⟨k, F, rfl, hk, hSk, hN, hF, hy⟩ := hrel
    have HF := Lib.hid hF
    have HN := Lib.hid hN
    clear hF hN
    by_cases hlt : k < d.length
    · obtain ⟨b, o, A', c', rfl, hb, hc, hd, hd2, hv⟩ := (h1.toExt hy).atT hlt
      have hle := (Hl.out d[k] (List.getElem_mem hlt)).2
      clear hS hx1
      go_wp2_with (go_at_call 74; refine (toTable_any hle hv).mono ?_; rintro e w2 ⟨v2, u2, F2, rfl, hx2, hS2, hN2, hF2⟩; obtain ⟨A2, c2, rfl, rfl, _⟩ := sRel_form hS2; have HS := Lib.hid (hSk.toExt hx2); have Hc := HS.out.cell (j := k * 3) (by omega); have Hd := HS.out.cell (j := k * 3 + 1) (by omega); have He := HS.out.cell (j := k * 3 + 2) (by omega); obtain ⟨⟨u, hu⟩, hf, hg⟩ := Hc; obtain ⟨⟨u', hu'⟩, hf', _⟩ := Hd; obtain ⟨⟨u'', hu''⟩, hf'', _⟩ := He)
      obtain ⟨h3, h4⟩ := HS.out.put3 hlt rfl (Fk := F2) (sTb_mk hS2) (nodup_more HN.out hN2 hSk.lt hF2)
      exact ⟨⟨k + 1, F ++ F2, by go_num, by omega, h3, nodup_more HN.out hN2 hSk.lt hF2, fun b hb => by
        rcases List.mem_append.1 hb with h | h
        · exact HF.out b h
        · exact Nat.le_trans (size_of_ext hy) (hF2 b h), (h4.isExt (trans_ext hy hx2) (by simp))⟩, by simp [intOf]; omega⟩
    · go_wp2
      go_ret
      exact ⟨_, F, rfl, hy, ⟨_, rfl, hSk.done rfl (by omega)⟩, HN.out, HF.out⟩
theorem bx1 {w : World} {B : Nat} {u : Value} (h : BoxAt w B #[u]) : B < w.heap.size ∧ w.cell? ⟨B, 0, none⟩ = some u ∧ ∀ j, w.frozen? ⟨B, j, none⟩ = false := ⟨h.1, h.2.1 0, h.2.2⟩
theorem BoxAt.set10 {w : World} {B : Nat} {a u : Value} (h : BoxAt w B #[a]) : BoxAt (w.setCell ⟨B, 0, none⟩ u) B #[u] := h.setJ (j := 0) (by simp)
set_option maxHeartbeats 1000000 in
theorem toDatabase_d {A : Option Addr} {c : Nat} {d : Dbd} {w : World} (hb : BDb d) (h : vDb w [.slice A d.length c] d) :
    Calls Tryz.prog 9 #[.agg #[.slice A d.length c]] w fun e w' => ∃ v F, e = .returned (.agg #[v]) ∧ (∃ y, w' = ext w y) ∧ sDb w' [v] d F ∧ F.Nodup ∧ ∀ b ∈ F, w.heap.size ≤ b := by
  have r1 := (vDb_get h).2.1
  clear h
  go_enter Tryz.func9, Tryz.ntmps9
  go_upto_region 1 with fail
  refine wp_name ?_
  intro w0 hw0
  have hx0 : ∃ y, w0 = ext w y := by rw [hw0.out]; exact (by refine x'z ?_; repeat (with_reducible (first | exact x'a _ _ | exact x'b _ | exact x'c (by assumption) | refine x'd ?_ (by assumption) | refine x'e ?_ _ | refine x'f ?_ _ | refine x'g ?_ | refine x'h ?_ ?_ _ | refine x'i ?_ _ | refine x'j ?_ | refine x'k ?_ _ | refine x'l ?_ _ _ | refine x'm ?_ | assumption | (refine x'n ?_; omega) | omega)))
  have P0 : BoxAt w0 w.heap.size #[.slice A d.length c] := by rw [hw0.out]; exact (by repeat (with_reducible (first | assumption | exact BoxAt.new _ _ _ | apply BoxAt.set10 | apply BoxAt.set2 | refine BoxAt.set2' ?_ (by omega) | apply BoxAt.setP0 | apply BoxAt.setP1 | refine BoxAt.setO ?_ (by omega) | refine BoxAt.alloc ?_ _ | refine BoxAt.drew ?_ | refine BoxAt.toExt ?_ (by assumption))))
  have R0 : BoxAt w0 (w.heap.size + 1) #[.slice none 0 0] := by
    rw [hw0.out]
    simpa using BoxAt.new (w.alloc (.cells #[.slice A d.length c] 24)) #[.slice none 0 0] 39
  obtain ⟨l0, k0, f0⟩ := bx1 P0
  obtain ⟨m0, n0, g0⟩ := bx1 R0
  have hz0 := size_of_ext hx0
  clear hw0
  go_wp2_with (go_at_call 36; refine (toTableS_any hb (r1.toExt (by refine x'z ?_; repeat (with_reducible (first | exact x'a _ _ | exact x'b _ | exact x'c (by assumption) | refine x'd ?_ (by assumption) | refine x'e ?_ _ | refine x'f ?_ _ | refine x'g ?_ | refine x'h ?_ ?_ _ | refine x'i ?_ _ | refine x'j ?_ | refine x'k ?_ _ | refine x'l ?_ _ _ | refine x'm ?_ | assumption | (refine x'n ?_; omega) | omega))))).mono ?_; rintro e w2 ⟨v2, F2, rfl, hx2, hS2, hN2, hF2⟩; obtain ⟨A2, c2, rfl⟩ := sDb_form hS2; have R2 : BoxAt w2 (w.heap.size + 1) #[.slice none 0 0] := (by repeat (with_reducible (first | assumption | exact BoxAt.new _ _ _ | apply BoxAt.set10 | apply BoxAt.set2 | refine BoxAt.set2' ?_ (by omega) | apply BoxAt.setP0 | apply BoxAt.setP1 | refine BoxAt.setO ?_ (by omega) | refine BoxAt.alloc ?_ _ | refine BoxAt.drew ?_ | refine BoxAt.toExt ?_ (by assumption)))); have O2 : BoxAt w2 w0.heap.size #[.slice none 0 0] := (by repeat (with_reducible (first | assumption | exact BoxAt.new _ _ _ | apply BoxAt.set10 | apply BoxAt.set2 | refine BoxAt.set2' ?_ (by omega) | apply BoxAt.setP0 | apply BoxAt.setP1 | refine BoxAt.setO ?_ (by omega) | refine BoxAt.alloc ?_ _ | refine BoxAt.drew ?_ | refine BoxAt.toExt ?_ (by assumption)))); obtain ⟨m2, n2, g2⟩ := bx1 O2; obtain ⟨o2, p2, q2'⟩ := bx1 R2)
  have hz2 := size_of_ext hx2
  simp only [World.size_alloc] at hz2 hF2
  refine bodyPost_ret (v := .agg #[.slice A2 d.length c2]) (by simp [results, Tryz.results9, go_sem, *]) rfl ⟨_, F2, rfl, (by refine x'z ?_; repeat (with_reducible (first | exact x'a _ _ | exact x'b _ | exact x'c (by assumption) | refine x'd ?_ (by assumption) | refine x'e ?_ _ | refine x'f ?_ _ | refine x'g ?_ | refine x'h ?_ ?_ _ | refine x'i ?_ _ | refine x'j ?_ | refine x'k ?_ _ | refine x'l ?_ _ _ | refine x'm ?_ | assumption | (refine x'n ?_; omega) | omega))), OD.chg (G := [w0.heap.size, w.heap.size + 1]) hS2 (by repeat (with_reducible (first | exact Chg.refl _ _ | refine Chg.trans0 ?_ (by assumption) | refine Chg.extS ?_ _ | refine Chg.alloc ?_ _ | refine Chg.drew ?_ | refine Chg.setCell ?_ (.inl (by simp)) _))) ?_, hN2, ?_⟩
  · intro b hb h
    have := hF2 b hb
    simp at h
    omega
  · intro b hb
    have := hF2 b hb
    omega
set_option maxHeartbeats 1000000 in
theorem eqTable_any {s s' : ByteArray} {A A' : Option Addr} {c c' : Nat} {d d' : Rd} {w : World} (hb : BRel d) (h : vRel w [.int .i64 d.1, .slice A d.2.length c] d) (hb' : BRel d') (h' : vRel w [.int .i64 d'.1, .slice A' d'.2.length c'] d') :
    Calls Tryz.prog 84 #[.agg #[.string s, .int .i64 d.1, .slice A d.2.length c], .agg #[.string s', .int .i64 d'.1, .slice A' d'.2.length c']] w fun e w' => e = .returned (.bool (decide ((s, d) = (s', d')))) ∧ ∃ y, w' = ext w y := by
  by_cases hs : s = s'
  · subst hs
    have HD := Lib.hid (show decide ((s, d) = (s, d')) = decide (d = d') by simp)
    obtain ⟨t, ht⟩ : ∃ t, decide (d = d') = t := ⟨_, rfl⟩
    have HT := Lib.hid ht
    clear ht
    cases t
    all_goals
      go_enter Tryz.func84, Tryz.ntmps84
      go_wp2_with (go_at_call 24; refine (eqRelation_d hb (VD.toExt h (by refine x'z ?_; repeat (with_reducible (first | exact x'a _ _ | exact x'b _ | exact x'c (by assumption) | refine x'd ?_ (by assumption) | refine x'e ?_ _ | refine x'f ?_ _ | refine x'g ?_ | refine x'h ?_ ?_ _ | refine x'i ?_ _ | refine x'j ?_ | refine x'k ?_ _ | refine x'l ?_ _ _ | refine x'm ?_ | assumption | (refine x'n ?_; omega) | omega)))) hb' (VD.toExt h' (by refine x'z ?_; repeat (with_reducible (first | exact x'a _ _ | exact x'b _ | exact x'c (by assumption) | refine x'd ?_ (by assumption) | refine x'e ?_ _ | refine x'f ?_ _ | refine x'g ?_ | refine x'h ?_ ?_ _ | refine x'i ?_ _ | refine x'j ?_ | refine x'k ?_ _ | refine x'l ?_ _ _ | refine x'm ?_ | assumption | (refine x'n ?_; omega) | omega))))).mono ?_; rintro e w' ⟨rfl, y, rfl⟩; rw [HT.out])
      go_ret
      exact ⟨by rw [HD.out, HT.out]; rfl, (by refine x'z ?_; repeat (with_reducible (first | exact x'a _ _ | exact x'b _ | exact x'c (by assumption) | refine x'd ?_ (by assumption) | refine x'e ?_ _ | refine x'f ?_ _ | refine x'g ?_ | refine x'h ?_ ?_ _ | refine x'i ?_ _ | refine x'j ?_ | refine x'k ?_ _ | refine x'l ?_ _ _ | refine x'm ?_ | assumption | (refine x'n ?_; omega) | omega)))⟩
  · have hb : (s.toList == s'.toList) = false := by rw [str_beq, decide_eq_false hs]
    go_enter Tryz.func84, Tryz.ntmps84
    go_wp2_with fail
    go_ret
    exact ⟨by rw [decide_eq_false (by simp [hs])]; rfl, (by refine x'z ?_; repeat (with_reducible (first | exact x'a _ _ | exact x'b _ | exact x'c (by assumption) | refine x'd ?_ (by assumption) | refine x'e ?_ _ | refine x'f ?_ _ | refine x'g ?_ | refine x'h ?_ ?_ _ | refine x'i ?_ _ | refine x'j ?_ | refine x'k ?_ _ | refine x'l ?_ _ _ | refine x'm ?_ | assumption | (refine x'n ?_; omega) | omega)))⟩
set_option maxHeartbeats 1000000 in
theorem eqTableS_any {A A' : Option Addr} {c c' : Nat} {d d' : Dbd} {w : World} (hb : BDb d) (h1 : RV 3 vTb w A d) (hb' : BDb d') (h2 : RV 3 vTb w A' d') :
    Calls Tryz.prog 44 #[.slice A d.length c, .slice A' d'.length c'] w fun e w' => e = .returned (.bool (decide (d = d'))) ∧ ∃ y, w' = ext w y := by
  have hx := hb.1.1
  have hy := hb'.1.1
  have Hxl := Lib.hid hb.each
  have Hyl := Lib.hid hb'.each
  clear hb hb'
  by_cases hl : d.length = d'.length
  · have hn : ((d.length : Int) != (d'.length : Int)) = false := by simp [hl]
    have hl2 : d'.length ≤ d.length := by omega
    have hl3 : d.length ≤ d'.length := by omega
    have HL := Lib.hid hl
    clear hl
    go_enter Tryz.func44, Tryz.ntmps44
    go_wp2
    go_loopw [5] (fun i wr => ∃ k : Nat, i = .int .i64 k ∧ k ≤ d.length ∧ d.take k = d'.take k ∧ ∃ y, wr = ext w y) (fun i _ => d.length - (intOf i).toNat)
    case atStart => exact ⟨0, rfl, by omega, by simp, refl_ext w⟩
    case round =>
      obtain ⟨k, rfl, hk, ht, hw⟩ := hrel
      have Ht := Lib.hid ht
      clear ht
      by_cases hlt : k < d.length
      · have hlt2 : k < d'.length := by omega
        obtain ⟨b, o, A1, c1, rfl, hb, hc, hd, hd2, hv⟩ := (h1.toExt hw).atT hlt
        obtain ⟨b', o', A2, c2, rfl, hb', hc', hd', hd2', hv'⟩ := (h2.toExt hw).atT hlt2
        have q1 := (Hxl.out d[k] (List.getElem_mem hlt)).2
        have q2 := (Hyl.out d'[k] (List.getElem_mem hlt2)).2
        by_cases he : d[k] = d'[k]
        · have He := Lib.hid he
          have Hd := Lib.hid (show decide ((d[k].1, d[k].2) = (d'[k].1, d'[k].2)) = true by simp [he])
          clear he
          go_wp2
          refine wp_region_ext (by kernel_rfl) (by kernel_rfl) ?_
          repeat (go_big_quiet_step ((go_at_call 84; exact quietEb (eqTable_any q1 (VMono.ext hv) q2 (VMono.ext hv')) Hd.out)))
          refine wpQuiet_nil ?_
          rintro _ ⟨z, rfl⟩
          go_wp2
          exact ⟨⟨k + 1, by go_num, by omega, take_snoc_eq _ _ Ht.out He.out, (by refine x'z ?_; repeat (with_reducible (first | exact x'a _ _ | exact x'b _ | exact x'c (by assumption) | refine x'd ?_ (by assumption) | refine x'e ?_ _ | refine x'f ?_ _ | refine x'g ?_ | refine x'h ?_ ?_ _ | refine x'i ?_ _ | refine x'j ?_ | refine x'k ?_ _ | refine x'l ?_ _ _ | refine x'm ?_ | assumption | (refine x'n ?_; omega) | omega)))⟩, by simp [intOf]; omega⟩
        · have He := Lib.hid he
          have Hd := Lib.hid (show decide ((d[k].1, d[k].2) = (d'[k].1, d'[k].2)) = false from decide_eq_false he)
          clear he
          go_wp2
          refine wp_region_ext (by kernel_rfl) (by kernel_rfl) ?_
          repeat (go_big_quiet_step ((go_at_call 84; exact quietEb (eqTable_any q1 (VMono.ext hv) q2 (VMono.ext hv')) Hd.out)))
          refine wpQuiet_nil ?_
          rintro _ ⟨z, rfl⟩
          go_wp2
          go_ret
          exact ⟨by rw [decide_eq_false (ne_of_at hlt hlt2 He.out)]; rfl, (by refine x'z ?_; repeat (with_reducible (first | exact x'a _ _ | exact x'b _ | exact x'c (by assumption) | refine x'd ?_ (by assumption) | refine x'e ?_ _ | refine x'f ?_ _ | refine x'g ?_ | refine x'h ?_ ?_ _ | refine x'i ?_ _ | refine x'j ?_ | refine x'k ?_ _ | refine x'l ?_ _ _ | refine x'm ?_ | assumption | (refine x'n ?_; omega) | omega)))⟩
      · go_wp2
        go_ret
        exact ⟨by rw [decide_eq_true (all_eq HL.out hlt Ht.out)]; rfl, hw⟩
  · have hn : ((d.length : Int) != (d'.length : Int)) = true := by simp; omega
    go_enter Tryz.func44, Tryz.ntmps44
    go_wp2
    go_ret
    exact ⟨by rw [decide_eq_false (by rintro rfl; exact hl rfl)]; rfl, refl_ext w⟩
set_option maxHeartbeats 1000000 in
theorem eqDatabase_d {A A' : Option Addr} {c c' : Nat} {d d' : Dbd} {w : World} (hb : BDb d) (h : vDb w [.slice A d.length c] d) (hb' : BDb d') (h' : vDb w [.slice A' d'.length c'] d') :
    Calls Tryz.prog 14 #[.agg #[.slice A d.length c], .agg #[.slice A' d'.length c']] w fun e w' => e = .returned (.bool (decide (d = d'))) ∧ ∃ y, w' = ext w y := by
  have r1 := (vDb_get h).2.1
  have r2 := (vDb_get h').2.1
  obtain ⟨t, ht⟩ : ∃ t, decide (d = d') = t := ⟨_, rfl⟩
  have HT := Lib.hid ht
  clear ht h h'
  cases t
  all_goals
    go_enter Tryz.func14, Tryz.ntmps14
    go_wp2_with (go_at_call 44; refine (eqTableS_any hb (r1.toExt (by refine x'z ?_; repeat (with_reducible (first | exact x'a _ _ | exact x'b _ | exact x'c (by assumption) | refine x'd ?_ (by assumption) | refine x'e ?_ _ | refine x'f ?_ _ | refine x'g ?_ | refine x'h ?_ ?_ _ | refine x'i ?_ _ | refine x'j ?_ | refine x'k ?_ _ | refine x'l ?_ _ _ | refine x'm ?_ | assumption | (refine x'n ?_; omega) | omega)))) hb' (r2.toExt (by refine x'z ?_; repeat (with_reducible (first | exact x'a _ _ | exact x'b _ | exact x'c (by assumption) | refine x'd ?_ (by assumption) | refine x'e ?_ _ | refine x'f ?_ _ | refine x'g ?_ | refine x'h ?_ ?_ _ | refine x'i ?_ _ | refine x'j ?_ | refine x'k ?_ _ | refine x'l ?_ _ _ | refine x'm ?_ | assumption | (refine x'n ?_; omega) | omega))))).mono ?_; rintro e w' ⟨rfl, y, rfl⟩; rw [HT.out])
    go_ret
    exact ⟨by rw [HT.out]; rfl, (by refine x'z ?_; repeat (with_reducible (first | exact x'a _ _ | exact x'b _ | exact x'c (by assumption) | refine x'd ?_ (by assumption) | refine x'e ?_ _ | refine x'f ?_ _ | refine x'g ?_ | refine x'h ?_ ?_ _ | refine x'i ?_ _ | refine x'j ?_ | refine x'k ?_ _ | refine x'l ?_ _ _ | refine x'm ?_ | assumption | (refine x'n ?_; omega) | omega)))⟩
end Go.Proofs.YtfigcfajkilhiaaGreat
namespace Go.Proofs.YtfigcfajkilhiaaGreat
open Go.ChangeShapes Go.WideShapes Go.ChangeAt Go.RowKit
theorem oTb : OpenE Tryz.prog 94 3 vTb QTb := openStruct2 Tryz.underlying94 rfl rfl oStr oRel (by kernel_rfl)
theorem oDb : OpenE Tryz.prog 24 1 vDb QDb := openStruct1 Tryz.underlying24 rfl (openSl Tryz.underlying22 (by kernel_rfl) (by omega) oTb) (by kernel_rfl)
theorem sRel_form' {w : World} {v0 v1 : Value} {d : Rd} {F : List Nat} (h : sRel w [v0, v1] d F) : ∃ A c, v0 = .int .i64 d.1 ∧ v1 = .slice A d.2.length c := by
  obtain ⟨A, c, h1, h2, _⟩ := sRel_form h
  exact ⟨A, c, h1, h2⟩
end Go.Proofs.YtfigcfajkilhiaaGreat
namespace Go.Proofs.YtfigcfajkilhiaaGreat
open Go.RowKit
def mkRel (k : Int) (d : Rd) : Rd × Int := ((d.1, (mkN mkI k d.2).1), (mkN mkI k d.2).2)
theorem markRelation_d {v0 v1 : Value} {d : Rd} {F : List Nat} {k0 : Int} {w : World} (hb : BRel d) (h : sRel w [v0, v1] d F) (hN : F.Nodup) (h0 : 0 ≤ k0) (hk0 : k0 ≤ 80000000000) :
    Calls Tryz.prog 25 #[.agg #[v0, v1], .int .i64 k0] w fun e w' => ∃ k', e = .returned (.int .i64 k') ∧ Hid ((mkRel k0 d).2 = k') ∧ k0 ≤ k' ∧ k' ≤ k0 + 3000000 ∧ sRel w' [v0, v1] (mkRel k0 d).1 F ∧ Chg F w w' := by
  obtain ⟨A, c, rfl, rfl, hS⟩ := sRel_form h
  obtain ⟨_, hb2⟩ := hb
  have hlt : ∀ b ∈ F, b < w.heap.size := SMono.lt h
  clear h
  go_enter Tryz.func25, Tryz.ntmps25
  go_upto_region 1 with fail
  refine wp_name ?_
  intro W hW
  have xW : ∃ y, W = ext w y := by rw [hW.out]; exact (by refine x'z ?_; repeat (with_reducible (first | exact x'a _ _ | exact x'b _ | exact x'c (by assumption) | refine x'd ?_ (by assumption) | refine x'e ?_ _ | refine x'f ?_ _ | refine x'g ?_ | refine x'h ?_ ?_ _ | refine x'i ?_ _ | refine x'j ?_ | refine x'k ?_ _ | refine x'l ?_ _ _ | refine x'm ?_ | assumption | (refine x'n ?_; omega) | omega)))
  have BW0 : BoxAt W (w.heap.size) #[.int .i64 d.1, .slice A d.2.length c] := by rw [hW.out]; refine ⟨?_, fun j => ?_, fun j => ?_⟩ <;> go_simp
  obtain ⟨lW0, bW0, fW0⟩ := BW0
  have cW0_0 : W.cell? ⟨w.heap.size, 0, none⟩ = some (.int .i64 d.1) := bW0 0
  have cW0_1 : W.cell? ⟨w.heap.size, 1, none⟩ = some (.slice A d.2.length c) := bW0 1
  clear hW
  have hSW := OD.toExt hS xW
  go_wp2_with (go_at_call 50; refine (markIntSS_d hb2 hSW hN h0 (by omega)).mono ?_; rintro e w1 ⟨k1, rfl, HK1, kl1, ku1, hA1, hC1⟩)
  go_ret
  exact ⟨k1, rfl, HK1, kl1, ku1, sRel_mk hA1, (Chg.ofExt xW).trans hC1 (fun y hy => .inl hy)⟩
theorem heldRelation_d {A : Option Addr} {c n : Nat} {z k0 k' : Int} {d : Rd} {w : World} (hb : BRel d) (hk : Hid ((mkRel k0 d).2 = k')) (h : vRel w [.int .i64 z, .slice A n c] (mkRel k0 d).1) (h0 : 0 ≤ k0) (hk0 : k0 ≤ 80000000000) :
    Calls Tryz.prog 26 #[.agg #[.int .i64 z, .slice A n c], .int .i64 k0] w fun e w' => e = .returned (.int .i64 k') ∧ ∃ y, w' = ext w y := by
  obtain ⟨_, hb2⟩ := hb
  have hm := mkI_tot hb2
  have hv := (vRel_get h).2
  have hp : 0 ≤ k' := by rw [← hk.out]; show 0 ≤ (mkN mkI k0 d.2).2; rw [mkI_sum]; omega
  have HK : Hid ((mkN mkI k0 d.2).2 = k') := hk
  clear h hk hm
  go_enter Tryz.func26, Tryz.ntmps26
  go_upto_region 1 with fail
  refine wp_name ?_
  intro W hW
  have xW : ∃ y, W = ext w y := by rw [hW.out]; exact (by refine x'z ?_; repeat (with_reducible (first | exact x'a _ _ | exact x'b _ | exact x'c (by assumption) | refine x'd ?_ (by assumption) | refine x'e ?_ _ | refine x'f ?_ _ | refine x'g ?_ | refine x'h ?_ ?_ _ | refine x'i ?_ _ | refine x'j ?_ | refine x'k ?_ _ | refine x'l ?_ _ _ | refine x'm ?_ | assumption | (refine x'n ?_; omega) | omega)))
  have BW0 : BoxAt W (w.heap.size) #[.int .i64 z, .slice A n c] := by rw [hW.out]; refine ⟨?_, fun j => ?_, fun j => ?_⟩ <;> go_simp
  obtain ⟨lW0, bW0, fW0⟩ := BW0
  have cW0_0 : W.cell? ⟨w.heap.size, 0, none⟩ = some (.int .i64 z) := bW0 0
  have cW0_1 : W.cell? ⟨w.heap.size, 1, none⟩ = some (.slice A n c) := bW0 1
  clear hW
  go_wp2_with (go_at_call 52; refine (heldIntSS_d hb2 HK (VD.toExt hv xW) h0 (by omega)).mono ?_; rintro e w1 ⟨rfl, hx1⟩)
  go_ret
  exact ⟨rfl, (by refine x'z ?_; repeat (with_reducible (first | exact x'a _ _ | exact x'b _ | exact x'c (by assumption) | refine x'd ?_ (by assumption) | refine x'e ?_ _ | refine x'f ?_ _ | refine x'g ?_ | refine x'h ?_ ?_ _ | refine x'i ?_ _ | refine x'j ?_ | refine x'k ?_ _ | refine x'l ?_ _ _ | refine x'm ?_ | assumption | (refine x'n ?_; omega) | omega)))⟩
end Go.Proofs.YtfigcfajkilhiaaGreat
namespace Go.Proofs.YtfigcfajkilhiaaGreat
open Go.RowKit
def mkA (k : Int) (x : At) : At × Int := ((mtx k, marks (k + 1) x.2.length), k + 1 + x.2.length)
theorem mkA_sum (k : Int) (xs : List At) : (mkN mkA k xs).2 = k + ((xs.map fun x => 1 + x.2.length).sum : Nat) := mkN_sum (fun k x => by simp [mkA]; omega) xs k
theorem mkA_bd {k : Int} {xs : List At} (h0 : 0 ≤ k) (hs : k + ((xs.map fun x => 1 + x.2.length).sum : Nat) ≤ 99000000000) (i : Nat) : 0 ≤ (mkN mkA k (xs.take i)).2 ∧ (mkN mkA k (xs.take i)).2 ≤ 99000000000 := by
  rw [mkA_sum]
  have := sum_take_le (c := fun x : At => 1 + x.2.length) xs i
  omega
theorem mkA_tot : ∀ (d : List At), (d.map fun x => 1 + x.2.length).sum ≤ d.length + (d.map cAt).sum
  | [] => by simp
  | x :: d => by
    have := mkA_tot d
    simp only [List.map_cons, List.sum_cons, List.length_cons, cAt] at this ⊢
    omega
theorem sl_blk {g g' n n' c c' : Nat} (h : Value.slice (some ⟨g, 0, none⟩) n c = .slice (some ⟨g', 0, none⟩) n' c') : g = g' := by
  injection h with e1 _ _
  injection e1 with e1
  injection e1 with e1 _ _
theorem sAt_get {w : World} {c : List Value} {d : At} {F : List Nat} (h : sAt w c d F) : ∃ v, c = [.string d.1, v] ∧ SV 3 1 sI w v d.2 F := by
  obtain ⟨c0, c1, F0, F1, e0, h0, ⟨h1, f1⟩, ⟨v, rfl, h3⟩, e4⟩ := h
  subst h1 f1
  refine ⟨v, by rw [e0]; rfl, by rw [e4]; simpa using h3⟩
theorem sAt_mk {w : World} {s : ByteArray} {xs : List Int} {v : Value} {F : List Nat} (h : SV 3 1 sI w v xs F) : sAt w [.string s, v] (s, xs) F :=
  ⟨[.string s], [v], [], F, rfl, rfl, ⟨rfl, rfl⟩, ⟨v, rfl, h⟩, rfl⟩
set_option maxHeartbeats 4000000 in
theorem markAtomS_any {v : Value} {xs : List At} {F : List Nat} {k0 : Int} {w : World} (hx : xs.length ≤ 1000000000) (hxl : ∀ x ∈ xs, x.2.length ≤ 1000000000) (hS : SV 72 2 sAt w v xs F) (hN : F.Nodup) (h0 : 0 ≤ k0) (hk0 : k0 + ((xs.map fun x => 1 + x.2.length).sum : Nat) ≤ 99000000000) :
    Calls Tryz.prog 48 #[v, .int .i64 k0] w fun e w' => e = .returned (.int .i64 (mkN mkA k0 xs).2) ∧ SV 72 2 sAt w' v (mkN mkA k0 xs).1 F ∧ Chg F w w' := by
  have Hxl := Lib.hid hxl
  have HN := Lib.hid hN
  have HB := Lib.hid (mkA_bd h0 hk0)
  clear hxl hN hk0
  obtain ⟨A, cap, rfl, _, _⟩ := hS.form
  go_enter Tryz.func48, Tryz.ntmps48
  go_wp2
  go_loopw [1, 5] (fun m i wr => ∃ k : Nat, i = .int .i64 k ∧ m = .int .i64 (mkN mkA k0 (xs.take k)).2 ∧ k ≤ xs.length ∧ SV 72 2 sAt wr (.slice A xs.length cap) ((mkN mkA k0 (xs.take k)).1 ++ xs.drop k) F ∧ Chg F w wr) (fun _ i _ => xs.length - (intOf i).toNat)
  case atStart => exact ⟨0, rfl, by simp [mkN], by omega, by simpa [mkN] using hS, Chg.refl F w⟩
  case round =>
    obtain ⟨k, rfl, rfl, hk, hSk, hC⟩ := hrel
    have hlen : ((mkN mkA k0 (xs.take k)).1 ++ xs.drop k).length = xs.length := by simp; omega
    by_cases hlt : k < xs.length
    · obtain ⟨g, cap', hv, hgF, _, _⟩ := hSk.block (by intro e; rw [e] at hlen; simp at hlen; omega)
      rw [hlen] at hv
      injection hv with hA _ hc
      subst hA hc
      have hle := Hxl.out xs[k] (List.getElem_mem hlt)
      obtain ⟨b1, b2⟩ := HB.out k
      have hst := mk_set (mk := mkA) (k := k0) hlt
      have HT := Lib.hid (mkN_take (mk := mkA) (k := k0) hlt)
      obtain ⟨m, hm⟩ : ∃ m, (mkN mkA k0 (xs.take k)).2 = m := ⟨_, rfl⟩
      obtain ⟨L, hL⟩ : ∃ L, (mkN mkA k0 (xs.take k)).1 ++ xs.drop k = L := ⟨_, rfl⟩
      rw [hm] at b1 b2 hst ⊢
      have HM := Lib.hid hm
      obtain ⟨x, hx⟩ : ∃ x, xs[k] = x := ⟨_, rfl⟩
      have HG : Hid (∀ h : k < L.length, L[k] = x) := Lib.hid (by subst hL; intro h; rw [← hx]; exact mk_get hlt h)
      rw [hL] at hst hSk hlen
      rw [hx] at hle hst
      have HX := Lib.hid hx
      have HS := Lib.hid hst
      have HL := Lib.hid hlen
      have hSk := Lib.hid hSk
      clear hm hL hst hlen hx
      go_upto_region 5 with (go_at_call 86; refine (markText_any (by omega)).mono ?_; rintro e w2 ⟨rfl, hx2⟩; have hS2 := hSk.out.toExt hx2; obtain ⟨g2, cap2, c2, Fk2, hv2, hg2, hgF2, hgk2, hsub2, hNk2, hcl2, hcell2, hfz2, hE2, _, hup2⟩ := hS2.at HN.out (k := k) (by rw [HL.out]; omega); obtain rfl := sl_blk hv2; clear hv2; obtain ⟨v2, rfl, hV2⟩ := sAt_get hE2; have hc20 := hcell2 0 (by simp); have hc21 := hcell2 1 (by simp); simp only [Nat.add_zero, List.getElem_cons_zero, List.getElem_cons_succ] at hc20 hc21; have Hup := Lib.hid hup2; have Hsub := Lib.hid hsub2; clear hcell2 hup2 hsub2 hcl2 hS2)
      refine wp_name ?_
      intro w3 hw3
      have hk2 : k < L.length := by rw [HL.out]; exact hlt
      have hgx := HG.out hk2
      rw [hgx] at hV2
      obtain ⟨hS3, hC3⟩ := Hup.out 0 (.string (mtx m)) (mtx m, x.2) (by omega) (show sAt w2 [.string (mtx m), v2] (mtx m, x.2) Fk2 from sAt_mk hV2)
      rw [Nat.add_zero, ← hw3.out] at hS3 hC3
      have hC3w := hC3
      obtain ⟨g3, cap3, c3, Fk3, hv3, hg3, hgF3, hgk3, hsub3, hNk3, hcl3, hcell3, hfz3, hE3, hup3, _⟩ := hS3.at HN.out (k := k) (by simpa using hk2)
      obtain rfl := sl_blk hv3
      clear hv3
      rw [List.getElem_set_self] at hE3
      obtain ⟨v3, rfl, hV3⟩ := sAt_get hE3
      have hc31 := hcell3 1 (by simp)
      simp only [List.getElem_cons_zero, List.getElem_cons_succ] at hc31
      dsimp only at hV3
      have Hup3 := Lib.hid hup3
      have Hsub3 := Lib.hid hsub3
      have HgF := Lib.hid hgF
      have HC3 := Lib.hid hC3
      clear hcell3 hup3 hsub3 hcl3 hS3 hC3w hC3 hw3 hc20 hc21 Hup hgx hE3 hE2 hfz2 hfz3 hV2
      go_wp2_with (go_at_call 49; refine (markIntS_any hle hV3 (by omega) (by omega)).mono ?_; rintro e w4 ⟨rfl, hS4, hC4⟩)
      have h5 := Hup3.out w4 (mtx m, marks (m + 1) x.2.length) (sAt_mk hS4) hC4
      rw [List.set_set] at h5
      have e3 : L.set k (mtx m, marks (m + 1) x.2.length) = (mkN mkA k0 (xs.take (k + 1))).1 ++ xs.drop (k + 1) := HS.out
      have e4 : (mkN mkA k0 (xs.take (k + 1))).2 = m + 1 + x.2.length := by rw [HT.out, HM.out, HX.out]; rfl
      exact ⟨⟨k + 1, by go_num, by rw [e4], by omega, by rw [← e3]; exact h5, ((Chg.trans0 hC hx2).trans HC3.out (fun y hy => .inl (by rw [List.mem_singleton.1 hy]; exact HgF.out))).trans hC4 (fun y hy => .inl (Hsub3.out y hy))⟩, by simp [intOf]; omega⟩
    · go_wp2
      go_ret
      have e : k = xs.length := by omega
      subst e
      rw [List.take_length] at hSk ⊢
      exact ⟨rfl, by rwa [List.drop_length, List.append_nil] at hSk, hC⟩
theorem markAtomS_d {v : Value} {d : List At} {F : List Nat} {k0 : Int} {w : World} (hb : BAts d) (h : sAts w [v] d F) (hN : F.Nodup) (h0 : 0 ≤ k0) (hk0 : k0 ≤ 90000000000) :
    Calls Tryz.prog 48 #[v, .int .i64 k0] w fun e w' => ∃ k', e = .returned (.int .i64 k') ∧ Hid ((mkN mkA k0 d).2 = k') ∧ k0 ≤ k' ∧ k' ≤ k0 + 3000000 ∧ sAts w' [v] (mkN mkA k0 d).1 F ∧ Chg F w w' := by
  have hm := mkA_tot d
  have hb1 := hb.1
  have hb2 := hb.2
  obtain ⟨v', e, h⟩ := h
  injection e with e
  subst e
  refine (markAtomS_any (Nat.le_trans hb.1 (by omega)) (fun x hx => Nat.le_trans (hb.each x hx).2 (by omega)) h hN h0 (by omega)).mono ?_
  rintro e w' ⟨h1, h2, h3⟩
  refine ⟨_, h1, Lib.hid rfl, ?_, ?_, ⟨_, rfl, h2⟩, h3⟩ <;> (rw [mkA_sum]; omega)
def mkQ (k : Int) (d : Qd) : Qd × Int := ((d.1, (mkN mkA k d.2.1).1, marks (mkN mkA k d.2.1).2 d.2.2.length), (mkN mkA k d.2.1).2 + d.2.2.length)
theorem sQ_get {w : World} {v0 v1 v2 : Value} {d : Qd} {F : List Nat} (h : sQ w [v0, v1, v2] d F) : ∃ F1 F2, F = F1 ++ F2 ∧ v0 = .int .i64 d.1 ∧ sAts w [v1] d.2.1 F1 ∧ SV 3 1 sI w v2 d.2.2 F2 := by
  obtain ⟨c0, c1, F0, F1, e0, h0, ⟨h1, f1⟩, ⟨c2, c3, F2, F3, e1, h2, ⟨u1, rfl, h3⟩, ⟨u2, rfl, h4⟩, e5⟩, e6⟩ := h
  subst e1 h1 f1 e5
  simp only [List.cons_append, List.nil_append, List.cons.injEq, and_true] at e0
  obtain ⟨rfl, rfl, rfl⟩ := e0
  exact ⟨F2, F3, by simpa using e6, rfl, ⟨_, rfl, h3⟩, h4⟩
set_option maxHeartbeats 1000000 in
theorem markQuery_d {v0 v1 v2 : Value} {d : Qd} {F : List Nat} {k0 : Int} {w : World} (hb : BQ d) (h : sQ w [v0, v1, v2] d F) (hN : F.Nodup) (h0 : 0 ≤ k0) (hk0 : k0 ≤ 80000000000) :
    Calls Tryz.prog 18 #[.agg #[v0, v1, v2], .int .i64 k0] w fun e w' => ∃ k', e = .returned (.int .i64 k') ∧ Hid ((mkQ k0 d).2 = k') ∧ k0 ≤ k' ∧ k' ≤ k0 + 6000000 ∧ sQ w' [v0, v1, v2] (mkQ k0 d).1 F ∧ Chg F w w' := by
  obtain ⟨hb1, hb2, hb3⟩ := hb
  have hq := h
  obtain ⟨F1, F2, rfl, rfl, hA, hO⟩ := sQ_get hq
  obtain ⟨N1, N2, N3⟩ := List.nodup_append.1 hN
  obtain ⟨A, a, B, b, _, rfl, rfl⟩ := sQ_form h
  have hm2 : d.2.2.length ≤ 1000000000 := by omega
  have hlt : ∀ b ∈ F1 ++ F2, b < w.heap.size := SMono.lt h
  have Hlt := Lib.hid hlt
  have HN3 := Lib.hid N3
  clear h hq hN hlt N3
  go_enter Tryz.func18, Tryz.ntmps18
  go_upto_region 1 with fail
  refine wp_name ?_
  intro W hW
  have xW : ∃ y, W = ext w y := by rw [hW.out]; exact (by refine x'z ?_; repeat (with_reducible (first | exact x'a _ _ | exact x'b _ | exact x'c (by assumption) | refine x'd ?_ (by assumption) | refine x'e ?_ _ | refine x'f ?_ _ | refine x'g ?_ | refine x'h ?_ ?_ _ | refine x'i ?_ _ | refine x'j ?_ | refine x'k ?_ _ | refine x'l ?_ _ _ | refine x'm ?_ | assumption | (refine x'n ?_; omega) | omega)))
  have BW0 : BoxAt W (w.heap.size) #[.int .i64 d.1, .slice A d.2.1.length a, .slice B d.2.2.length b] := by rw [hW.out]; refine ⟨?_, fun j => ?_, fun j => ?_⟩ <;> go_simp
  obtain ⟨lW0, bW0, fW0⟩ := BW0
  have cW0_0 : W.cell? ⟨w.heap.size, 0, none⟩ = some (.int .i64 d.1) := bW0 0
  have cW0_1 : W.cell? ⟨w.heap.size, 1, none⟩ = some (.slice A d.2.1.length a) := bW0 1
  have cW0_2 : W.cell? ⟨w.heap.size, 2, none⟩ = some (.slice B d.2.2.length b) := bW0 2
  clear hW
  have PW : BoxAt W w.heap.size #[.int .i64 d.1, .slice A d.2.1.length a, .slice B d.2.2.length b] := ⟨lW0, bW0, fW0⟩
  have nF1 : w.heap.size ∉ F1 := fun h => by have := Hlt.out _ (List.mem_append_left F2 h); omega
  have hAW := OD.toExt hA xW
  have hOW := hO.toExt xW
  go_wp2_with (first
    | (go_at_call 48; refine (markAtomS_d hb2 hAW N1 h0 (by omega)).mono ?_; rintro e w1 ⟨k1, rfl, HK1, kl1, ku1, hA1, hC1⟩; have P1 := PW.chg hC1 nF1; obtain ⟨l1, a1, a1', a1'', f1⟩ := box3 P1)
    | (go_at_call 49; refine (markIntS_any hm2 (hOW.chg hC1 (fun y hy hy2 => HN3.out y hy2 y hy rfl)) (by omega) (by omega)).mono ?_; rintro e w2 ⟨rfl, hO2, hC2⟩))
  go_ret
  have HK : (mkN mkA k0 d.2.1).2 = k1 := HK1.out
  have hA2 : sAts w2 [.slice A d.2.1.length a] (mkN mkA k0 d.2.1).1 F1 := OD.chg hA1 hC2 (fun y hy hy2 => HN3.out y hy y hy2 rfl)
  refine ⟨_, rfl, Lib.hid (by unfold mkQ; rw [HK]), by omega, by omega, ?_, ?_⟩
  · have hR := sP_mk (E0 := sI) (w := w2) (u := .int .i64 d.1) (d := (d.1, ((mkN mkA k0 d.2.1).1, marks k1 d.2.2.length))) ⟨rfl, rfl⟩ (sP_mk (E0 := sAts) (E1 := sSl 3 1 sI) (u := .slice A d.2.1.length a) (d := ((mkN mkA k0 d.2.1).1, marks k1 d.2.2.length)) hA2 ⟨_, rfl, hO2⟩)
    unfold mkQ
    rw [HK]
    simpa using hR
  · exact ((Chg.ofExt xW).trans hC1 (fun y hy => .inl (by simp [hy]))).trans hC2 (fun y hy => .inl (by simp [hy]))
end Go.Proofs.YtfigcfajkilhiaaGreat
