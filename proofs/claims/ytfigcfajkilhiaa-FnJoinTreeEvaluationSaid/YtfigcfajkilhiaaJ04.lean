/- Contracts of functions that the statement reaches. -/
import Derived.Test.YtfigcfajkilhiaaJ03
import Derived.Test.YtfigcfajkilhiaaRows
import Derived.Test.YtfigcfajkilhiaaJ01
namespace Go.Proofs.Ytfigcfajkilhiaa
open Go.RowKit
def rowV (xs : List Int) : Bool := xs.all fun v => inB v 0 99
def allN (p : Nat → Bool) : Nat → Nat → Bool
  | 0, _ => true
  | f + 1, k => p k && allN p f (k + 1)
theorem allN_step {p : Nat → Bool} {n k : Nat} (h : k < n) : allN p (n - k) k = (p k && allN p (n - (k + 1)) (k + 1)) := by
  rw [show n - k = (n - (k + 1)) + 1 by omega, allN]
theorem allN_end {p : Nat → Bool} {n k : Nat} (h : ¬ k < n) : allN p (n - k) k = true := by
  rw [show n - k = 0 by omega, allN]
def rowOk (a : Int) (rows : List (List Int)) (i : Nat) : Bool := decide (((rows.getD i []).length : Int) = a) && rowV (rows.getD i []) && (decide (i = 0) || decide (cmpL (rows.getD (i - 1) []) (rows.getD i []) < 0))
def rowsB (a : Int) (rows : List (List Int)) : Bool := inB a 0 5 && decide (rows.length ≤ 4000) && allN (rowOk a rows) rows.length 0
def vars1 (xs : List Int) (i : Nat) : Bool := inB (xs.getD i 0) 0 4 && (decide (i = 0) || decide (xs.getD (i - 1) 0 < xs.getD i 0))
def varsB (xs : List Int) : Bool := allN (vars1 xs) xs.length 0
def vrB (d : VRd) : Bool := varsB d.1 && rowsB d.2.1 d.2.2 && decide (d.2.1 = (d.1.length : Int))
theorem allR_step {p : Int → Bool} {xs : List Int} {k : Nat} (h : k < xs.length) : (xs.drop k).all p = (p xs[k] && (xs.drop (k + 1)).all p) := by
  rw [List.drop_eq_getElem_cons h, List.all_cons]
theorem allR_end {p : Int → Bool} {xs : List Int} {k : Nat} (h : ¬ k < xs.length) : (xs.drop k).all p = true := by
  rw [List.drop_eq_nil_of_le (by omega)]; rfl
set_option maxHeartbeats 400000 in
theorem AreValidValues_any {A : Option Addr} {c : Nat} {xs : List Int} {w : World} (hx : xs.length ≤ 1000000000) (h1 : RI w A xs) :
    Calls Try.prog 189 #[.slice A xs.length c] w fun e w' => e = .returned (.bool (rowV xs)) ∧ w = w' := by
  go_enter Try.func189, Try.ntmps189
  go_wp2
  go_loop [7] (fun i => ∃ k : Nat, i = .int .i64 k ∧ k ≤ xs.length ∧ Hid ((xs.drop k).all (fun v => inB v 0 99) = rowV xs)) (fun i => xs.length - (intOf i).toNat)
  case atStart => exact ⟨0, rfl, by omega, Lib.hid rfl⟩
  case round =>
    obtain ⟨k, rfl, hk, Hj⟩ := hrel
    by_cases hlt : k < xs.length
    · obtain ⟨b, o, rfl, hb, hc⟩ := h1.atI hlt
      have e := Hj.out
      rw [allR_step hlt] at e
      obtain ⟨t, ht⟩ : ∃ t, inB xs[k] 0 99 = t := ⟨_, rfl⟩
      rw [ht] at e
      have NT := Lib.hid ht
      have He := Lib.hid e
      clear e ht Hj
      cases t with
      | true =>
        go_wp2_with (go_at_call 121; refine (within_any _ _ _ _).mono ?_; rintro e w' ⟨rfl, rfl⟩; rw [NT.out])
        exact ⟨⟨k + 1, by go_num, by omega, Lib.hid (by simpa using He.out)⟩, by simp [intOf]; omega⟩
      | false =>
        go_wp2_with (go_at_call 121; refine (within_any _ _ _ _).mono ?_; rintro e w' ⟨rfl, rfl⟩; rw [NT.out])
        go_ret
        exact ⟨by rw [← He.out]; rfl, rfl⟩
    · have e := Hj.out
      rw [allR_end hlt] at e
      have He := Lib.hid e
      clear e Hj
      go_wp2
      go_ret
      exact ⟨by rw [← He.out]; rfl, rfl⟩
set_option maxHeartbeats 400000 in
theorem specAreValidValues_any {A : Option Addr} {c : Nat} {xs : List Int} {w : World} (hx : xs.length ≤ 1000000000) (h1 : RI w A xs) :
    Calls Try.prog 140 #[.slice A xs.length c] w fun e w' => e = .returned (.bool (rowV xs)) ∧ w = w' := by
  go_enter Try.func140, Try.ntmps140
  go_wp2
  go_loop [3] (fun i => ∃ k : Nat, i = .int .i64 k ∧ k ≤ xs.length ∧ Hid ((xs.drop k).all (fun v => inB v 0 99) = rowV xs)) (fun i => xs.length - (intOf i).toNat)
  case atStart => exact ⟨0, rfl, by omega, Lib.hid rfl⟩
  case round =>
    obtain ⟨k, rfl, hk, Hj⟩ := hrel
    by_cases hlt : k < xs.length
    · obtain ⟨b, o, rfl, hb, hc⟩ := h1.atI hlt
      have e := Hj.out
      rw [allR_step hlt] at e
      obtain ⟨t, ht⟩ : ∃ t, inB xs[k] 0 99 = t := ⟨_, rfl⟩
      rw [ht] at e
      have NT := Lib.hid ht
      have He := Lib.hid e
      clear e ht Hj
      cases t with
      | true =>
        go_wp2_with (go_at_call 123; refine (l1In_any _ _ _ _).mono ?_; rintro e w' ⟨rfl, rfl⟩; rw [NT.out])
        exact ⟨⟨k + 1, by go_num, by omega, Lib.hid (by simpa using He.out)⟩, by simp [intOf]; omega⟩
      | false =>
        go_wp2_with (go_at_call 123; refine (l1In_any _ _ _ _).mono ?_; rintro e w' ⟨rfl, rfl⟩; rw [NT.out])
        go_ret
        exact ⟨by rw [← He.out]; rfl, rfl⟩
    · have e := Hj.out
      rw [allR_end hlt] at e
      have He := Lib.hid e
      clear e Hj
      go_wp2
      go_ret
      exact ⟨by rw [← He.out]; rfl, rfl⟩
theorem compareInts_any (a b : Int) (w : World) : Calls Try.prog 193 #[.int .i64 a, .int .i64 b] w fun e w' => e = .returned (.int .i64 (cmpI a b)) ∧ w = w' := by
  by_cases h1 : a < b
  · have HE := Lib.hid (show cmpI a b = -1 by unfold cmpI; rw [if_pos h1])
    go_enter Try.func193, Try.ntmps193
    go_wp2
    go_ret
    exact ⟨by rw [HE.out]; rfl, rfl⟩
  · by_cases h2 : b < a
    · have HE := Lib.hid (show cmpI a b = 1 by unfold cmpI; rw [if_neg h1, if_pos h2])
      go_enter Try.func193, Try.ntmps193
      go_wp2
      go_ret
      exact ⟨by rw [HE.out]; rfl, rfl⟩
    · have HE := Lib.hid (show cmpI a b = 0 by unfold cmpI; rw [if_neg h1, if_neg h2])
      go_enter Try.func193, Try.ntmps193
      go_wp2
      go_ret
      exact ⟨by rw [HE.out]; rfl, rfl⟩
theorem quietSj {P : Program} {f : FuncId} {args : Array Value} {w y : World} {m n : Int}
    (h : Calls P f args (ext w y) fun e w' => e = .returned (.int .i64 m) ∧ ext w y = w') (hc : m = n) : Calls P f args (ext w y) fun e w' => e = .returned (.int .i64 n) ∧ ∃ z, w' = ext w z := by
  subst hc; exact quietS h
set_option maxHeartbeats 1000000 in
theorem CompareRows_any {A A' : Option Addr} {c c' : Nat} {xs ys : List Int} {w : World} (hx : xs.length ≤ 1000000000) (h1 : RI w A xs) (hy : ys.length ≤ 1000000000) (h2 : RI w A' ys) :
    Calls Try.prog 181 #[.slice A xs.length c, .slice A' ys.length c'] w fun e w' => e = .returned (.int .i64 (cmpL xs ys)) ∧ ∃ y, w' = ext w y := by
  go_enter Try.func181, Try.ntmps181
  go_wp2
  go_loopw [5] (fun i wr => ∃ k : Nat, i = .int .i64 k ∧ k ≤ xs.length ∧ k ≤ ys.length ∧ Hid (cmpL (xs.drop k) (ys.drop k) = cmpL xs ys) ∧ ∃ y, wr = ext w y) (fun i _ => xs.length - (intOf i).toNat)
  case atStart => exact ⟨0, rfl, by omega, by omega, Lib.hid (by simp), refl_ext w⟩
  case round =>
    obtain ⟨k, rfl, hk, hk2, Ht, hw⟩ := hrel
    by_cases hlt : k < xs.length
    · by_cases hlt2 : k < ys.length
      · obtain ⟨b, o, rfl, hb, hc⟩ := (h1.toExt hw).atI hlt
        obtain ⟨b', o', rfl, hb', hc'⟩ := (h2.toExt hw).atI hlt2
        by_cases he : xs[k] = ys[k]
        · have He := Lib.hid ((cmpL_step hlt hlt2 he).symm.trans Ht.out)
          have hq : (xs[k] != ys[k]) = false := by simp [he]
          clear he Ht
          go_wp2
          refine wp_region_ext (by kernel_rfl) (by kernel_rfl) ?_
          repeat (go_big_quiet_step (fail))
          refine wpQuiet_nil ?_
          rintro _ ⟨z, rfl⟩
          go_wp2
          exact ⟨⟨k + 1, by go_num, by omega, by omega, He, (by refine x'z ?_; repeat (with_reducible (first | exact x'a _ _ | exact x'b _ | exact x'c (by assumption) | refine x'd ?_ (by assumption) | refine x'e ?_ _ | refine x'f ?_ _ | refine x'g ?_ | refine x'h ?_ ?_ _ | refine x'i ?_ _ | refine x'j ?_ | refine x'k ?_ _ | refine x'l ?_ _ _ | refine x'm ?_ | assumption | (refine x'n ?_; omega) | omega)))⟩, by simp [intOf]; omega⟩
        · have He := Lib.hid ((cmpL_stop hlt hlt2 he).symm.trans Ht.out)
          have hq : (xs[k] != ys[k]) = true := by simp [he]
          clear he Ht
          go_wp2
          refine wp_region_ext (by kernel_rfl) (by kernel_rfl) ?_
          repeat (go_big_quiet_step (fail))
          refine wpQuiet_nil ?_
          rintro _ ⟨z, rfl⟩
          have hb2 := lt_ext (x := z) hb
          have hb3 := lt_ext (x := z) hb'
          go_wp2
          refine wp_region_ext (by kernel_rfl) (by kernel_rfl) ?_
          repeat (go_big_quiet_step ((go_at_call 193; exact quietSj (compareInts_any _ _ _) He.out)))
          refine wpQuiet_nil ?_
          rintro _ ⟨z2, rfl⟩
          go_wp2
          go_ret
          exact ⟨rfl, (by refine x'z ?_; repeat (with_reducible (first | exact x'a _ _ | exact x'b _ | exact x'c (by assumption) | refine x'd ?_ (by assumption) | refine x'e ?_ _ | refine x'f ?_ _ | refine x'g ?_ | refine x'h ?_ ?_ _ | refine x'i ?_ _ | refine x'j ?_ | refine x'k ?_ _ | refine x'l ?_ _ _ | refine x'm ?_ | assumption | (refine x'n ?_; omega) | omega)))⟩
      · have He := Lib.hid ((cmpL_end hk hk2 (by omega)).symm.trans Ht.out)
        clear Ht
        go_wp2_with (go_at_call 193; refine (compareInts_any _ _ _).mono ?_; rintro e w' ⟨rfl, rfl⟩; rw [He.out])
        go_ret
        exact ⟨rfl, hw⟩
    · have He := Lib.hid ((cmpL_end hk hk2 (by omega)).symm.trans Ht.out)
      clear Ht
      go_wp2_with (go_at_call 193; refine (compareInts_any _ _ _).mono ?_; rintro e w' ⟨rfl, rfl⟩; rw [He.out])
      go_ret
      exact ⟨rfl, hw⟩
theorem RV.atV' {w : World} {b o : Nat} {d : List (List Int)} (h : RII w (some ⟨b, o, none⟩) d) {k : Nat} (hk : k < d.length) : b < w.heap.size ∧ ∃ A' c', w.cell? ⟨b, o + k, none⟩ = some (.slice A' (d.getD k []).length c') ∧ RI w A' (d.getD k []) := by
  obtain ⟨b', o', A', c', e, h1, h2, h3⟩ := h.atV hk
  injection e with e
  injection e with e1 e2 _
  subst e1 e2
  have eg : d.getD k [] = d[k] := by rw [List.getD_eq_getElem?_getD, List.getElem?_eq_getElem hk]; rfl
  rw [eg]
  exact ⟨h1, A', c', h2, h3⟩
theorem RV.pl {w : World} {α : Type} {size : Nat} {E : VE α} {A : Option Addr} {d : List α} (h : RV size E w A d) (hk : 0 < d.length) : ∃ b o, A = some ⟨b, o, none⟩ := by
  obtain ⟨b, o, e, _⟩ := h (by intro e; rw [e] at hk; simp at hk)
  exact ⟨b, o, e⟩
theorem rows_f {a : Int} {rows : List (List Int)} (h : allN (rowOk a rows) rows.length 0 = false) : rowsB a rows = false := by unfold rowsB; rw [h, Bool.and_false]
set_option maxRecDepth 100000 in
set_option maxHeartbeats 8000000 in
theorem rowsValid_any {a : Int} {A : Option Addr} {c : Nat} {rows : List (List Int)} {w : World} (hx : rows.length ≤ 1000000000) (hxl : ∀ j, (rows.getD j []).length ≤ 1000000000) (h1 : RII w A rows) :
    Calls Try.prog 180 #[.int .i64 a, .slice A rows.length c] w fun e w' => e = .returned (.bool (rowsB a rows)) ∧ ∃ y, w' = ext w y := by
  have HL := Lib.hid hxl
  clear hxl
  obtain ⟨t1, ht1⟩ : ∃ t, inB a 0 5 = t := ⟨_, rfl⟩
  have N1 := Lib.hid ht1
  have HE := Lib.hid (show rowsB a rows = (t1 && decide (rows.length ≤ 4000) && allN (rowOk a rows) rows.length 0) by unfold rowsB; rw [ht1])
  clear ht1
  cases t1 with
  | false =>
    go_enter Try.func180, Try.ntmps180
    go_wp2_with (go_at_call 121; refine (within_any _ _ _ _).mono ?_; rintro e w' ⟨rfl, rfl⟩; rw [N1.out])
    go_ret
    exact ⟨by rw [HE.out]; rfl, refl_ext w⟩
  | true =>
    by_cases h4 : rows.length ≤ 4000
    · have HE2 := Lib.hid (show rowsB a rows = allN (rowOk a rows) rows.length 0 by rw [HE.out, decide_eq_true h4]; simp)
      go_enter Try.func180, Try.ntmps180
      go_wp2_with (go_at_call 121; refine (within_any _ _ _ _).mono ?_; rintro e w' ⟨rfl, rfl⟩; rw [N1.out])
      go_loopw [17] (fun i wr => ∃ k : Nat, i = .int .i64 k ∧ k ≤ rows.length ∧ (∃ y, wr = ext w y) ∧ Hid (allN (rowOk a rows) (rows.length - k) k = allN (rowOk a rows) rows.length 0)) (fun i _ => rows.length - (intOf i).toNat)
      case atStart => exact ⟨0, rfl, by omega, refl_ext w, Lib.hid rfl⟩
      case round =>
        obtain ⟨k, rfl, hk, hy, Hj⟩ := hrel
        by_cases hlt : k < rows.length
        · obtain ⟨b, o, rfl⟩ := h1.pl (by omega)
          obtain ⟨hb, A1, c1, hc, hv⟩ := (h1.toExt hy).atV' hlt
          have e := Hj.out
          rw [allN_step hlt] at e
          obtain ⟨r, hr⟩ : ∃ r, rows.getD k [] = r := ⟨_, rfl⟩
          have lr := HL.out k
          rw [hr] at hc hv lr
          obtain ⟨t3, ht3⟩ : ∃ t, decide ((r.length : Int) = a) = t := ⟨_, rfl⟩
          obtain ⟨t4, ht4⟩ : ∃ t, rowV r = t := ⟨_, rfl⟩
          have q3 : ((r.length : Int) != a) = !t3 := by rw [← ht3]; by_cases q : (r.length : Int) = a <;> simp [q]
          have eR : rowOk a rows k = (t3 && t4 && (decide (k = 0) || decide (cmpL (rows.getD (k - 1) []) r < 0))) := by unfold rowOk; rw [hr, ht3, ht4]
          rw [eR] at e
          have N4 := Lib.hid ht4
          clear hr ht3 ht4 eR Hj
          cases t3 with
          | false =>
            have HF := Lib.hid (rows_f (a := a) (rows := rows) (by rw [← e]; rfl))
            clear e
            go_wp2
            go_ret
            exact ⟨by rw [HF.out]; rfl, hy⟩
          | true =>
            cases t4 with
            | false =>
              have HF := Lib.hid (rows_f (a := a) (rows := rows) (by rw [← e]; rfl))
              clear e
              go_wp2_with (go_at_call 189; refine (AreValidValues_any lr hv).mono ?_; rintro e w' ⟨rfl, rfl⟩; rw [N4.out])
              go_ret
              exact ⟨by rw [HF.out]; rfl, hy⟩
            | true =>
              by_cases hk0 : 0 < k
              · obtain ⟨_, A2, c2, hc2, hv2⟩ := (h1.toExt hy).atV' (k := k - 1) (by omega)
                have lr2 := HL.out (k - 1)
                obtain ⟨r2, hr2⟩ : ∃ r, rows.getD (k - 1) [] = r := ⟨_, rfl⟩
                rw [hr2] at hc2 hv2 lr2 e
                obtain ⟨C, hC⟩ : ∃ C, cmpL r2 r = C := ⟨_, rfl⟩
                rw [hC, decide_eq_false (show ¬ k = 0 by omega)] at e
                have HC := Lib.hid hC
                have s2 : ((k : Int) - 1).toNat = k - 1 := by omega
                clear hr2 hC
                by_cases hC0 : C < 0
                · have HK := Lib.hid (show allN (rowOk a rows) (rows.length - (k + 1)) (k + 1) = allN (rowOk a rows) rows.length 0 by rw [decide_eq_true hC0] at e; simpa using e)
                  clear e
                  go_wp2_with (first
                    | (go_at_call 189; refine (AreValidValues_any lr hv).mono ?_; rintro e w' ⟨rfl, rfl⟩; rw [N4.out])
                    | (go_at_call 181; refine (CompareRows_any lr2 hv2 lr hv).mono ?_; rintro e w2 ⟨rfl, hx2⟩; rw [HC.out]))
                  exact ⟨⟨k + 1, by go_num, by omega, trans_ext hy hx2, HK⟩, by simp [intOf]; omega⟩
                · have HF := Lib.hid (rows_f (a := a) (rows := rows) (by rw [decide_eq_false hC0] at e; rw [← e]; rfl))
                  have hC1 : 0 ≤ C := by omega
                  clear e
                  go_wp2_with (first
                    | (go_at_call 189; refine (AreValidValues_any lr hv).mono ?_; rintro e w' ⟨rfl, rfl⟩; rw [N4.out])
                    | (go_at_call 181; refine (CompareRows_any lr2 hv2 lr hv).mono ?_; rintro e w2 ⟨rfl, hx2⟩; rw [HC.out]))
                  go_ret
                  exact ⟨by rw [HF.out]; rfl, trans_ext hy hx2⟩
              · have HK := Lib.hid (show allN (rowOk a rows) (rows.length - (k + 1)) (k + 1) = allN (rowOk a rows) rows.length 0 by rw [decide_eq_true (show k = 0 by omega)] at e; simpa using e)
                clear e
                go_wp2_with (go_at_call 189; refine (AreValidValues_any lr hv).mono ?_; rintro e w' ⟨rfl, rfl⟩; rw [N4.out])
                exact ⟨⟨k + 1, by go_num, by omega, hy, HK⟩, by simp [intOf]; omega⟩
        · have e := Hj.out
          rw [allN_end hlt] at e
          have HK := Lib.hid (show rowsB a rows = true by rw [HE2.out, ← e])
          clear e Hj
          go_wp2
          go_ret
          exact ⟨by rw [HK.out]; rfl, hy⟩
    · have HE2 := Lib.hid (show rowsB a rows = false by rw [HE.out, decide_eq_false h4]; rfl)
      have h5 : 4000 < rows.length := by omega
      go_enter Try.func180, Try.ntmps180
      go_wp2_with (go_at_call 121; refine (within_any _ _ _ _).mono ?_; rintro e w' ⟨rfl, rfl⟩; rw [N1.out])
      go_ret
      exact ⟨by rw [HE2.out]; rfl, refl_ext w⟩
theorem rows_lenW {rows : List (List Int)} (h : ∀ x ∈ rows, x.length ≤ 1000000000) (j : Nat) : (rows.getD j []).length ≤ 1000000000 := by
  by_cases hj : j < rows.length
  · rw [List.getD_eq_getElem?_getD, List.getElem?_eq_getElem hj]
    exact h _ (List.getElem_mem hj)
  · rw [List.getD_eq_getElem?_getD, List.getElem?_eq_none (by omega)]
    simp
theorem IsValidRelation_w {a : Int} {A : Option Addr} {c : Nat} {rows : List (List Int)} {w : World} (hx : rows.length ≤ 1000000000) (hxl : ∀ x ∈ rows, x.length ≤ 1000000000) (h1 : RII w A rows) :
    Calls Try.prog 122 #[.agg #[.int .i64 a, .slice A rows.length c]] w fun e w' => e = .returned (.bool (rowsB a rows)) ∧ ∃ y, w' = ext w y := by
  have HL := Lib.hid (rows_lenW hxl)
  clear hxl
  go_enter Try.func122, Try.ntmps122
  go_wp2_with (go_at_call 180; refine (rowsValid_any hx HL.out (h1.toExt (by refine x'z ?_; repeat (with_reducible (first | exact x'a _ _ | exact x'b _ | exact x'c (by assumption) | refine x'd ?_ (by assumption) | refine x'e ?_ _ | refine x'f ?_ _ | refine x'g ?_ | refine x'h ?_ ?_ _ | refine x'i ?_ _ | refine x'j ?_ | refine x'k ?_ _ | refine x'l ?_ _ _ | refine x'm ?_ | assumption | (refine x'n ?_; omega) | omega))))).mono ?_; rintro e w1 ⟨rfl, hx1⟩)
  go_ret
  exact ⟨rfl, (by refine x'z ?_; repeat (with_reducible (first | exact x'a _ _ | exact x'b _ | exact x'c (by assumption) | refine x'd ?_ (by assumption) | refine x'e ?_ _ | refine x'f ?_ _ | refine x'g ?_ | refine x'h ?_ ?_ _ | refine x'i ?_ _ | refine x'j ?_ | refine x'k ?_ _ | refine x'l ?_ _ _ | refine x'm ?_ | assumption | (refine x'n ?_; omega) | omega)))⟩
theorem IsValidRelation_any {A : Option Addr} {c : Nat} {d : Rd} {w : World} (hb : BRel d) (h : vRel w [.int .i64 d.1, .slice A d.2.length c] d) :
    Calls Try.prog 122 #[.agg #[.int .i64 d.1, .slice A d.2.length c]] w fun e w' => e = .returned (.bool (rowsB d.1 d.2)) ∧ ∃ y, w' = ext w y := by
  exact IsValidRelation_w (Nat.le_trans hb.2.1 (by omega)) hb.2.big (vII_get (vRel_get h).2).2
end Go.Proofs.Ytfigcfajkilhiaa
namespace Go.Proofs.Ytfigcfajkilhiaa
open Go.RowKit
theorem getDl {α : Type} (l : List α) (d : α) {i : Nat} (h : i < l.length) : l.getD i d = l[i] := by rw [List.getD_eq_getElem?_getD, List.getElem?_eq_getElem h]; rfl
theorem cmpI_neg (a b : Int) : cmpI a b = - cmpI b a := by unfold cmpI; split <;> split <;> (try split) <;> omega
theorem cmpL_neg : ∀ (xs ys : List Int), cmpL xs ys = - cmpL ys xs
  | [], [] => by simp [cmpL]
  | [], _ :: _ => by simp [cmpL]
  | _ :: _, [] => by simp [cmpL]
  | x :: xs, y :: ys => by
    rw [cmpL, cmpL]
    by_cases h : x = y
    · subst h; rw [if_pos rfl, if_pos rfl]; exact cmpL_neg xs ys
    · rw [if_neg h, if_neg (fun e => h e.symm)]; exact cmpI_neg x y
theorem cmpL_trans : ∀ {xs ys zs : List Int}, cmpL xs ys < 0 → cmpL ys zs < 0 → cmpL xs zs < 0
  | [], [], _, h, _ => by simp [cmpL] at h
  | _ :: _, [], _, h, _ => by simp [cmpL] at h
  | _, _ :: _, [], _, h => by simp [cmpL] at h
  | [], _ :: _, _ :: _, _, _ => by simp [cmpL]
  | x :: xs, y :: ys, z :: zs, h, k => by
    rw [cmpL] at h k ⊢
    by_cases e : x = y
    · subst e
      rw [if_pos rfl] at h
      by_cases e2 : x = z
      · subst e2; rw [if_pos rfl] at k ⊢; exact cmpL_trans h k
      · rw [if_neg e2] at k ⊢; exact k
    · rw [if_neg e] at h
      by_cases e2 : y = z
      · subst e2; rw [if_neg e]; exact h
      · rw [if_neg e2] at k
        unfold cmpI at h k
        by_cases e3 : x = z
        · subst e3
          exfalso
          split at h <;> (try split at h) <;> split at k <;> (try split at k) <;> omega
        · rw [if_neg e3]; unfold cmpI
          split at h <;> (try split at h) <;> split at k <;> (try split at k) <;> (try omega)
theorem cmpL_self (x : List Int) : cmpL x x = 0 := cmpL_zero.2 rfl
theorem cmpL_pos {x y : List Int} (h : 0 < cmpL x y) : cmpL y x < 0 := by rw [cmpL_neg]; omega
def AscR (l : List (List Int)) : Prop := l.Pairwise fun x y => cmpL x y < 0
theorem ascR_nil : AscR [] := List.Pairwise.nil
theorem ascR_ext : ∀ {a b : List (List Int)}, AscR a → AscR b → (∀ x, x ∈ a ↔ x ∈ b) → a = b
  | [], [], _, _, _ => rfl
  | [], y :: b, _, _, h => absurd ((h y).2 (by simp)) (by simp)
  | x :: a, [], _, _, h => absurd ((h x).1 (by simp)) (by simp)
  | x :: a, y :: b, ha, hb, h => by
    unfold AscR at ha hb
    rw [List.pairwise_cons] at ha hb
    have e : x = y := by
      rcases List.mem_cons.1 ((h x).1 (by simp)) with e | e
      · exact e
      · rcases List.mem_cons.1 ((h y).2 (by simp)) with k | k
        · exact k.symm
        · have h1 := hb.1 x e
          have h2 := ha.1 y k
          rw [cmpL_neg] at h1
          omega
    subst e
    rw [ascR_ext ha.2 hb.2 fun z => ?_]
    constructor
    · intro hz
      rcases List.mem_cons.1 ((h z).1 (by simp [hz])) with k | k
      · subst k; have := ha.1 z hz; rw [cmpL_self] at this; omega
      · exact k
    · intro hz
      rcases List.mem_cons.1 ((h z).2 (by simp [hz])) with k | k
      · subst k; have := hb.1 z hz; rw [cmpL_self] at this; omega
      · exact k
theorem ascR_nodup {a : List (List Int)} (h : AscR a) : a.Nodup := List.Pairwise.imp (fun {x y} h => by
  rintro rfl
  rw [cmpL_self] at h
  omega) h
theorem ascR_filter {a : List (List Int)} (p : List Int → Bool) (h : AscR a) : AscR (a.filter p) := List.Pairwise.filter p h
def insRow (x : List Int) : List (List Int) → List (List Int)
  | [] => [x]
  | y :: l => if cmpL x y < 0 then x :: y :: l else if cmpL x y = 0 then y :: l else y :: insRow x l
def sortR (l : List (List Int)) : List (List Int) := l.foldr insRow []
theorem mem_insRow {x z : List Int} : ∀ {l : List (List Int)}, z ∈ insRow x l ↔ z = x ∨ z ∈ l
  | [] => by simp [insRow]
  | y :: l => by
    rw [insRow]
    split
    · simp
    · split
      · rename_i h
        rw [cmpL_zero] at h
        subst h
        simp
      · rw [List.mem_cons, mem_insRow, List.mem_cons]
        constructor
        · rintro (h | h | h)
          · exact .inr (.inl h)
          · exact .inl h
          · exact .inr (.inr h)
        · rintro (h | h | h)
          · exact .inr (.inl h)
          · exact .inl h
          · exact .inr (.inr h)
theorem asc_insRow {x : List Int} : ∀ {l : List (List Int)}, AscR l → AscR (insRow x l)
  | [], _ => by simp [insRow, AscR]
  | y :: l, h => by
    unfold AscR at h
    rw [List.pairwise_cons] at h
    rw [insRow]
    split
    · rename_i h1
      refine List.pairwise_cons.2 ⟨fun z hz => ?_, List.pairwise_cons.2 h⟩
      rcases List.mem_cons.1 hz with e | e
      · subst e; exact h1
      · exact cmpL_trans h1 (h.1 z e)
    · rename_i h1
      split
      · exact List.pairwise_cons.2 h
      · rename_i h2
        refine List.pairwise_cons.2 ⟨fun z hz => ?_, asc_insRow h.2⟩
        rcases mem_insRow.1 hz with e | e
        · subst e
          rw [cmpL_neg]
          have := cmpL_bd z y
          omega
        · exact h.1 z e
theorem mem_sortR {z : List Int} : ∀ {l : List (List Int)}, z ∈ sortR l ↔ z ∈ l
  | [] => by simp [sortR]
  | y :: l => by
    have := mem_sortR (z := z) (l := l)
    unfold sortR at this ⊢
    rw [List.foldr_cons, mem_insRow, List.mem_cons, this]
theorem asc_sortR : ∀ (l : List (List Int)), AscR (sortR l)
  | [] => ascR_nil
  | y :: l => by
    have := asc_sortR l
    unfold sortR at this ⊢
    rw [List.foldr_cons]
    exact asc_insRow this
theorem sortR_eq {a l : List (List Int)} (h : AscR a) (hm : ∀ x, x ∈ a ↔ x ∈ l) : a = sortR l := ascR_ext h (asc_sortR l) fun x => by rw [hm, mem_sortR]
theorem insRow_length {x : List Int} : ∀ {l : List (List Int)}, (insRow x l).length ≤ l.length + 1
  | [] => by simp [insRow]
  | y :: l => by
    rw [insRow]
    split
    · simp
    · split
      · simp
      · have := insRow_length (x := x) (l := l)
        simp
        omega
theorem sortR_length : ∀ (l : List (List Int)), (sortR l).length ≤ l.length
  | [] => by simp [sortR]
  | y :: l => by
    have := sortR_length l
    unfold sortR at this ⊢
    rw [List.foldr_cons]
    have := insRow_length (x := y) (l := l.foldr insRow [])
    simp
    omega
theorem sortR_small {l : List (List Int)} (h : l.length < 2) : sortR l = l := by
  match l, h with
  | [], _ => rfl
  | [x], _ => rfl
structure MI (rows out a b : List (List Int)) : Prop where
  o : AscR out
  sa : AscR a
  sb : AscR b
  la : ∀ x ∈ out, ∀ y ∈ a, cmpL x y ≤ 0
  lb : ∀ x ∈ out, ∀ y ∈ b, cmpL x y ≤ 0
  m : ∀ x, x ∈ rows ↔ x ∈ out ∨ x ∈ a ∨ x ∈ b
structure MS (rows out a b : List (List Int)) : Prop where
  o : AscR out
  sa : AscR a
  sb : AscR b
  la : ∀ x ∈ out, ∀ y ∈ a, cmpL x y < 0
  lb : ∀ x ∈ out, ∀ y ∈ b, cmpL x y < 0
  m : ∀ x, x ∈ rows ↔ x ∈ out ∨ x ∈ a ∨ x ∈ b
theorem MI.start {rows a b : List (List Int)} (ha : a = sortR (rows.take (rows.length / 2))) (hb : b = sortR (rows.drop (rows.length / 2))) : MI rows [] a b :=
  ⟨ascR_nil, ha ▸ asc_sortR _, hb ▸ asc_sortR _, by simp, by simp, fun x => by
    rw [ha, hb, mem_sortR, mem_sortR, ← List.mem_append.trans Iff.rfl, List.take_append_drop]
    simp⟩
theorem MS.start {rows a b : List (List Int)} (ha : a = sortR (rows.take (rows.length / 2))) (hb : b = sortR (rows.drop (rows.length / 2))) : MS rows [] a b :=
  have h := MI.start ha hb
  ⟨h.o, h.sa, h.sb, by simp, by simp, h.m⟩
theorem MI.done {rows out : List (List Int)} (h : MI rows out [] []) : out = sortR rows := sortR_eq h.o fun x => by simpa using (h.m x).symm
theorem MS.done {rows out : List (List Int)} (h : MS rows out [] []) : out = sortR rows := sortR_eq h.o fun x => by simpa using (h.m x).symm
theorem asc_snoc {out : List (List Int)} {x : List Int} (h : AscR out) (hx : ∀ y ∈ out, cmpL y x < 0) : AscR (out ++ [x]) :=
  List.pairwise_append.2 ⟨h, List.pairwise_singleton _ _, fun y hy z hz => by rw [List.mem_singleton.1 hz]; exact hx y hy⟩
theorem AscR.tail {x : List Int} {l : List (List Int)} (h : AscR (x :: l)) : AscR l := (List.pairwise_cons.1 h).2
theorem AscR.head {x : List Int} {l : List (List Int)} (h : AscR (x :: l)) : ∀ y ∈ l, cmpL x y < 0 := (List.pairwise_cons.1 h).1
theorem MS.left {rows out a b : List (List Int)} {x : List Int} (h : MS rows out (x :: a) b) (hb : ∀ y ∈ b, cmpL x y < 0) : MS rows (out ++ [x]) a b where
  o := asc_snoc h.o fun y hy => h.la y hy x (by simp)
  sa := h.sa.tail
  sb := h.sb
  la := fun y hy z hz => by
    rcases List.mem_append.1 hy with k | k
    · exact h.la y k z (by simp [hz])
    · rw [List.mem_singleton.1 k]; exact h.sa.head z hz
  lb := fun y hy z hz => by
    rcases List.mem_append.1 hy with k | k
    · exact h.lb y k z hz
    · rw [List.mem_singleton.1 k]; exact hb z hz
  m := fun z => by rw [h.m]; simp only [List.mem_append, List.mem_cons, List.not_mem_nil, or_false]; grind
theorem MS.right {rows out a b : List (List Int)} {y : List Int} (h : MS rows out a (y :: b)) (ha : ∀ x ∈ a, cmpL y x < 0) : MS rows (out ++ [y]) a b where
  o := asc_snoc h.o fun z hz => h.lb z hz y (by simp)
  sa := h.sa
  sb := h.sb.tail
  la := fun u hu z hz => by
    rcases List.mem_append.1 hu with k | k
    · exact h.la u k z hz
    · rw [List.mem_singleton.1 k]; exact ha z hz
  lb := fun u hu z hz => by
    rcases List.mem_append.1 hu with k | k
    · exact h.lb u k z (by simp [hz])
    · rw [List.mem_singleton.1 k]; exact h.sb.head z hz
  m := fun z => by rw [h.m]; simp only [List.mem_append, List.mem_cons, List.not_mem_nil, or_false]; grind
theorem MS.both {rows out a b : List (List Int)} {x : List Int} (h : MS rows out (x :: a) (x :: b)) : MS rows (out ++ [x]) a b where
  o := asc_snoc h.o fun z hz => h.lb z hz x (by simp)
  sa := h.sa.tail
  sb := h.sb.tail
  la := fun u hu z hz => by
    rcases List.mem_append.1 hu with k | k
    · exact h.la u k z (by simp [hz])
    · rw [List.mem_singleton.1 k]; exact h.sa.head z hz
  lb := fun u hu z hz => by
    rcases List.mem_append.1 hu with k | k
    · exact h.lb u k z (by simp [hz])
    · rw [List.mem_singleton.1 k]; exact h.sb.head z hz
  m := fun z => by rw [h.m]; simp only [List.mem_append, List.mem_cons, List.not_mem_nil, or_false]; grind
theorem lt_tail {x y : List Int} {b : List (List Int)} (hb : AscR (y :: b)) (h : cmpL x y < 0) : ∀ z ∈ y :: b, cmpL x z < 0 := fun z hz => by
  rcases List.mem_cons.1 hz with k | k
  · rw [k]; exact h
  · exact cmpL_trans h (hb.head z k)
theorem le_tail {x y : List Int} {b : List (List Int)} (hb : AscR (y :: b)) (h : cmpL x y ≤ 0) : ∀ z ∈ y :: b, cmpL x z ≤ 0 := fun z hz => by
  rcases Int.lt_or_eq_of_le h with h1 | h1
  · exact Int.le_of_lt (lt_tail hb h1 z hz)
  · obtain rfl := cmpL_zero.1 h1
    rcases List.mem_cons.1 hz with k | k
    · rw [k]; exact h
    · exact Int.le_of_lt (hb.head z k)
theorem MI.left {rows out a b : List (List Int)} {x : List Int} (h : MI rows out (x :: a) b) (hb : ∀ y ∈ b, cmpL x y ≤ 0) (hl : ∀ z, out.getLast? = some z → cmpL z x ≠ 0) : MI rows (out ++ [x]) a b where
  o := asc_snoc h.o fun y hy => by
    have h1 := h.la y hy x (by simp)
    rcases Int.lt_or_eq_of_le h1 with h2 | h2
    · exact h2
    · exfalso
      obtain rfl := cmpL_zero.1 h2
      obtain ⟨z, hz⟩ : ∃ z, out.getLast? = some z := by
        cases hg : out.getLast? with
        | none => rw [List.getLast?_eq_none_iff] at hg; subst hg; simp at hy
        | some z => exact ⟨z, rfl⟩
      have hzm := List.mem_of_getLast? hz
      have h3 := hl z hz
      have h4 := h.la z hzm y (by simp)
      obtain ⟨ys, e⟩ := List.getLast?_eq_some_iff.1 hz
      subst e
      have ho := h.o
      unfold AscR at ho
      rw [List.pairwise_append] at ho
      rcases List.mem_append.1 hy with k | k
      · have h5 := ho.2.2 y k z (by simp)
        rw [cmpL_neg] at h5
        omega
      · rw [List.mem_singleton.1 k, cmpL_self] at h3
        exact h3 rfl
  sa := h.sa.tail
  sb := h.sb
  la := fun y hy z hz => by
    rcases List.mem_append.1 hy with k | k
    · exact h.la y k z (by simp [hz])
    · rw [List.mem_singleton.1 k]; exact Int.le_of_lt (h.sa.head z hz)
  lb := fun y hy z hz => by
    rcases List.mem_append.1 hy with k | k
    · exact h.lb y k z hz
    · rw [List.mem_singleton.1 k]; exact hb z hz
  m := fun z => by rw [h.m]; simp only [List.mem_append, List.mem_cons, List.not_mem_nil, or_false]; grind
theorem MI.swap {rows out a b : List (List Int)} (h : MI rows out a b) : MI rows out b a := ⟨h.o, h.sb, h.sa, h.lb, h.la, fun x => by rw [h.m]; constructor <;> (intro k; rcases k with k | k | k <;> simp [k])⟩
theorem MI.right {rows out a b : List (List Int)} {x : List Int} (h : MI rows out a (x :: b)) (ha : ∀ y ∈ a, cmpL x y ≤ 0) (hl : ∀ z, out.getLast? = some z → cmpL z x ≠ 0) : MI rows (out ++ [x]) a b := (h.swap.left ha hl).swap
theorem MI.skipL {rows out a b : List (List Int)} {x : List Int} (h : MI rows out (x :: a) b) (hx : x ∈ out) : MI rows out a b :=
  ⟨h.o, h.sa.tail, h.sb, fun y hy z hz => h.la y hy z (by simp [hz]), h.lb, fun z => by
    rw [h.m]; constructor
    · rintro (k | k | k)
      · exact .inl k
      · rcases List.mem_cons.1 k with k | k
        · subst k; exact .inl hx
        · exact .inr (.inl k)
      · exact .inr (.inr k)
    · rintro (k | k | k)
      · exact .inl k
      · exact .inr (.inl (by simp [k]))
      · exact .inr (.inr k)⟩
theorem MI.skipR {rows out a b : List (List Int)} {x : List Int} (h : MI rows out a (x :: b)) (hx : x ∈ out) : MI rows out a b := (h.swap.skipL hx).swap
theorem asc_get {rows : List (List Int)} (h : AscR rows) {i j : Nat} (hij : i < j) (hj : j < rows.length) : cmpL rows[i] rows[j] < 0 := List.pairwise_iff_getElem.1 h i j (by omega) hj hij
def rowsIn (a : Int) (rows : List (List Int)) : Bool := rows.all fun r => decide ((r.length : Int) = a) && rowV r
def newR (a : Int) (rows : List (List Int)) : Option Rd := if rowsIn a rows = true ∧ rowsB a (sortR rows) = true then some (a, sortR rows) else none
theorem allN_true {p : Nat → Bool} : ∀ {n k : Nat}, allN p n k = true ↔ ∀ i, k ≤ i → i < k + n → p i = true
  | 0, k => by simp [allN]; intro i h1 h2; omega
  | n + 1, k => by
    rw [allN, Bool.and_eq_true, allN_true]
    constructor
    · rintro ⟨h1, h2⟩ i h3 h4
      rcases Nat.lt_or_eq_of_le h3 with h5 | h5
      · exact h2 i (by omega) (by omega)
      · subst h5; exact h1
    · exact fun h => ⟨h k (Nat.le_refl _) (by omega), fun i h1 h2 => h i (by omega) (by omega)⟩
theorem rowsB_iff {a : Int} {rows : List (List Int)} : rowsB a rows = true ↔ 0 ≤ a ∧ a ≤ 5 ∧ rows.length ≤ 4000 ∧ (∀ r ∈ rows, (r.length : Int) = a ∧ rowV r = true) ∧ AscR rows := by
  unfold rowsB
  rw [Bool.and_eq_true, Bool.and_eq_true, allN_true]
  constructor
  · rintro ⟨⟨h1, h2⟩, h3⟩
    have := inB_t h1
    refine ⟨this.1, this.2, by simpa using h2, fun r hr => ?_, ?_⟩
    · obtain ⟨i, hi, rfl⟩ := List.getElem_of_mem hr
      have := h3 i (by omega) (by omega)
      unfold rowOk at this
      rw [getDl _ _ hi] at this
      simp only [Bool.and_eq_true, decide_eq_true_eq] at this
      exact this.1
    · unfold AscR
      -- neighbours ascend, so all do
      have hn : ∀ i (h : i + 1 < rows.length), cmpL rows[i] rows[i + 1] < 0 := fun i h => by
        have := h3 (i + 1) (by omega) (by omega)
        unfold rowOk at this
        rw [getDl _ _ h, show i + 1 - 1 = i by omega, getDl _ _ (show i < rows.length by omega)] at this
        simp only [Bool.and_eq_true, Bool.or_eq_true, decide_eq_true_eq] at this
        rcases this.2 with k | k
        · omega
        · exact k
      rw [List.pairwise_iff_getElem]
      intro i j hi hj hij
      obtain ⟨d, rfl⟩ : ∃ d, j = i + 1 + d := ⟨j - i - 1, by omega⟩
      induction d with
      | zero => exact hn i hj
      | succ d ih => exact cmpL_trans (ih (by omega) (by omega)) (hn (i + 1 + d) hj)
  · rintro ⟨h1, h2, h3, h4, h5⟩
    refine ⟨⟨by simp [inB, h1, h2], by simpa using h3⟩, fun i _ hi => ?_⟩
    rw [Nat.zero_add] at hi
    unfold rowOk
    rw [getDl _ _ hi]
    have h6 := h4 _ (List.getElem_mem hi)
    simp only [Bool.and_eq_true, decide_eq_true_eq, Bool.or_eq_true]
    refine ⟨⟨h6.1, h6.2⟩, ?_⟩
    rcases Nat.eq_zero_or_pos i with h7 | h7
    · exact .inl h7
    · right
      rw [getDl _ _ (show i - 1 < rows.length by omega)]
      exact asc_get h5 (by omega) hi
theorem rowsIn_iff {a : Int} {rows : List (List Int)} : rowsIn a rows = true ↔ ∀ r ∈ rows, (r.length : Int) = a ∧ rowV r = true := by
  unfold rowsIn
  simp
theorem newR_some {a : Int} {rows : List (List Int)} (h : rowsIn a rows = true) (h1 : 0 ≤ a) (h2 : a ≤ 5) (h3 : (sortR rows).length ≤ 4000) : newR a rows = some (a, sortR rows) := by
  unfold newR
  rw [if_pos ⟨h, rowsB_iff.2 ⟨h1, h2, h3, fun r hr => rowsIn_iff.1 h r (mem_sortR.1 hr), asc_sortR _⟩⟩]
theorem newR_valid {a : Int} {rows : List (List Int)} {d : Rd} (h : newR a rows = some d) : rowsB d.1 d.2 = true ∧ d = (a, sortR rows) := by
  unfold newR at h
  split at h
  · rename_i hh
    injection h with h
    subst h
    exact ⟨hh.2, rfl⟩
  · cases h
theorem newR_none {a : Int} {rows : List (List Int)} : newR a rows = none ↔ ¬ (rowsIn a rows = true ∧ rowsB a (sortR rows) = true) := by
  unfold newR
  split <;> simp_all
end Go.Proofs.Ytfigcfajkilhiaa
namespace Go.Proofs.Ytfigcfajkilhiaa
theorem tIIr : SlT Try.prog 33 48 1 24 (.slice none 0 0) := ⟨Try.underlying33, by kernel_rfl, rfl, by omega⟩
end Go.Proofs.Ytfigcfajkilhiaa
namespace Go.Proofs.Ytfigcfajkilhiaa
open Go.RowKit
section
variable {P : Program} {w : World}
theorem wp_appL {o : Oper} {a : Act} {K : Act → World → Prop} {Q : Exit → Act → World → Prop} (s x : Operand) (t : TypeId)
    (ho : o.op = .call { callee := .builtin .append, args := #[s, x], argTypes := #[t, t] })
    {α : Type} {E : SE α} [SMono E] [SPlain E] {V : VE α} {te size bytes : Nat} {z : Value} (hT : SlT P t te size bytes z) {v : Value} {ds es : List α} {F : List Nat} (hs : a.eval s = v) (hS : SV te size E w v ds F)
    {A : Option Addr} {c m : Nat} (hx : a.eval x = .slice A m c) (hm : m = es.length) (hc : A = none → c = 0) (hV : RV size V w A es) (hVE : ∀ c d, V w c d → E w c d []) (h1 : ∀ c d, V w c d → ∀ u ∈ c, u.oneCell' = true)
    (hlen : ds.length + m ≤ 2000000000) (hby : bytes ≤ 60000)
    (h : ∀ v' w' F', SV te size E w' v' (ds ++ es) F' → Chg F w w' → (∀ b ∈ F', b ∈ F ∨ w.heap.size ≤ b) → K (a.put o.dst v') w') : o.wp P a w K Q := by
  subst hm
  cases A with
  | none =>
    have e0 : es = [] := Classical.byContradiction fun hn => by
      obtain ⟨b, o, h, _⟩ := hV hn
      cases h
    subst e0
    obtain ⟨ht, hi, _, _⟩ := hT
    obtain ⟨i, hi, _, _, _⟩ := info_parts hi
    rw [hc rfl] at hx
    have hS' := hS
    obtain ⟨vs, F2, ho', _, _⟩ := hS'
    have hrun := run_append_owned_none (P := P) (w := w) 0 t o.type te i size ht hi v ds.length vs ho'
    unfold Oper.wp execOp
    simp only [ho, resolve, invoke, builtin, Sem.run_bind, Sem.run_pure, Result.andThen_ok, List.map_toArray, List.map_cons, List.map_nil, hs, hx, List.length_nil, hrun]
    exact h v w F (by simpa using hS) (Chg.refl F w) fun b hb => .inl hb
  | some ad =>
    have hN := hS.nodup
    have key : ∃ cs : List Value, (∀ j u, cs[j]? = some u → w.cell? (ad.add j) = some u) ∧ elems size E w cs es [] ∧ ∀ u ∈ cs, u.oneCell' = true := by
      by_cases hn : es = []
      · subst hn
        exact ⟨[], by simp, ⟨rfl, rfl⟩, by simp⟩
      · obtain ⟨b, o, e, _, h3⟩ := hV hn
        injection e with e
        subst e
        exact RV.cells hVE h1 es o h3
    obtain ⟨cs, k1, k2, k3⟩ := key
    refine wp_appS _ s x t ho hT hs hS hN hx k1 k3 rfl k2 (by simpa using hN) hlen hby ?_
    intro v' w' F' h2 h3 _ h5
    exact h v' w' F' h2 h3 fun b hb => by
      rcases h5 b hb with h | h | h
      · exact .inl h
      · simp at h
      · exact .inr h
theorem step_appL {ops : Array Oper} {o : Oper} {a : Act} {K : Act → World → Prop} {Q : Exit → Act → World → Prop} {X : Prop} (hgd : o.guard = none) (s x : Operand) (t : TypeId)
    (ho : o.op = .call { callee := .builtin .append, args := #[s, x], argTypes := #[t, t] })
    {α : Type} {E : SE α} [SMono E] [SPlain E] {V : VE α} {te size bytes : Nat} {z : Value} (hT : SlT P t te size bytes z) {v : Value} {ds es : List α} {F : List Nat} (hs : a.eval s = v) (hS : SV te size E w v ds F)
    {A : Option Addr} {c m : Nat} (hx : a.eval x = .slice A m c) (hm : m = es.length) (hc : A = none → c = 0) (hV : RV size V w A es) (hVE : ∀ c d, V w c d → E w c d []) (h1 : ∀ c d, V w c d → ∀ u ∈ c, u.oneCell' = true)
    (hlen : ds.length + m ≤ 2000000000) (hby : bytes ≤ 60000)
    (h : ∀ v' w' F', SV te size E w' v' (ds ++ es) F' → Chg F w w' → (∀ b ∈ F', b ∈ F ∨ w.heap.size ≤ b) → K (a.put o.dst v') w') :
    if Region.wanted o (yielded ops a.tmps) = true then Oper.wp P o a w K Q else X := by
  have hwt : Region.wanted o (yielded ops a.tmps) = true := by simp [Region.wanted, hgd]
  rw [if_pos hwt]
  exact wp_appL s x t ho hT hs hS hx hm hc hV hVE h1 hlen hby h
theorem vI_s {w : World} (c : List Value) (d : Int) (h : vI w c d) : sI w c d [] := ⟨h, rfl⟩
theorem vI_1 {w : World} (c : List Value) (d : Int) (h : vI w c d) : ∀ u ∈ c, u.oneCell' = true := by
  simp only [vI] at h
  subst h
  simp [Value.oneCell']
theorem RI.one {w : World} {B : Nat} {n : Int} (h : BoxAt w B #[.int .i64 n]) : RI w (some ⟨B, 0, none⟩) [n] := fun _ => ⟨B, 0, rfl, h.1, fun j hj => by
  have : j = 0 := by simpa using hj
  subst this
  refine ⟨[.int .i64 n], rfl, fun i hi => ?_, rfl⟩
  have : i = 0 := by simpa using hi
  subst this
  have := h.2.1 0
  simpa using this⟩
end
end Go.Proofs.Ytfigcfajkilhiaa
namespace Go.Proofs.Ytfigcfajkilhiaa
open Go.RowKit
section
variable {P : Program} {w : World}
theorem run_append_none_c (base : Nat) (t ty e : TypeId) (i : TypeInfo) (size c : Nat) (ht : P.underlying t = some (.slice e)) (hi : P.info? e = some i)
    (v : Value) (n : Nat) (xs : List Value) (hown : w.ownsRow base e size v n xs) : (Builtin.append_ #[t, t] ty #[v, .slice none 0 c]).run P w = .ok v w := by
  rcases hown.2 with ⟨rfl, rfl⟩ | ⟨g, cap, cur, rfl, _, _, hnc, _⟩
  · simp [Builtin.append_, run_underlying ht, sizeOf, typeInfo, hi, Builtin.lenOf, Builtin.firstCells]
  · simp [Builtin.append_, run_underlying ht, sizeOf, typeInfo, hi, Builtin.lenOf, Builtin.firstCells, hnc, storeCells]
theorem wp_appV {o : Oper} {a : Act} {K : Act → World → Prop} {Q : Exit → Act → World → Prop} (s x : Operand) (t : TypeId)
    (ho : o.op = .call { callee := .builtin .append, args := #[s, x], argTypes := #[t, t] })
    {α : Type} {E : SE α} [SMono E] [SPlain E] {V : VE α} {te size bytes : Nat} {z : Value} (hT : SlT P t te size bytes z) {v : Value} {ds es : List α} {F : List Nat} (hs : a.eval s = v) (hS : SV te size E w v ds F)
    {A : Option Addr} {c m : Nat} (hx : a.eval x = .slice A m c) (hm : m = es.length) (hV : RV size V w A es) (hVE : ∀ c d, V w c d → E w c d []) (h1 : ∀ c d, V w c d → ∀ u ∈ c, u.oneCell' = true)
    (hlen : ds.length + m ≤ 2000000000) (hby : bytes ≤ 60000)
    (h : ∀ v' w' F', SV te size E w' v' (ds ++ es) F' → Chg F w w' → (∀ b ∈ F', b ∈ F ∨ w.heap.size ≤ b) → K (a.put o.dst v') w') : o.wp P a w K Q := by
  cases A with
  | some ad => exact wp_appL s x t ho hT hs hS hx hm (fun h => by cases h) hV hVE h1 hlen hby h
  | none =>
    have e0 : es = [] := Classical.byContradiction fun hn => by
      obtain ⟨b, o, h, _⟩ := hV hn
      cases h
    subst e0
    subst hm
    obtain ⟨ht, hi, _, _⟩ := hT
    obtain ⟨i, hi, _, _, _⟩ := info_parts hi
    have hS' := hS
    obtain ⟨vs, F2, ho', _, _⟩ := hS'
    have hrun := run_append_none_c (P := P) (w := w) 0 t o.type te i size c ht hi v ds.length vs ho'
    unfold Oper.wp execOp
    simp only [ho, resolve, invoke, builtin, Sem.run_bind, Sem.run_pure, Result.andThen_ok, List.map_toArray, List.map_cons, List.map_nil, hs, hx, List.length_nil, hrun]
    exact h v w F (by simpa using hS) (Chg.refl F w) fun b hb => .inl hb
theorem step_appV {ops : Array Oper} {o : Oper} {a : Act} {K : Act → World → Prop} {Q : Exit → Act → World → Prop} {X : Prop} (hgd : o.guard = none) (s x : Operand) (t : TypeId)
    (ho : o.op = .call { callee := .builtin .append, args := #[s, x], argTypes := #[t, t] })
    {α : Type} {E : SE α} [SMono E] [SPlain E] {V : VE α} {te size bytes : Nat} {z : Value} (hT : SlT P t te size bytes z) {v : Value} {ds es : List α} {F : List Nat} (hs : a.eval s = v) (hS : SV te size E w v ds F)
    {A : Option Addr} {c m : Nat} (hx : a.eval x = .slice A m c) (hm : m = es.length) (hV : RV size V w A es) (hVE : ∀ c d, V w c d → E w c d []) (h1 : ∀ c d, V w c d → ∀ u ∈ c, u.oneCell' = true)
    (hlen : ds.length + m ≤ 2000000000) (hby : bytes ≤ 60000)
    (h : ∀ v' w' F', SV te size E w' v' (ds ++ es) F' → Chg F w w' → (∀ b ∈ F', b ∈ F ∨ w.heap.size ≤ b) → K (a.put o.dst v') w') :
    if Region.wanted o (yielded ops a.tmps) = true then Oper.wp P o a w K Q else X := by
  have hwt : Region.wanted o (yielded ops a.tmps) = true := by simp [Region.wanted, hgd]
  rw [if_pos hwt]
  exact wp_appV s x t ho hT hs hS hx hm hV hVE h1 hlen hby h
theorem wpList_appV {ops : Array Oper} {rest : List Oper} {o : Oper} {a : Act} {Q : Exit → Act → World → Prop} (hgd : o.guard = none) (s x : Operand) (t : TypeId)
    (ho : o.op = .call { callee := .builtin .append, args := #[s, x], argTypes := #[t, t] })
    {α : Type} {E : SE α} [SMono E] [SPlain E] {V : VE α} {te size bytes : Nat} {z : Value} (hT : SlT P t te size bytes z) {v : Value} {ds es : List α} {F : List Nat} (hs : a.eval s = v) (hS : SV te size E w v ds F)
    {A : Option Addr} {c m : Nat} (hx : a.eval x = .slice A m c) (hm : m = es.length) (hV : RV size V w A es) (hVE : ∀ c d, V w c d → E w c d []) (h1 : ∀ c d, V w c d → ∀ u ∈ c, u.oneCell' = true)
    (hlen : ds.length + m ≤ 2000000000) (hby : bytes ≤ 60000)
    (h : ∀ v' w' F', SV te size E w' v' (ds ++ es) F' → Chg F w w' → (∀ b ∈ F', b ∈ F ∨ w.heap.size ≤ b) → wpList P ops Q rest (a.put o.dst v') w') : wpList P ops Q (o :: rest) a w :=
  wpList_plain hgd fun _ hK => wp_appV s x t ho hT hs hS hx hm hV hVE h1 hlen hby fun v' w' F' h2 h3 h5 => hK _ _ (h v' w' F' h2 h3 h5)
end
def sOld {α : Type} (V : VE α) (W : World) : SE α := fun _ c d F => V W c d ∧ F = []
instance {α : Type} (V : VE α) (W : World) : SMono (sOld V W) := ⟨fun h b hb => by rw [h.2] at hb; simp at hb, fun h _ => h⟩
instance {α : Type} (V : VE α) (W : World) : SPlain (sOld V W) := ⟨fun h => h.2⟩
theorem sOld_v {α : Type} {V : VE α} [VMono V] {W w : World} (hx : ∃ y, w = ext W y) (c : List Value) (d : α) (F : List Nat) (h : sOld V W w c d F) : V w c d := by
  obtain ⟨y, rfl⟩ := hx
  exact VMono.ext h.1
theorem copyInts_v {A : Option Addr} {c : Nat} {xs : List Int} {w : World} (hx : xs.length ≤ 1000000000) (h1 : RI w A xs) :
    Calls Try.prog 114 #[.slice A xs.length c] w fun e w' => ∃ v F, e = .returned v ∧ (∃ y, w' = ext w y) ∧ SV 3 1 sI w' v xs F ∧ ∀ b ∈ F, w.heap.size ≤ b := by
  have hS0 := SV.empty (α := Int) (te := 3) (size := 1) (E := sI) w
  go_enter Try.func114, Try.ntmps114
  go_wp2_with (at_builtin; refine wpList_appV (E := sI) (V := vI) (es := xs) rfl _ _ _ rfl tI rfl hS0 rfl rfl (h1.toExt (by refine x'z ?_; repeat (with_reducible (first | exact x'a _ _ | exact x'b _ | exact x'c (by assumption) | refine x'd ?_ (by assumption) | refine x'e ?_ _ | refine x'f ?_ _ | refine x'g ?_ | refine x'h ?_ ?_ _ | refine x'i ?_ _ | refine x'j ?_ | refine x'k ?_ _ | refine x'l ?_ _ _ | refine x'm ?_ | assumption | (refine x'n ?_; omega) | omega)))) vI_s vI_1 (by simp; omega) (by omega) ?_; intro v' w' F' hS hC hF)
  go_ret
  exact ⟨_, F', rfl, hC.isExt (by refine x'z ?_; repeat (with_reducible (first | exact x'a _ _ | exact x'b _ | exact x'c (by assumption) | refine x'd ?_ (by assumption) | refine x'e ?_ _ | refine x'f ?_ _ | refine x'g ?_ | refine x'h ?_ ?_ _ | refine x'i ?_ _ | refine x'j ?_ | refine x'k ?_ _ | refine x'l ?_ _ _ | refine x'm ?_ | assumption | (refine x'n ?_; omega) | omega))) (by simp), by simpa using hS, fun b hb => by
    rcases hF b hb with h | h
    · simp at h; omega
    · simp at h; omega⟩
end Go.Proofs.Ytfigcfajkilhiaa
