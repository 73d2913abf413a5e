/- Contracts of functions that the statement reaches. -/
import Derived.Test.YtfigcfajkilhiaaGreatE04
import Derived.Test.YtfigcfajkilhiaaGreatE03
namespace Go.Proofs.YtfigcfajkilhiaaGreat
open Go.RowKit
theorem copyInts_n {A : Option Addr} {c m : Nat} {xs : List Int} {w : World} (hm : xs.length = m) (hx : m ≤ 1000000000) (hA : A = none → c = 0) (h1 : RI w A xs) :
    Calls Tryz.prog 81 #[.slice A m c] w fun e w' => ∃ v F, e = .returned v ∧ (∃ y, w' = ext w y) ∧ SV 3 1 sI w' v xs F ∧ ∀ b ∈ F, w.heap.size ≤ b := by
  subst hm
  have hS0 := SV.empty (α := Int) (te := 3) (size := 1) (E := sI) w
  have HA := Lib.hid hA
  clear hA
  go_enter Tryz.func81, Tryz.ntmps81
  go_wp2_with (at_builtin; refine wpList_appL (E := sI) (V := vI) (es := xs) rfl _ _ _ rfl tI rfl hS0 rfl HA.out (h1.toExt (by refine x'z ?_; repeat (with_reducible (first | exact x'a _ _ | exact x'b _ | exact x'c (by assumption) | refine x'd ?_ (by assumption) | refine x'e ?_ _ | refine x'f ?_ _ | refine x'g ?_ | refine x'h ?_ ?_ _ | refine x'i ?_ _ | refine x'j ?_ | refine x'k ?_ _ | refine x'l ?_ _ _ | refine x'm ?_ | assumption | (refine x'n ?_; omega) | omega)))) vI_s vI_1 (by simp; omega) (by omega) ?_; intro v' w' F' hS hC hF)
  go_ret
  exact ⟨_, F', rfl, hC.isExt (by refine x'z ?_; repeat (with_reducible (first | exact x'a _ _ | exact x'b _ | exact x'c (by assumption) | refine x'd ?_ (by assumption) | refine x'e ?_ _ | refine x'f ?_ _ | refine x'g ?_ | refine x'h ?_ ?_ _ | refine x'i ?_ _ | refine x'j ?_ | refine x'k ?_ _ | refine x'l ?_ _ _ | refine x'm ?_ | assumption | (refine x'n ?_; omega) | omega))) (by simp), by simpa using hS, fun b hb => by
    rcases hF b hb with h | h
    · simp at h; omega
    · simp at h; omega⟩
theorem RV.from {α : Type} {size : Nat} {E : VE α} {w : World} {A A' : Option Addr} {ds : List α} (h : RV size E w A ds) {q : Nat} (hA : ∀ b o, A = some ⟨b, o, none⟩ → q < ds.length → A' = some ⟨b, o + q * size, none⟩) : RV size E w A' (ds.drop q) := by
  by_cases hq : q ≤ ds.length
  · have := h.cut (lo := q) (hi := ds.length) hq (Nat.le_refl _) (A' := A') hA
    rwa [List.take_of_length_le (Nat.le_refl _)] at this
  · rw [List.drop_eq_nil_of_le (by omega)]
    exact RV.nil
theorem SV.place {α : Type} {te size : Nat} {E : SE α} {w : World} {A : Option Addr} {n c : Nat} {ds : List α} {F : List Nat} (h : SV te size E w (.slice A n c) ds F) : A = none ∧ c = 0 ∨ ∃ g, A = some ⟨g, 0, none⟩ := by
  obtain ⟨vs, F2, h1, _, _⟩ := h
  rcases h1.2 with ⟨h2, _⟩ | ⟨g, cap, cur, h2, _⟩
  · injection h2 with e1 e2 e3
    exact .inl ⟨e1, e3⟩
  · injection h2 with e1 e2 e3
    exact .inr ⟨g, e1⟩
theorem insS_put {n : Int} {l : List Int} {q : Nat} (hq : insK n l = q) (h : ∀ h : q < l.length, l[q] ≠ n) : insS n l = l.take q ++ [n] ++ l.drop q := by
  unfold insS
  rw [hq, if_neg]
  intro e
  by_cases hl : q < l.length
  · rw [List.drop_eq_getElem_cons hl, List.head?_cons] at e
    injection e with e
    exact h hl e
  · rw [List.drop_eq_nil_of_le (by omega)] at e
    simp at e
theorem insS_hit {n : Int} {l : List Int} {q : Nat} (hq : insK n l = q) (hl : q < l.length) (h : l[q] = n) : insS n l = l := by
  unfold insS
  rw [hq, if_pos]
  rw [List.drop_eq_getElem_cons hl, h]
  rfl
set_option maxRecDepth 100000 in
set_option maxHeartbeats 8000000 in
theorem unite_v {A A' : Option Addr} {c c' : Nat} {xs ys : List Int} {w : World} (hx : xs.length ≤ 100000000) (h1 : RI w A xs) (hy : ys.length ≤ 100000000) (h2 : RI w A' ys) :
    Calls Tryz.prog 82 #[.slice A xs.length c, .slice A' ys.length c'] w fun e w' => ∃ v F, e = .returned v ∧ (∃ y, w' = ext w y) ∧ SV 3 1 sI w' v (uniL xs ys) F ∧ ∀ b ∈ F, w.heap.size ≤ b := by
  go_enter Tryz.func82, Tryz.ntmps82
  go_wp2_with (go_at_call 81; refine (copyInts_v (by omega) h1).mono ?_; rintro e w1 ⟨v1, F1, rfl, hx1, hS1, hF1⟩)
  go_loopw [5, 13] (fun v i wr => ∃ (k : Nat) (F : List Nat), i = .int .i64 k ∧ k ≤ ys.length ∧ SV 3 1 sI wr v (uniL xs (ys.take k)) F ∧ (∀ b ∈ F, w.heap.size ≤ b) ∧ (∃ y, wr = ext w y)) (fun _ i _ => ys.length - (intOf i).toNat)
  case atStart => exact ⟨0, F1, rfl, by omega, by simpa [uniL] using hS1, hF1, hx1⟩
  case round =>
    obtain ⟨k, F, rfl, hk, hS, hF, hw⟩ := hrel
    have HF := Lib.hid hF
    have HF1 := Lib.hid hF1
    clear hF hF1 hS1
    by_cases hlt : k < ys.length
    · obtain ⟨b, o, rfl, hb, hc⟩ := (h2.toExt hw).atI hlt
      have hlen : (uniL xs (ys.take k)).length ≤ 200000000 := by
        have := uniL_length (ys.take k) xs
        simp at this
        omega
      have Hst := Lib.hid (uniL_step (a := xs) hlt)
      obtain ⟨ds, hds⟩ : ∃ ds, uniL xs (ys.take k) = ds := ⟨_, rfl⟩
      obtain ⟨n, hn⟩ : ∃ n, ys[k] = n := ⟨_, rfl⟩
      rw [hds] at hS hlen
      rw [hn] at hc
      have Hds : Hid (uniL xs (ys.take (k + 1)) = insS n ds) := Lib.hid (by rw [Hst.out, hds, hn])
      clear hds hn Hst
      obtain ⟨A1, c1, rfl, hc1, _, hV⟩ := hS.view sI_v
      have Hcap := Lib.hid (fun h : A1 = none => hS.cap0 h)
      have hSlt := Lib.hid hS.lt
      go_wp2
      go_loop [8] (fun j => ∃ q : Nat, j = .int .i64 q ∧ q ≤ ds.length ∧ q + insK n (ds.drop q) = insK n ds) (fun j => ds.length - (intOf j).toNat)
      case atStart => exact ⟨0, rfl, by omega, by simp⟩
      case round =>
        obtain ⟨q, rfl, hq, hj⟩ := hrel
        have Hj := Lib.hid hj
        clear hj
        have HQ := Lib.hid (show (ds.take q).length = q by simp; omega)
        have q0 : (0 : Int) ≤ (q : Int) := by omega
        have q1 : (q : Int) ≤ (ds.length : Int) := by omega
        have q2 : (q : Int) ≤ (c1 : Int) := by omega
        by_cases hql : q < ds.length
        · obtain ⟨b2, o2, rfl, hb2, hc2⟩ := hV.atI hql
          by_cases hlt2 : ds[q] < n
          · have e := Hj.out
            rw [insK_step hql hlt2] at e
            have He := Lib.hid e
            clear e
            go_wp2
            exact ⟨⟨q + 1, by go_num, by omega, He.out⟩, by simp [intOf]; omega⟩
          · have e := Hj.out
            rw [insK_hit hql hlt2] at e
            have He := Lib.hid e.symm
            clear e
            by_cases he : ds[q] = n
            · have hb3 : (ds[q] != n) = false := by simpa using he
              have HI := Lib.hid (insS_hit He.out hql he)
              clear he
              go_wp2
              exact ⟨⟨k + 1, F, by go_num, by omega, by rw [Hds.out, HI.out]; exact hS, HF.out, hw⟩, by simp [intOf]; omega⟩
            · have hb3 : (ds[q] != n) = true := by simpa using he
              have HI := Lib.hid (insS_put He.out fun _ => he)
              have hne : ¬ c1 = q := by omega
              have HD := Lib.hid (show ds.length - q = (ds.drop q).length by simp)
              clear he
              go_wp2
              go_region_held3 (fun _ => True) (trivial)
                (first
                  | (go_at_call 81; refine (copyInts_n HQ.out (by omega) Hcap.out ((hV.pre q).toExt (by refine x'z ?_; repeat (with_reducible (first | exact x'a _ _ | exact x'b _ | exact x'c (by assumption) | refine x'd ?_ (by assumption) | refine x'e ?_ _ | refine x'f ?_ _ | refine x'g ?_ | refine x'h ?_ ?_ _ | refine x'i ?_ _ | refine x'j ?_ | refine x'k ?_ _ | refine x'l ?_ _ _ | refine x'm ?_ | assumption | (refine x'n ?_; omega) | omega))))).mono ?_; rintro e w2 ⟨v2, F2, rfl, hx2, hS2, hF2⟩)
                  | (refine step_appL (E := sI) (V := vI) (es := [n]) (by rfl) _ _ _ (by rfl) tI (by rfl) (hS2.toExt (by refine x'z ?_; repeat (with_reducible (first | exact x'a _ _ | exact x'b _ | exact x'c (by assumption) | refine x'd ?_ (by assumption) | refine x'e ?_ _ | refine x'f ?_ _ | refine x'g ?_ | refine x'h ?_ ?_ _ | refine x'i ?_ _ | refine x'j ?_ | refine x'k ?_ _ | refine x'l ?_ _ _ | refine x'm ?_ | assumption | (refine x'n ?_; omega) | omega)))) (by rfl) (by rfl) (fun h => by cases h) (RI.one (by repeat (with_reducible (first | assumption | exact BoxAt.new _ _ _ | apply BoxAt.set2 | refine BoxAt.set2' ?_ (by omega) | apply BoxAt.setP0 | apply BoxAt.setP1 | refine BoxAt.setO ?_ (by omega) | refine BoxAt.alloc ?_ _ | refine BoxAt.drew ?_ | refine BoxAt.toExt ?_ (by assumption))))) vI_s vI_1 (by rw [HQ.out]; omega) (by omega) ?_; intro v3 w3 F3 hS3 hC3 hF3)
                  | (refine step_appL (E := sI) (V := vI) (es := ds.drop q) (by rfl) _ _ _ (by rfl) tI (by rfl) hS3 (by rfl) HD.out (fun h => by cases h) (SV.toView ((hS.toExt (by refine x'z ?_; repeat (with_reducible (first | exact x'a _ _ | exact x'b _ | exact x'c (by assumption) | refine x'd ?_ (by assumption) | refine x'e ?_ _ | refine x'f ?_ _ | refine x'g ?_ | refine x'h ?_ ?_ _ | refine x'i ?_ _ | refine x'j ?_ | refine x'k ?_ _ | refine x'l ?_ _ _ | refine x'm ?_ | assumption | (refine x'n ?_; omega) | omega)))).chg hC3 (fun b hb hb2 => by have l1 := hSlt.out b hb; have l2 := hF2 b hb2; have l3 := size_of_ext (w0 := wr) (w := wr) (refl_ext _); simp at l2; omega)) sI_v |>.from (fun b o e _ => by injection e with e; injection e with e1 e2; subst e1 e2; simp)) vI_s vI_1 (by simp; omega) (by omega) ?_; intro v4 w4 F4 hS4 hC4 hF4))
              all_goals
                go_wp2
                have n2 : ∀ b ∈ F2, wr.heap.size ≤ b := fun b hb => Nat.le_trans (size_of_ext (by refine x'z ?_; repeat (with_reducible (first | exact x'a _ _ | exact x'b _ | exact x'c (by assumption) | refine x'd ?_ (by assumption) | refine x'e ?_ _ | refine x'f ?_ _ | refine x'g ?_ | refine x'h ?_ ?_ _ | refine x'i ?_ _ | refine x'j ?_ | refine x'k ?_ _ | refine x'l ?_ _ _ | refine x'm ?_ | assumption | (refine x'n ?_; omega) | omega)))) (hF2 b hb)
                have n3 : ∀ b ∈ F3, wr.heap.size ≤ b := newer n2 (size_of_ext (by refine x'z ?_; repeat (with_reducible (first | exact x'a _ _ | exact x'b _ | exact x'c (by assumption) | refine x'd ?_ (by assumption) | refine x'e ?_ _ | refine x'f ?_ _ | refine x'g ?_ | refine x'h ?_ ?_ _ | refine x'i ?_ _ | refine x'j ?_ | refine x'k ?_ _ | refine x'l ?_ _ _ | refine x'm ?_ | assumption | (refine x'n ?_; omega) | omega)))) hF3
                have hx3 : ∃ y, w3 = ext wr y := hC3.isExt (by refine x'z ?_; repeat (with_reducible (first | exact x'a _ _ | exact x'b _ | exact x'c (by assumption) | refine x'd ?_ (by assumption) | refine x'e ?_ _ | refine x'f ?_ _ | refine x'g ?_ | refine x'h ?_ ?_ _ | refine x'i ?_ _ | refine x'j ?_ | refine x'k ?_ _ | refine x'l ?_ _ _ | refine x'm ?_ | assumption | (refine x'n ?_; omega) | omega))) n2
                have hx4 : ∃ y, w4 = ext wr y := hC4.isExt hx3 n3
                have n4 := newer n3 (size_of_ext hx3) hF4
                exact ⟨⟨k + 1, F4, by go_num, by omega, by rw [Hds.out, HI.out]; exact hS4, fun b hb => Nat.le_trans (size_of_ext hw) (n4 b hb), trans_ext hw hx4⟩, by simp [intOf]; omega⟩
        · obtain rfl : q = ds.length := by omega
          have e := Hj.out
          rw [insK_end hql] at e
          have He := Lib.hid e.symm
          have HI := Lib.hid (insS_put He.out fun h => absurd h hql)
          have HD := Lib.hid (show 0 = (ds.drop ds.length).length by simp)
          clear e
          by_cases hcq : c1 = ds.length
          · subst hcq
            go_wp2
            go_region_held3 (fun _ => True) (trivial)
              (first
                | (go_at_call 81; refine (copyInts_n HQ.out (by omega) Hcap.out ((hV.pre ds.length).toExt (by refine x'z ?_; repeat (with_reducible (first | exact x'a _ _ | exact x'b _ | exact x'c (by assumption) | refine x'd ?_ (by assumption) | refine x'e ?_ _ | refine x'f ?_ _ | refine x'g ?_ | refine x'h ?_ ?_ _ | refine x'i ?_ _ | refine x'j ?_ | refine x'k ?_ _ | refine x'l ?_ _ _ | refine x'm ?_ | assumption | (refine x'n ?_; omega) | omega))))).mono ?_; rintro e w2 ⟨v2, F2, rfl, hx2, hS2, hF2⟩)
                | (refine step_appL (E := sI) (V := vI) (es := [n]) (by rfl) _ _ _ (by rfl) tI (by rfl) (hS2.toExt (by refine x'z ?_; repeat (with_reducible (first | exact x'a _ _ | exact x'b _ | exact x'c (by assumption) | refine x'd ?_ (by assumption) | refine x'e ?_ _ | refine x'f ?_ _ | refine x'g ?_ | refine x'h ?_ ?_ _ | refine x'i ?_ _ | refine x'j ?_ | refine x'k ?_ _ | refine x'l ?_ _ _ | refine x'm ?_ | assumption | (refine x'n ?_; omega) | omega)))) (by rfl) (by rfl) (fun h => by cases h) (RI.one (by repeat (with_reducible (first | assumption | exact BoxAt.new _ _ _ | apply BoxAt.set2 | refine BoxAt.set2' ?_ (by omega) | apply BoxAt.setP0 | apply BoxAt.setP1 | refine BoxAt.setO ?_ (by omega) | refine BoxAt.alloc ?_ _ | refine BoxAt.drew ?_ | refine BoxAt.toExt ?_ (by assumption))))) vI_s vI_1 (by rw [HQ.out]; omega) (by omega) ?_; intro v3 w3 F3 hS3 hC3 hF3)
                | (refine step_appL (E := sI) (V := vI) (es := ds.drop ds.length) (by rfl) _ _ _ (by rfl) tI (by rfl) hS3 (by rfl) HD.out (fun h => by have := Hcap.out h; omega) (SV.toView ((hS.toExt (by refine x'z ?_; repeat (with_reducible (first | exact x'a _ _ | exact x'b _ | exact x'c (by assumption) | refine x'd ?_ (by assumption) | refine x'e ?_ _ | refine x'f ?_ _ | refine x'g ?_ | refine x'h ?_ ?_ _ | refine x'i ?_ _ | refine x'j ?_ | refine x'k ?_ _ | refine x'l ?_ _ _ | refine x'm ?_ | assumption | (refine x'n ?_; omega) | omega)))).chg hC3 (fun b hb hb2 => by have l1 := hSlt.out b hb; have l2 := hF2 b hb2; have l3 := size_of_ext (w0 := wr) (w := wr) (refl_ext _); simp at l2; omega)) sI_v |>.from (fun b o e h => absurd h (by omega))) vI_s vI_1 (by simp; omega) (by omega) ?_; intro v4 w4 F4 hS4 hC4 hF4))
            all_goals
              go_wp2
              have n2 : ∀ b ∈ F2, wr.heap.size ≤ b := fun b hb => Nat.le_trans (size_of_ext (by refine x'z ?_; repeat (with_reducible (first | exact x'a _ _ | exact x'b _ | exact x'c (by assumption) | refine x'd ?_ (by assumption) | refine x'e ?_ _ | refine x'f ?_ _ | refine x'g ?_ | refine x'h ?_ ?_ _ | refine x'i ?_ _ | refine x'j ?_ | refine x'k ?_ _ | refine x'l ?_ _ _ | refine x'm ?_ | assumption | (refine x'n ?_; omega) | omega)))) (hF2 b hb)
              have n3 : ∀ b ∈ F3, wr.heap.size ≤ b := newer n2 (size_of_ext (by refine x'z ?_; repeat (with_reducible (first | exact x'a _ _ | exact x'b _ | exact x'c (by assumption) | refine x'd ?_ (by assumption) | refine x'e ?_ _ | refine x'f ?_ _ | refine x'g ?_ | refine x'h ?_ ?_ _ | refine x'i ?_ _ | refine x'j ?_ | refine x'k ?_ _ | refine x'l ?_ _ _ | refine x'm ?_ | assumption | (refine x'n ?_; omega) | omega)))) hF3
              have hx3 : ∃ y, w3 = ext wr y := hC3.isExt (by refine x'z ?_; repeat (with_reducible (first | exact x'a _ _ | exact x'b _ | exact x'c (by assumption) | refine x'd ?_ (by assumption) | refine x'e ?_ _ | refine x'f ?_ _ | refine x'g ?_ | refine x'h ?_ ?_ _ | refine x'i ?_ _ | refine x'j ?_ | refine x'k ?_ _ | refine x'l ?_ _ _ | refine x'm ?_ | assumption | (refine x'n ?_; omega) | omega))) n2
              have hx4 : ∃ y, w4 = ext wr y := hC4.isExt hx3 n3
              have n4 := newer n3 (size_of_ext hx3) hF4
              exact ⟨⟨k + 1, F4, by go_num, by omega, by rw [Hds.out, HI.out]; exact hS4, fun b hb => Nat.le_trans (size_of_ext hw) (n4 b hb), trans_ext hw hx4⟩, by simp [intOf]; omega⟩
          · obtain ⟨g, rfl⟩ : ∃ g, A1 = some ⟨g, 0, none⟩ := by
              rcases hS.place with ⟨_, h⟩ | h
              · omega
              · exact h
            have hc3 : ¬ c1 - ds.length = 0 := by omega
            go_wp2
            go_region_held3 (fun _ => True) (trivial)
              (first
                | (go_at_call 81; refine (copyInts_n HQ.out (by omega) Hcap.out ((hV.pre ds.length).toExt (by refine x'z ?_; repeat (with_reducible (first | exact x'a _ _ | exact x'b _ | exact x'c (by assumption) | refine x'd ?_ (by assumption) | refine x'e ?_ _ | refine x'f ?_ _ | refine x'g ?_ | refine x'h ?_ ?_ _ | refine x'i ?_ _ | refine x'j ?_ | refine x'k ?_ _ | refine x'l ?_ _ _ | refine x'm ?_ | assumption | (refine x'n ?_; omega) | omega))))).mono ?_; rintro e w2 ⟨v2, F2, rfl, hx2, hS2, hF2⟩)
                | (refine step_appL (E := sI) (V := vI) (es := [n]) (by rfl) _ _ _ (by rfl) tI (by rfl) (hS2.toExt (by refine x'z ?_; repeat (with_reducible (first | exact x'a _ _ | exact x'b _ | exact x'c (by assumption) | refine x'd ?_ (by assumption) | refine x'e ?_ _ | refine x'f ?_ _ | refine x'g ?_ | refine x'h ?_ ?_ _ | refine x'i ?_ _ | refine x'j ?_ | refine x'k ?_ _ | refine x'l ?_ _ _ | refine x'm ?_ | assumption | (refine x'n ?_; omega) | omega)))) (by rfl) (by rfl) (fun h => by cases h) (RI.one (by repeat (with_reducible (first | assumption | exact BoxAt.new _ _ _ | apply BoxAt.set2 | refine BoxAt.set2' ?_ (by omega) | apply BoxAt.setP0 | apply BoxAt.setP1 | refine BoxAt.setO ?_ (by omega) | refine BoxAt.alloc ?_ _ | refine BoxAt.drew ?_ | refine BoxAt.toExt ?_ (by assumption))))) vI_s vI_1 (by rw [HQ.out]; omega) (by omega) ?_; intro v3 w3 F3 hS3 hC3 hF3)
                | (refine step_appL (E := sI) (V := vI) (es := ds.drop ds.length) (by rfl) _ _ _ (by rfl) tI (by rfl) hS3 (by rfl) HD.out (fun h => by cases h) (SV.toView ((hS.toExt (by refine x'z ?_; repeat (with_reducible (first | exact x'a _ _ | exact x'b _ | exact x'c (by assumption) | refine x'd ?_ (by assumption) | refine x'e ?_ _ | refine x'f ?_ _ | refine x'g ?_ | refine x'h ?_ ?_ _ | refine x'i ?_ _ | refine x'j ?_ | refine x'k ?_ _ | refine x'l ?_ _ _ | refine x'm ?_ | assumption | (refine x'n ?_; omega) | omega)))).chg hC3 (fun b hb hb2 => by have l1 := hSlt.out b hb; have l2 := hF2 b hb2; have l3 := size_of_ext (w0 := wr) (w := wr) (refl_ext _); simp at l2; omega)) sI_v |>.from (fun b o e h => absurd h (by omega))) vI_s vI_1 (by simp; omega) (by omega) ?_; intro v4 w4 F4 hS4 hC4 hF4))
            all_goals
              go_wp2
              have n2 : ∀ b ∈ F2, wr.heap.size ≤ b := fun b hb => Nat.le_trans (size_of_ext (by refine x'z ?_; repeat (with_reducible (first | exact x'a _ _ | exact x'b _ | exact x'c (by assumption) | refine x'd ?_ (by assumption) | refine x'e ?_ _ | refine x'f ?_ _ | refine x'g ?_ | refine x'h ?_ ?_ _ | refine x'i ?_ _ | refine x'j ?_ | refine x'k ?_ _ | refine x'l ?_ _ _ | refine x'm ?_ | assumption | (refine x'n ?_; omega) | omega)))) (hF2 b hb)
              have n3 : ∀ b ∈ F3, wr.heap.size ≤ b := newer n2 (size_of_ext (by refine x'z ?_; repeat (with_reducible (first | exact x'a _ _ | exact x'b _ | exact x'c (by assumption) | refine x'd ?_ (by assumption) | refine x'e ?_ _ | refine x'f ?_ _ | refine x'g ?_ | refine x'h ?_ ?_ _ | refine x'i ?_ _ | refine x'j ?_ | refine x'k ?_ _ | refine x'l ?_ _ _ | refine x'm ?_ | assumption | (refine x'n ?_; omega) | omega)))) hF3
              have hx3 : ∃ y, w3 = ext wr y := hC3.isExt (by refine x'z ?_; repeat (with_reducible (first | exact x'a _ _ | exact x'b _ | exact x'c (by assumption) | refine x'd ?_ (by assumption) | refine x'e ?_ _ | refine x'f ?_ _ | refine x'g ?_ | refine x'h ?_ ?_ _ | refine x'i ?_ _ | refine x'j ?_ | refine x'k ?_ _ | refine x'l ?_ _ _ | refine x'm ?_ | assumption | (refine x'n ?_; omega) | omega))) n2
              have hx4 : ∃ y, w4 = ext wr y := hC4.isExt hx3 n3
              have n4 := newer n3 (size_of_ext hx3) hF4
              exact ⟨⟨k + 1, F4, by go_num, by omega, by rw [Hds.out, HI.out]; exact hS4, fun b hb => Nat.le_trans (size_of_ext hw) (n4 b hb), trans_ext hw hx4⟩, by simp [intOf]; omega⟩
    · rw [show ys.take k = ys from List.take_of_length_le (by omega)] at hS
      go_wp2
      go_ret
      exact ⟨_, F, rfl, hw, hS, HF.out⟩
end Go.Proofs.YtfigcfajkilhiaaGreat
