/- Scaled weights: the common divisor restores them. No program in it. -/
import Derived.Test.YtbaheampmiecmaaScale
namespace Go.Proofs.Ytbaheampmiecmaa
open Go.RowKit

theorem lcmS_dvd {d : Int} {r : Int × Int} (h0 : 0 < d) (h2 : 1 ≤ r.2) : 0 < lcmS d r ∧ d ∣ lcmS d r ∧ r.2 ∣ lcmS d r := by
  have hg : 1 ≤ (Int.gcd d r.2 : Int) := gcd_pos' (by omega)
  obtain ⟨a, ha⟩ := Int.gcd_dvd_left d r.2
  obtain ⟨b, hb⟩ := Int.gcd_dvd_right d r.2
  unfold lcmS
  obtain ⟨g, hgg⟩ : ∃ g : Int, (Int.gcd d r.2 : Int) = g := ⟨_, rfl⟩
  rw [hgg] at ha hb hg ⊢
  have e : d.tdiv g = a := by rw [ha]; exact Int.mul_tdiv_cancel_left a (by omega)
  rw [e]
  have ha0 : 0 < a := by
    rcases Int.lt_or_le 0 a with h | h
    · exact h
    · have := Int.mul_le_mul_of_nonneg_left h (show 0 ≤ g by omega)
      rw [← ha] at this
      omega
  refine ⟨Int.mul_pos ha0 (by omega), ⟨b, ?_⟩, ⟨a, Int.mul_comm _ _⟩⟩
  rw [hb, ha, Int.mul_comm g a, Int.mul_assoc]
theorem scG_dvd : ∀ (xs : List (Int × Int)) (d D : Int), 0 < d → d ≤ 1000 → (∀ r ∈ xs, 1 ≤ r.2) → scG d xs = some D → 0 < D ∧ D ≤ 1000 ∧ d ∣ D ∧ ∀ r ∈ xs, r.2 ∣ D
  | [], d, D, h0, h1, _, h => by
    rw [scG] at h
    injection h with h
    subst h
    exact ⟨h0, h1, Int.dvd_refl _, by simp⟩
  | r :: rs, d, D, h0, h1, hr, h => by
    rw [scG] at h
    split at h
    · cases h
    · rename_i hle
      obtain ⟨p1, p2, p3⟩ := lcmS_dvd h0 (hr r (by simp))
      obtain ⟨q1, q2, q3, q4⟩ := scG_dvd rs _ D p1 (by omega) (fun x hx => hr x (by simp [hx])) h
      refine ⟨q1, q2, Int.dvd_trans p2 q3, fun x hx => ?_⟩
      rcases List.mem_cons.1 hx with e | e
      · rw [e]; exact Int.dvd_trans p3 q3
      · exact q4 x e
theorem newR_scale {r : Int × Int} {D : Int} (hr : okS r = true) (h0 : 0 < D) (h1 : D ≤ 1000) (hd : r.2 ∣ D) : newR (r.1 * D.tdiv r.2) D = some r := by
  obtain ⟨hv, a0, a1, b0, b1⟩ := okS_t hr
  have hg := (isVR_t hv).2.2.2.2
  obtain ⟨q, hq⟩ := hd
  have e1 : D.tdiv r.2 = q := by rw [hq]; exact Int.mul_tdiv_cancel_left q (by omega)
  have hq0 : 0 < q := by
    rcases Int.lt_or_le 0 q with h | h
    · exact h
    · have := Int.mul_le_mul_of_nonneg_left h (show 0 ≤ r.2 by omega)
      rw [← hq] at this
      omega
  have hq1 : q ≤ 1000 := by
    have := Int.mul_le_mul_of_nonneg_right b0 (show 0 ≤ q by omega)
    rw [← hq] at this
    omega
  rw [e1]
  have hn := mul_small a0 a1 (show 0 ≤ q by omega) hq1
  have eg : (Int.gcd (r.1 * q) D : Int) = q := by
    rw [hq, Int.gcd_mul_right]
    have : Int.gcd r.1 r.2 = 1 := hg
    rw [this]
    simp
    omega
  rw [newR_pos (by omega) (by unfold inB; rw [decide_eq_true_eq]; omega) (by unfold inB; rw [decide_eq_true_eq]; omega) (by omega), eg]
  have e2 : (r.1 * q).tdiv q = r.1 := Int.mul_tdiv_cancel _ (by omega)
  have e3 : D.tdiv q = r.2 := by rw [hq]; exact Int.mul_tdiv_cancel _ (by omega)
  rw [e2, e3, if_pos hv]
theorem scaleR_facts (xs : List (Int × Int)) : 0 ≤ (scaleR xs).2 ∧ (scaleR xs).2 ≤ 1000 ∧ (0 < (scaleR xs).2 → (scaleR xs).1.length = xs.length ∧ ∀ i (h : i < xs.length), newR ((scaleR xs).1.getD i 0) (scaleR xs).2 = some xs[i]) ∧ (¬ 0 < (scaleR xs).2 → (scaleR xs).1 = []) := by
  unfold scaleR
  by_cases h : xs.all okS = true
  · rw [if_pos h]
    have hk : ∀ r ∈ xs, okS r = true := fun r hr => List.all_eq_true.1 h r hr
    cases hs : scG 1 xs with
    | none => exact ⟨by simp, by simp, by simp, by simp⟩
    | some D =>
      obtain ⟨p1, p2, _, p4⟩ := scG_dvd xs 1 D (by omega) (by omega) (fun r hr => (okS_t (hk r hr)).2.2.2.1) hs
      refine ⟨by simp only; omega, p2, fun _ => ⟨by simp, fun i hi => ?_⟩, fun hn => absurd p1 hn⟩
      simp only
      rw [List.getD_eq_getElem?_getD, List.getElem?_map, List.getElem?_eq_getElem hi]
      exact newR_scale (hk _ (List.getElem_mem hi)) p1 p2 (p4 _ (List.getElem_mem hi))
  · rw [if_neg h]
    exact ⟨by simp, by simp, by simp, by simp⟩
theorem scaleR_bd (xs : List (Int × Int)) (i : Nat) : 0 ≤ (scaleR xs).1.getD i 0 ∧ (scaleR xs).1.getD i 0 ≤ 1000000000000 := by
  unfold scaleR
  by_cases h : xs.all okS = true
  · rw [if_pos h]
    have hk : ∀ r ∈ xs, okS r = true := fun r hr => List.all_eq_true.1 h r hr
    cases hs : scG 1 xs with
    | none => simp
    | some D =>
      obtain ⟨p1, p2, _, _⟩ := scG_dvd xs 1 D (by omega) (by omega) (fun r hr => (okS_t (hk r hr)).2.2.2.1) hs
      simp only
      rw [List.getD_eq_getElem?_getD, List.getElem?_map]
      by_cases hi : i < xs.length
      · rw [List.getElem?_eq_getElem hi]
        obtain ⟨_, a0, a1, b0, b1⟩ := okS_t (hk _ (List.getElem_mem hi))
        obtain ⟨t0, t1⟩ := tdiv_small (show 0 ≤ D by omega) p2 b0
        exact mul_small a0 a1 t0 t1
      · rw [List.getElem?_eq_none (by omega)]
        simp
  · rw [if_neg h]
    simp
end Go.Proofs.Ytbaheampmiecmaa
