/- Contracts of functions that the statement reaches. -/
import Derived.RegionTactic
import Derived.Test.YtbjpkfgkmilkdaaL01
namespace Go.Proofs.Ytbjpkfgkmilkdaa
open Go.RowKit
def isVR (r : Int × Int) : Bool := inB r.2 1 1000000000 && (inB r.1 (-1000000000) 1000000000 && decide (Int.gcd r.1 r.2 = 1))
theorem isVR_t {r : Int × Int} (h : isVR r = true) : 1 ≤ r.2 ∧ r.2 ≤ 1000000000 ∧ -1000000000 ≤ r.1 ∧ r.1 ≤ 1000000000 ∧ Int.gcd r.1 r.2 = 1 := by
  simp only [isVR, inB, Bool.and_eq_true, decide_eq_true_eq] at h
  exact ⟨h.1.1, h.1.2, h.2.1.1, h.2.1.2, h.2.2⟩
theorem gcd_step {a b : Int} (ha : 0 ≤ a) (hb : 0 < b) : Int.gcd b (a % b) = Int.gcd a b := by
  obtain ⟨m, rfl⟩ := Int.eq_ofNat_of_zero_le ha
  obtain ⟨n, rfl⟩ := Int.eq_ofNat_of_zero_le (Int.le_of_lt hb)
  rw [← Int.natCast_emod]
  show Nat.gcd n (m % n) = Nat.gcd m n
  rw [Nat.gcd_comm n, ← Nat.gcd_rec, Nat.gcd_comm]
theorem gcd_zero {a : Int} (ha : 0 ≤ a) : (Int.gcd a 0 : Int) = a := by
  rw [Int.gcd_zero_right, Int.natAbs_of_nonneg ha]
theorem l2Gcd_any {a b : Int} {w : World} (ha : 0 ≤ a) (ha2 : a ≤ 4000000000000000000) (hb : 0 ≤ b) (hb2 : b ≤ 4000000000000000000) :
    Calls Try.prog 87 #[.int .i64 a, .int .i64 b] w fun e w' => e = .returned (.int .i64 (Int.gcd a b)) ∧ w = w' := by
  go_enter Try.func87, Try.ntmps87
  go_wp2
  go_loop [0, 1] (fun x y => ∃ c d : Int, x = .int .i64 c ∧ y = .int .i64 d ∧ 0 ≤ c ∧ c ≤ 4000000000000000000 ∧ 0 ≤ d ∧ d ≤ 4000000000000000000 ∧ Int.gcd c d = Int.gcd a b) (fun _ y => (intOf y).toNat)
  case atStart => exact ⟨a, b, rfl, rfl, ha, ha2, hb, hb2, rfl⟩
  case round =>
    obtain ⟨c, d, rfl, rfl, hc, hc2, hd, hd2, hg⟩ := hrel
    have Hg := Lib.hid hg
    clear hg
    by_cases h0 : d = 0
    · subst h0
      go_wp2
      go_ret
      exact ⟨by rw [← Hg.out, gcd_zero hc]; rfl, rfl⟩
    · have h1 : 0 < d := by omega
      have h2 : (d != 0) = true := by simp [h0]
      clear h0
      go_wp2
      have h3 := Int.emod_lt_of_pos c h1
      have h4 := Int.emod_nonneg c (by omega : d ≠ 0)
      exact ⟨⟨d, c % d, rfl, rfl, hd, hd2, h4, by omega, by rw [gcd_step hc h1]; exact Hg.out⟩, by simp [intOf]; omega⟩
theorem gcd_any {a b : Int} {w : World} (ha : 0 ≤ a) (ha2 : a ≤ 4000000000000000000) (hb : 0 ≤ b) (hb2 : b ≤ 4000000000000000000) :
    Calls Try.prog 110 #[.int .i64 a, .int .i64 b] w fun e w' => e = .returned (.int .i64 (Int.gcd a b)) ∧ ∃ y, w' = ext w y := by
  go_enter Try.func110, Try.ntmps110
  go_wp2
  go_loopw [0, 1] (fun x y wr => ∃ c d : Int, x = .int .i64 c ∧ y = .int .i64 d ∧ 0 ≤ c ∧ c ≤ 4000000000000000000 ∧ 0 ≤ d ∧ d ≤ 4000000000000000000 ∧ Int.gcd c d = Int.gcd a b ∧ ∃ y, wr = ext w y) (fun _ y _ => (intOf y).toNat)
  case atStart => exact ⟨a, b, rfl, rfl, ha, ha2, hb, hb2, rfl, refl_ext w⟩
  case round =>
    obtain ⟨c, d, rfl, rfl, hc, hc2, hd, hd2, hg, y, rfl⟩ := hrel
    have Hg := Lib.hid hg
    clear hg
    by_cases h0 : d = 0
    · subst h0
      go_wp2
      go_ret
      exact ⟨by rw [← Hg.out, gcd_zero hc]; rfl, y, rfl⟩
    · have h1 : 0 < d := by omega
      have h2 : (d != 0) = true := by simp [h0]
      clear h0
      go_wp2
      refine wp_region_ext (by kernel_rfl) (by kernel_rfl) ?_
      repeat (go_big_quiet_step (fail))
      refine wpQuiet_nil ?_
      rintro _ ⟨z, rfl⟩
      go_wp2
      have h3 := Int.emod_lt_of_pos c h1
      have h4 := Int.emod_nonneg c (by omega : d ≠ 0)
      exact ⟨⟨d, c % d, rfl, rfl, hd, hd2, h4, by omega, by rw [gcd_step hc h1]; exact Hg.out, _, ext_ext⟩, by simp [intOf]; omega⟩
theorem abs_any {a : Int} {w : World} (h1 : -9223372036854775807 ≤ a) (h2 : a ≤ 9223372036854775807) :
    Calls Try.prog 111 #[.int .i64 a] w fun e w' => e = .returned (.int .i64 (a.natAbs)) ∧ w = w' := by
  go_enter Try.func111, Try.ntmps111
  go_wp2
  all_goals (go_ret; exact ⟨ret_int (by omega), rfl⟩)
theorem gcd_one {a b : Int} : (((Int.gcd a b : Nat) : Int) == 1) = decide (Int.gcd a b = 1) := by
  rw [Bool.eq_iff_iff]; simp; omega
theorem gcd_one_abs {a b : Int} : (((Int.gcd (a.natAbs : Int) b : Nat) : Int) == 1) = decide (Int.gcd a b = 1) := by
  rw [show Int.gcd (a.natAbs : Int) b = Int.gcd a b by simp [Int.gcd], Bool.eq_iff_iff]; simp; omega
theorem isVR_1 {a b : Int} (h1 : inB b 1 1000000000 = false) : isVR (a, b) = false := by simp [isVR, h1]
theorem isVR_2 {a b : Int} (h1 : inB b 1 1000000000 = true) (h2 : inB a (-1000000000) 1000000000 = false) : isVR (a, b) = false := by simp [isVR, h1, h2]
theorem isVR_3 {a b : Int} (h1 : inB b 1 1000000000 = true) (h2 : inB a (-1000000000) 1000000000 = true) : isVR (a, b) = decide (Int.gcd a b = 1) := by simp [isVR, h1, h2]
theorem specIsValidRational_any {a b : Int} {w : World} :
    Calls Try.prog 45 #[.agg #[.int .i64 a, .int .i64 b]] w fun e w' => e = .returned (.bool (isVR (a, b))) ∧ ∃ y, w' = ext w y := by
  by_cases h1 : inB b 1 1000000000 = true
  · by_cases h2 : inB a (-1000000000) 1000000000 = true
    · obtain ⟨p1, p2⟩ := inB_t h1
      obtain ⟨p3, p4⟩ := inB_t h2
      rw [isVR_3 h1 h2]
      go_enter Try.func45, Try.ntmps45
      go_wp2_with (first
        | (go_at_call 72; refine (l1In_any _ _ _ _).mono ?_; rintro e w' ⟨rfl, rfl⟩)
        | (go_at_call 87; refine (l2Gcd_any (by omega) (by omega) (by omega) (by omega)).mono ?_; rintro e w' ⟨rfl, rfl⟩))
      all_goals
        go_ret
        exact ⟨ret_bool gcd_one, (by refine x'z ?_; repeat (with_reducible (first | exact x'a _ _ | exact x'b _ | exact x'c (by assumption) | refine x'd ?_ (by assumption) | refine x'e ?_ _ | refine x'f ?_ _ | refine x'g ?_ | refine x'h ?_ ?_ _ | refine x'i ?_ _ | refine x'j ?_ | refine x'k ?_ _ | refine x'l ?_ _ _ | refine x'm ?_ | assumption | (refine x'n ?_; omega) | omega)))⟩
    · have h2 : inB a (-1000000000) 1000000000 = false := by simpa using h2
      rw [isVR_2 h1 h2]
      go_enter Try.func45, Try.ntmps45
      go_wp2_with (go_at_call 72; refine (l1In_any _ _ _ _).mono ?_; rintro e w' ⟨rfl, rfl⟩)
      go_ret
      exact ⟨rfl, (by refine x'z ?_; repeat (with_reducible (first | exact x'a _ _ | exact x'b _ | exact x'c (by assumption) | refine x'd ?_ (by assumption) | refine x'e ?_ _ | refine x'f ?_ _ | refine x'g ?_ | refine x'h ?_ ?_ _ | refine x'i ?_ _ | refine x'j ?_ | refine x'k ?_ _ | refine x'l ?_ _ _ | refine x'm ?_ | assumption | (refine x'n ?_; omega) | omega)))⟩
  · have h1 : inB b 1 1000000000 = false := by simpa using h1
    rw [isVR_1 h1]
    go_enter Try.func45, Try.ntmps45
    go_wp2_with (go_at_call 72; refine (l1In_any _ _ _ _).mono ?_; rintro e w' ⟨rfl, rfl⟩)
    go_ret
    exact ⟨rfl, (by refine x'z ?_; repeat (with_reducible (first | exact x'a _ _ | exact x'b _ | exact x'c (by assumption) | refine x'd ?_ (by assumption) | refine x'e ?_ _ | refine x'f ?_ _ | refine x'g ?_ | refine x'h ?_ ?_ _ | refine x'i ?_ _ | refine x'j ?_ | refine x'k ?_ _ | refine x'l ?_ _ _ | refine x'm ?_ | assumption | (refine x'n ?_; omega) | omega)))⟩
theorem IsValidRational_any {a b : Int} {w : World} :
    Calls Try.prog 91 #[.agg #[.int .i64 a, .int .i64 b]] w fun e w' => e = .returned (.bool (isVR (a, b))) ∧ ∃ y, w' = ext w y := by
  by_cases h1 : inB b 1 1000000000 = true
  · by_cases h2 : inB a (-1000000000) 1000000000 = true
    · obtain ⟨p1, p2⟩ := inB_t h1
      obtain ⟨p3, p4⟩ := inB_t h2
      rw [isVR_3 h1 h2]
      go_enter Try.func91, Try.ntmps91
      go_wp2_with fail
      refine wp_region_ext (by kernel_rfl) (by kernel_rfl) ?_
      repeat (go_big_quiet_step ((first | (go_at_call 76; first | exact quietSb (within_any _ _ _ _) h1 | exact quietSb (within_any _ _ _ _) h2) | (go_at_call 111; exact quietS (abs_any (by omega) (by omega))) | (go_at_call 110; exact quietE (gcd_any (by omega) (by omega) (by omega) (by omega))))))
      refine wpQuiet_nil ?_
      rintro _ ⟨z, rfl⟩
      go_wp2
      go_ret
      exact ⟨ret_bool gcd_one_abs, (by refine x'z ?_; repeat (with_reducible (first | exact x'a _ _ | exact x'b _ | exact x'c (by assumption) | refine x'd ?_ (by assumption) | refine x'e ?_ _ | refine x'f ?_ _ | refine x'g ?_ | refine x'h ?_ ?_ _ | refine x'i ?_ _ | refine x'j ?_ | refine x'k ?_ _ | refine x'l ?_ _ _ | refine x'm ?_ | assumption | (refine x'n ?_; omega) | omega)))⟩
    · have h2 : inB a (-1000000000) 1000000000 = false := by simpa using h2
      rw [isVR_2 h1 h2]
      go_enter Try.func91, Try.ntmps91
      go_wp2_with fail
      refine wp_region_ext (by kernel_rfl) (by kernel_rfl) ?_
      repeat (go_big_quiet_step ((go_at_call 76; first | exact quietSb (within_any _ _ _ _) h1 | exact quietSb (within_any _ _ _ _) h2)))
      refine wpQuiet_nil ?_
      rintro _ ⟨z, rfl⟩
      go_wp2
      go_ret
      exact ⟨rfl, (by refine x'z ?_; repeat (with_reducible (first | exact x'a _ _ | exact x'b _ | exact x'c (by assumption) | refine x'd ?_ (by assumption) | refine x'e ?_ _ | refine x'f ?_ _ | refine x'g ?_ | refine x'h ?_ ?_ _ | refine x'i ?_ _ | refine x'j ?_ | refine x'k ?_ _ | refine x'l ?_ _ _ | refine x'm ?_ | assumption | (refine x'n ?_; omega) | omega)))⟩
  · have h1 : inB b 1 1000000000 = false := by simpa using h1
    rw [isVR_1 h1]
    go_enter Try.func91, Try.ntmps91
    go_wp2_with fail
    refine wp_region_ext (by kernel_rfl) (by kernel_rfl) ?_
    repeat (go_big_quiet_step ((go_at_call 76; exact quietSb (within_any _ _ _ _) h1)))
    refine wpQuiet_nil ?_
    rintro _ ⟨z, rfl⟩
    go_wp2
    go_ret
    exact ⟨rfl, (by refine x'z ?_; repeat (with_reducible (first | exact x'a _ _ | exact x'b _ | exact x'c (by assumption) | refine x'd ?_ (by assumption) | refine x'e ?_ _ | refine x'f ?_ _ | refine x'g ?_ | refine x'h ?_ ?_ _ | refine x'i ?_ _ | refine x'j ?_ | refine x'k ?_ _ | refine x'l ?_ _ _ | refine x'm ?_ | assumption | (refine x'n ?_; omega) | omega)))⟩
theorem bothValid_any {a b c d : Int} {w : World} :
    Calls Try.prog 94 #[.agg #[.int .i64 a, .int .i64 b], .agg #[.int .i64 c, .int .i64 d]] w fun e w' => e = .returned (.bool (isVR (a, b) && isVR (c, d))) ∧ ∃ y, w' = ext w y := by
  by_cases h1 : isVR (a, b) = true
  · rw [h1, Bool.true_and]
    go_enter Try.func94, Try.ntmps94
    go_wp2_with fail
    refine IsValidRational_any.mono ?_
    rintro e w1 ⟨rfl, y1, rfl⟩
    rw [h1]
    go_wp2_with fail
    refine IsValidRational_any.mono ?_
    rintro e w1 ⟨rfl, y2, rfl⟩
    go_wp2
    go_ret
    exact ⟨rfl, (by refine x'z ?_; repeat (with_reducible (first | exact x'a _ _ | exact x'b _ | exact x'c (by assumption) | refine x'd ?_ (by assumption) | refine x'e ?_ _ | refine x'f ?_ _ | refine x'g ?_ | refine x'h ?_ ?_ _ | refine x'i ?_ _ | refine x'j ?_ | refine x'k ?_ _ | refine x'l ?_ _ _ | refine x'm ?_ | assumption | (refine x'n ?_; omega) | omega)))⟩
  · have h1 : isVR (a, b) = false := by simpa using h1
    rw [h1, Bool.false_and]
    go_enter Try.func94, Try.ntmps94
    go_wp2_with (go_at_call 91; refine IsValidRational_any.mono ?_; rintro e w1 ⟨rfl, y1, rfl⟩; rw [h1])
    go_ret
    exact ⟨rfl, (by refine x'z ?_; repeat (with_reducible (first | exact x'a _ _ | exact x'b _ | exact x'c (by assumption) | refine x'd ?_ (by assumption) | refine x'e ?_ _ | refine x'f ?_ _ | refine x'g ?_ | refine x'h ?_ ?_ _ | refine x'i ?_ _ | refine x'j ?_ | refine x'k ?_ _ | refine x'l ?_ _ _ | refine x'm ?_ | assumption | (refine x'n ?_; omega) | omega)))⟩
def newR (n d : Int) : Option (Int × Int) :=
  if d = 0 ∨ inB n (-4000000000000000000) 4000000000000000000 = false ∨ inB d (-4000000000000000000) 4000000000000000000 = false then none
  else if d < 0 then (if isVR (-n.tdiv (Int.gcd n d), -d.tdiv (Int.gcd n d)) = true then some (-n.tdiv (Int.gcd n d), -d.tdiv (Int.gcd n d)) else none)
  else (if isVR (n.tdiv (Int.gcd n d), d.tdiv (Int.gcd n d)) = true then some (n.tdiv (Int.gcd n d), d.tdiv (Int.gcd n d)) else none)
theorem newR_neg {n d : Int} (h0 : ¬ d = 0) (hn : inB n (-4000000000000000000) 4000000000000000000 = true) (hd : inB d (-4000000000000000000) 4000000000000000000 = true) (hlt : d < 0) :
    newR n d = if isVR (-n.tdiv (Int.gcd n d), -d.tdiv (Int.gcd n d)) = true then some (-n.tdiv (Int.gcd n d), -d.tdiv (Int.gcd n d)) else none := by
  unfold newR; rw [if_neg (by simp [h0, hn, hd]), if_pos hlt]
theorem newR_pos {n d : Int} (h0 : ¬ d = 0) (hn : inB n (-4000000000000000000) 4000000000000000000 = true) (hd : inB d (-4000000000000000000) 4000000000000000000 = true) (hlt : ¬ d < 0) :
    newR n d = if isVR (n.tdiv (Int.gcd n d), d.tdiv (Int.gcd n d)) = true then some (n.tdiv (Int.gcd n d), d.tdiv (Int.gcd n d)) else none := by
  unfold newR; rw [if_neg (by simp [h0, hn, hd]), if_neg hlt]
theorem gcd_pos' {a b : Int} (hb : ¬ b = 0) : 1 ≤ (Int.gcd a b : Int) := by
  have : 0 < Int.gcd a b := Int.gcd_pos_of_ne_zero_right a hb
  omega
theorem gcd_le' {a b : Int} (hb : ¬ b = 0) : (Int.gcd a b : Int) ≤ b.natAbs := by
  have h := Int.le_of_dvd (a := (Int.gcd a b : Int)) (b := (b.natAbs : Int)) (by omega) (by rw [Int.dvd_natAbs]; exact Int.gcd_dvd_right a b)
  exact h
theorem gcd_abs {a b : Int} : ((Int.gcd (a.natAbs : Int) b : Nat) : Int) = (Int.gcd a b : Int) := by
  rw [show Int.gcd (a.natAbs : Int) b = Int.gcd a b by simp [Int.gcd]]
theorem gcd_absneg {a b : Int} : ((Int.gcd (a.natAbs : Int) (-b) : Nat) : Int) = (Int.gcd a b : Int) := by
  rw [show Int.gcd (a.natAbs : Int) (-b) = Int.gcd a b by simp [Int.gcd]]
theorem gcd_neg1 {a b : Int} : ((Int.gcd (-a) b : Nat) : Int) = (Int.gcd a b : Int) := by rw [Int.neg_gcd]
theorem gcd_neg2 {a b : Int} : ((Int.gcd a (-b) : Nat) : Int) = (Int.gcd a b : Int) := by rw [Int.gcd_neg]
theorem gcd_neg3 {a b : Int} : ((Int.gcd (-a) (-b) : Nat) : Int) = (Int.gcd a b : Int) := by rw [Int.neg_gcd, Int.gcd_neg]
theorem tdiv_bd {x g c : Int} (h1 : -c ≤ x) (h2 : x ≤ c) (hg : 1 ≤ g) : -c ≤ x.tdiv g ∧ x.tdiv g ≤ c := by
  have h : (x.tdiv g).natAbs ≤ x.natAbs := by rw [Int.natAbs_tdiv]; exact Nat.div_le_self _ _
  rcases Int.le_total 0 x with h3 | h3
  · have := Int.tdiv_nonneg (b := g) h3 (by omega)
    omega
  · have : -(-x).tdiv g ≤ 0 := by have := Int.tdiv_nonneg (a := -x) (b := g) (by omega) (by omega); omega
    rw [Int.neg_tdiv] at this
    omega
theorem tdiv_id {x g : Int} (hx : 0 ≤ x) : x / g = x.tdiv g := (Int.tdiv_eq_ediv_of_nonneg hx).symm
theorem box2 {w : World} {B : Nat} {u v : Value} (h : BoxAt w B #[u, v]) : BoxAt w B #[u, v] ∧ B < w.heap.size ∧ w.cell? ⟨B, 0, none⟩ = some u ∧ w.cell? ⟨B, 1, none⟩ = some v ∧ ∀ j, w.frozen? ⟨B, j, none⟩ = false := ⟨h, h.1, h.2.1 0, h.2.1 1, h.2.2⟩
set_option maxHeartbeats 1000000 in
theorem NewRational_any {n d : Int} {w : World} (hn1 : -9223372036854775808 ≤ n) (hn2 : n ≤ 9223372036854775807) (hd1 : -9223372036854775808 ≤ d) (hd2 : d ≤ 9223372036854775807) :
    Calls Try.prog 95 #[.int .i64 n, .int .i64 d] w fun e w' => e = .returned (.tuple #[.agg #[.int .i64 ((newR n d).getD (0, 0)).1, .int .i64 ((newR n d).getD (0, 0)).2], .bool (newR n d).isSome]) ∧ ∃ y, w' = ext w y := by
  by_cases h0 : d = 0
  · have H := Lib.hid (show newR n d = none by unfold newR; rw [if_pos (.inl h0)])
    rw [H.out]
    have h1 : (d == 0) = true := by simp [h0]
    clear h0 H
    go_enter Try.func95, Try.ntmps95
    go_wp2
    exact bodyPost_ret (v := .tuple #[.agg #[.int .i64 0, .int .i64 0], .bool false]) (by simp [results, Try.results95, go_sem]) rfl ⟨rfl, (by refine x'z ?_; repeat (with_reducible (first | exact x'a _ _ | exact x'b _ | exact x'c (by assumption) | refine x'd ?_ (by assumption) | refine x'e ?_ _ | refine x'f ?_ _ | refine x'g ?_ | refine x'h ?_ ?_ _ | refine x'i ?_ _ | refine x'j ?_ | refine x'k ?_ _ | refine x'l ?_ _ _ | refine x'm ?_ | assumption | (refine x'n ?_; omega) | omega)))⟩
  · have h1 : (d == 0) = false := by simp [h0]
    by_cases hn : inB n (-4000000000000000000) 4000000000000000000 = true
    · by_cases hd : inB d (-4000000000000000000) 4000000000000000000 = true
      · obtain ⟨p1, p2⟩ := inB_t hn
        obtain ⟨p3, p4⟩ := inB_t hd
        have g1 : 1 ≤ (Int.gcd n d : Int) := gcd_pos' h0
        have g2 : (Int.gcd n d : Int) ≤ 4000000000000000000 := Int.le_trans (gcd_le' h0) (by omega)
        have HN := fun hlt => Lib.hid (newR_neg h0 hn hd hlt)
        have HP := fun hlt => Lib.hid (newR_pos h0 hn hd hlt)
        clear h0
        generalize hg : (Int.gcd n d : Int) = g at *
        have Hg := Lib.hid hg
        clear hg
        obtain ⟨t1, t2⟩ := tdiv_bd p1 p2 g1
        obtain ⟨t3, t4⟩ := tdiv_bd p3 p4 g1
        by_cases hlt : d < 0
        · have HN := HN hlt
          clear HP
          by_cases hv : isVR (-n.tdiv g, -d.tdiv g) = true
          · have HV := Lib.hid (show newR n d = some (-n.tdiv g, -d.tdiv g) by rw [HN.out, if_pos hv])
            rw [HV.out]
            go_enter Try.func95, Try.ntmps95
            go_wp2_with (first | (go_at_call 76; refine (within_any _ _ _ _).mono ?_; rintro e w' ⟨rfl, rfl⟩) | (go_at_call 111; refine (abs_any (by omega) (by omega)).mono ?_; rintro e w' ⟨rfl, rfl⟩) | (go_at_call 110; refine (gcd_any (by omega) (by omega) (by omega) (by omega)).mono ?_; rintro e w1 ⟨rfl, hx1⟩; (first | rw [gcd_abs, Hg.out] | rw [gcd_absneg, Hg.out]); obtain ⟨B1, l1, b1, b1', f1⟩ := box2 (show BoxAt w1 w.heap.size #[.int .i64 0, .int .i64 0] from (by obtain ⟨y, e⟩ := hx1; rw [e]; refine ⟨?_, fun j => ?_, fun j => ?_⟩ <;> go_simp))))
            go_region
            go_wp2_with (go_at_call 91; refine IsValidRational_any.mono ?_; rintro e w2 ⟨rfl, hx2⟩; (try rw [tdiv_id (by omega : 0 ≤ d)]); rw [hv]; obtain ⟨B2, l2, b2, b2', f2⟩ := box2 (BoxAt.toExt B1 (trans_ext (by repeat (with_reducible (first | exact refl_ext _ | exact alloc_ext _ _ | exact drew_ext _ | assumption | refine trans_ext ?_ (drew_ext _) | refine trans_ext ?_ (alloc_ext _ _) | refine trans_ext ?_ (by assumption)))) hx2)); obtain ⟨B3, l3, b3, b3', f3⟩ := box2 (BoxAt.toExt (BoxAt.new w1 _ _).drew hx2))
            exact bodyPost_ret (v := .tuple #[.agg #[.int .i64 (-n.tdiv g), .int .i64 (-d.tdiv g)], .bool true]) (by simp [results, Try.results95, go_sem, b2, b2']) rfl ⟨rfl, (by refine x'z ?_; repeat (with_reducible (first | exact x'a _ _ | exact x'b _ | exact x'c (by assumption) | refine x'd ?_ (by assumption) | refine x'e ?_ _ | refine x'f ?_ _ | refine x'g ?_ | refine x'h ?_ ?_ _ | refine x'i ?_ _ | refine x'j ?_ | refine x'k ?_ _ | refine x'l ?_ _ _ | refine x'm ?_ | assumption | (refine x'n ?_; omega) | omega)))⟩
          · have hv : isVR (-n.tdiv g, -d.tdiv g) = false := by simpa using hv
            have HV := Lib.hid (show newR n d = none by rw [HN.out, if_neg (by simp [hv])])
            rw [HV.out]
            go_enter Try.func95, Try.ntmps95
            go_wp2_with (first | (go_at_call 76; refine (within_any _ _ _ _).mono ?_; rintro e w' ⟨rfl, rfl⟩) | (go_at_call 111; refine (abs_any (by omega) (by omega)).mono ?_; rintro e w' ⟨rfl, rfl⟩) | (go_at_call 110; refine (gcd_any (by omega) (by omega) (by omega) (by omega)).mono ?_; rintro e w1 ⟨rfl, hx1⟩; (first | rw [gcd_abs, Hg.out] | rw [gcd_absneg, Hg.out]); obtain ⟨B1, l1, b1, b1', f1⟩ := box2 (show BoxAt w1 w.heap.size #[.int .i64 0, .int .i64 0] from (by obtain ⟨y, e⟩ := hx1; rw [e]; refine ⟨?_, fun j => ?_, fun j => ?_⟩ <;> go_simp))))
            go_region
            go_wp2_with (go_at_call 91; refine IsValidRational_any.mono ?_; rintro e w2 ⟨rfl, hx2⟩; (try rw [tdiv_id (by omega : 0 ≤ d)]); rw [hv]; obtain ⟨B2, l2, b2, b2', f2⟩ := box2 (BoxAt.toExt B1 (trans_ext (by repeat (with_reducible (first | exact refl_ext _ | exact alloc_ext _ _ | exact drew_ext _ | assumption | refine trans_ext ?_ (drew_ext _) | refine trans_ext ?_ (alloc_ext _ _) | refine trans_ext ?_ (by assumption)))) hx2)); obtain ⟨B3, l3, b3, b3', f3⟩ := box2 (BoxAt.toExt (BoxAt.new w1 _ _).drew hx2))
            exact bodyPost_ret (v := .tuple #[.agg #[.int .i64 0, .int .i64 0], .bool false]) (by simp [results, Try.results95, go_sem, b2, b2']) rfl ⟨rfl, (by refine x'z ?_; repeat (with_reducible (first | exact x'a _ _ | exact x'b _ | exact x'c (by assumption) | refine x'd ?_ (by assumption) | refine x'e ?_ _ | refine x'f ?_ _ | refine x'g ?_ | refine x'h ?_ ?_ _ | refine x'i ?_ _ | refine x'j ?_ | refine x'k ?_ _ | refine x'l ?_ _ _ | refine x'm ?_ | assumption | (refine x'n ?_; omega) | omega)))⟩
        · have HP := HP hlt
          clear HN
          by_cases hv : isVR (n.tdiv g, d.tdiv g) = true
          · have HV := Lib.hid (show newR n d = some (n.tdiv g, d.tdiv g) by rw [HP.out, if_pos hv])
            rw [HV.out]
            go_enter Try.func95, Try.ntmps95
            go_wp2_with (first | (go_at_call 76; refine (within_any _ _ _ _).mono ?_; rintro e w' ⟨rfl, rfl⟩) | (go_at_call 111; refine (abs_any (by omega) (by omega)).mono ?_; rintro e w' ⟨rfl, rfl⟩) | (go_at_call 110; refine (gcd_any (by omega) (by omega) (by omega) (by omega)).mono ?_; rintro e w1 ⟨rfl, hx1⟩; (first | rw [gcd_abs, Hg.out] | rw [gcd_absneg, Hg.out]); obtain ⟨B1, l1, b1, b1', f1⟩ := box2 (show BoxAt w1 w.heap.size #[.int .i64 0, .int .i64 0] from (by obtain ⟨y, e⟩ := hx1; rw [e]; refine ⟨?_, fun j => ?_, fun j => ?_⟩ <;> go_simp))))
            go_region
            go_wp2_with (go_at_call 91; refine IsValidRational_any.mono ?_; rintro e w2 ⟨rfl, hx2⟩; (try rw [tdiv_id (by omega : 0 ≤ d)]); rw [hv]; obtain ⟨B2, l2, b2, b2', f2⟩ := box2 (BoxAt.toExt B1 (trans_ext (by repeat (with_reducible (first | exact refl_ext _ | exact alloc_ext _ _ | exact drew_ext _ | assumption | refine trans_ext ?_ (drew_ext _) | refine trans_ext ?_ (alloc_ext _ _) | refine trans_ext ?_ (by assumption)))) hx2)); obtain ⟨B3, l3, b3, b3', f3⟩ := box2 (BoxAt.toExt (BoxAt.new w1 _ _).drew hx2))
            exact bodyPost_ret (v := .tuple #[.agg #[.int .i64 (n.tdiv g), .int .i64 (d.tdiv g)], .bool true]) (by simp [results, Try.results95, go_sem, b2, b2']) rfl ⟨rfl, (by refine x'z ?_; repeat (with_reducible (first | exact x'a _ _ | exact x'b _ | exact x'c (by assumption) | refine x'd ?_ (by assumption) | refine x'e ?_ _ | refine x'f ?_ _ | refine x'g ?_ | refine x'h ?_ ?_ _ | refine x'i ?_ _ | refine x'j ?_ | refine x'k ?_ _ | refine x'l ?_ _ _ | refine x'm ?_ | assumption | (refine x'n ?_; omega) | omega)))⟩
          · have hv : isVR (n.tdiv g, d.tdiv g) = false := by simpa using hv
            have HV := Lib.hid (show newR n d = none by rw [HP.out, if_neg (by simp [hv])])
            rw [HV.out]
            go_enter Try.func95, Try.ntmps95
            go_wp2_with (first | (go_at_call 76; refine (within_any _ _ _ _).mono ?_; rintro e w' ⟨rfl, rfl⟩) | (go_at_call 111; refine (abs_any (by omega) (by omega)).mono ?_; rintro e w' ⟨rfl, rfl⟩) | (go_at_call 110; refine (gcd_any (by omega) (by omega) (by omega) (by omega)).mono ?_; rintro e w1 ⟨rfl, hx1⟩; (first | rw [gcd_abs, Hg.out] | rw [gcd_absneg, Hg.out]); obtain ⟨B1, l1, b1, b1', f1⟩ := box2 (show BoxAt w1 w.heap.size #[.int .i64 0, .int .i64 0] from (by obtain ⟨y, e⟩ := hx1; rw [e]; refine ⟨?_, fun j => ?_, fun j => ?_⟩ <;> go_simp))))
            go_region
            go_wp2_with (go_at_call 91; refine IsValidRational_any.mono ?_; rintro e w2 ⟨rfl, hx2⟩; (try rw [tdiv_id (by omega : 0 ≤ d)]); rw [hv]; obtain ⟨B2, l2, b2, b2', f2⟩ := box2 (BoxAt.toExt B1 (trans_ext (by repeat (with_reducible (first | exact refl_ext _ | exact alloc_ext _ _ | exact drew_ext _ | assumption | refine trans_ext ?_ (drew_ext _) | refine trans_ext ?_ (alloc_ext _ _) | refine trans_ext ?_ (by assumption)))) hx2)); obtain ⟨B3, l3, b3, b3', f3⟩ := box2 (BoxAt.toExt (BoxAt.new w1 _ _).drew hx2))
            exact bodyPost_ret (v := .tuple #[.agg #[.int .i64 0, .int .i64 0], .bool false]) (by simp [results, Try.results95, go_sem, b2, b2']) rfl ⟨rfl, (by refine x'z ?_; repeat (with_reducible (first | exact x'a _ _ | exact x'b _ | exact x'c (by assumption) | refine x'd ?_ (by assumption) | refine x'e ?_ _ | refine x'f ?_ _ | refine x'g ?_ | refine x'h ?_ ?_ _ | refine x'i ?_ _ | refine x'j ?_ | refine x'k ?_ _ | refine x'l ?_ _ _ | refine x'm ?_ | assumption | (refine x'n ?_; omega) | omega)))⟩
      · have hd : inB d (-4000000000000000000) 4000000000000000000 = false := by simpa using hd
        have H := Lib.hid (show newR n d = none by unfold newR; rw [if_pos (.inr (.inr hd))])
        rw [H.out]
        clear h0 H
        go_enter Try.func95, Try.ntmps95
        go_wp2_with (go_at_call 76; refine (within_any _ _ _ _).mono ?_; rintro e w' ⟨rfl, rfl⟩)
        exact bodyPost_ret (v := .tuple #[.agg #[.int .i64 0, .int .i64 0], .bool false]) (by simp [results, Try.results95, go_sem]) rfl ⟨rfl, (by refine x'z ?_; repeat (with_reducible (first | exact x'a _ _ | exact x'b _ | exact x'c (by assumption) | refine x'd ?_ (by assumption) | refine x'e ?_ _ | refine x'f ?_ _ | refine x'g ?_ | refine x'h ?_ ?_ _ | refine x'i ?_ _ | refine x'j ?_ | refine x'k ?_ _ | refine x'l ?_ _ _ | refine x'm ?_ | assumption | (refine x'n ?_; omega) | omega)))⟩
    · have hn : inB n (-4000000000000000000) 4000000000000000000 = false := by simpa using hn
      have H := Lib.hid (show newR n d = none by unfold newR; rw [if_pos (.inr (.inl hn))])
      rw [H.out]
      clear h0 H
      go_enter Try.func95, Try.ntmps95
      go_wp2_with (go_at_call 76; refine (within_any _ _ _ _).mono ?_; rintro e w' ⟨rfl, rfl⟩)
      exact bodyPost_ret (v := .tuple #[.agg #[.int .i64 0, .int .i64 0], .bool false]) (by simp [results, Try.results95, go_sem]) rfl ⟨rfl, (by refine x'z ?_; repeat (with_reducible (first | exact x'a _ _ | exact x'b _ | exact x'c (by assumption) | refine x'd ?_ (by assumption) | refine x'e ?_ _ | refine x'f ?_ _ | refine x'g ?_ | refine x'h ?_ ?_ _ | refine x'i ?_ _ | refine x'j ?_ | refine x'k ?_ _ | refine x'l ?_ _ _ | refine x'm ?_ | assumption | (refine x'n ?_; omega) | omega)))⟩
set_option maxHeartbeats 1000000 in
theorem specNewRational_any {n d : Int} {w : World} (hn1 : -9223372036854775808 ≤ n) (hn2 : n ≤ 9223372036854775807) (hd1 : -9223372036854775808 ≤ d) (hd2 : d ≤ 9223372036854775807) :
    Calls Try.prog 90 #[.int .i64 n, .int .i64 d] w fun e w' => e = .returned (.tuple #[.agg #[.int .i64 ((newR n d).getD (0, 0)).1, .int .i64 ((newR n d).getD (0, 0)).2], .bool (newR n d).isSome]) ∧ ∃ y, w' = ext w y := by
  by_cases h0 : d = 0
  · have H := Lib.hid (show newR n d = none by unfold newR; rw [if_pos (.inl h0)])
    rw [H.out]
    have h1 : (d == 0) = true := by simp [h0]
    clear h0 H
    go_enter Try.func90, Try.ntmps90
    go_wp2
    exact bodyPost_ret (v := .tuple #[.agg #[.int .i64 0, .int .i64 0], .bool false]) (by simp [results, Try.results90, go_sem]) rfl ⟨rfl, (by refine x'z ?_; repeat (with_reducible (first | exact x'a _ _ | exact x'b _ | exact x'c (by assumption) | refine x'd ?_ (by assumption) | refine x'e ?_ _ | refine x'f ?_ _ | refine x'g ?_ | refine x'h ?_ ?_ _ | refine x'i ?_ _ | refine x'j ?_ | refine x'k ?_ _ | refine x'l ?_ _ _ | refine x'm ?_ | assumption | (refine x'n ?_; omega) | omega)))⟩
  · have h1 : (d == 0) = false := by simp [h0]
    by_cases hn : inB n (-4000000000000000000) 4000000000000000000 = true
    · by_cases hd : inB d (-4000000000000000000) 4000000000000000000 = true
      · obtain ⟨p1, p2⟩ := inB_t hn
        obtain ⟨p3, p4⟩ := inB_t hd
        have g1 : 1 ≤ (Int.gcd n d : Int) := gcd_pos' h0
        have g2 : (Int.gcd n d : Int) ≤ 4000000000000000000 := Int.le_trans (gcd_le' h0) (by omega)
        have HN := fun hlt => Lib.hid (newR_neg h0 hn hd hlt)
        have HP := fun hlt => Lib.hid (newR_pos h0 hn hd hlt)
        clear h0
        generalize hg : (Int.gcd n d : Int) = g at *
        have Hg := Lib.hid hg
        clear hg
        obtain ⟨t1, t2⟩ := tdiv_bd p1 p2 g1
        obtain ⟨t3, t4⟩ := tdiv_bd p3 p4 g1
        by_cases hlt : d < 0
        · have HN := HN hlt
          clear HP
          by_cases hv : isVR (-n.tdiv g, -d.tdiv g) = true
          · have HV := Lib.hid (show newR n d = some (-n.tdiv g, -d.tdiv g) by rw [HN.out, if_pos hv])
            rw [HV.out]
            go_enter Try.func90, Try.ntmps90
            go_wp2_with (first | (go_at_call 72; refine (l1In_any _ _ _ _).mono ?_; rintro e w' ⟨rfl, rfl⟩) | (go_at_call 87; refine (l2Gcd_any (by omega) (by omega) (by omega) (by omega)).mono ?_; rintro e w1 ⟨rfl, rfl⟩; (first | rw [gcd_neg3, Hg.out] | rw [gcd_neg1, Hg.out] | rw [gcd_neg2, Hg.out] | rw [Hg.out])))
            all_goals
              go_region
              go_wp2_with (go_at_call 45; refine specIsValidRational_any.mono ?_; rintro e w2 ⟨rfl, hx2⟩; (try rw [tdiv_id (by omega : 0 ≤ d)]); rw [hv]; obtain ⟨B2, l2, b2, b2', f2⟩ := box2 (BoxAt.toExt ((BoxAt.new w _ _).alloc _).drew hx2); obtain ⟨B3, l3, b3, b3', f3⟩ := box2 (BoxAt.toExt (BoxAt.new (w.alloc _) _ _).drew hx2); simp only [World.size_alloc] at l3 b3 b3' f3)
              exact bodyPost_ret (v := .tuple #[.agg #[.int .i64 (-n.tdiv g), .int .i64 (-d.tdiv g)], .bool true]) (by simp [results, Try.results90, go_sem, b2, b2']) rfl ⟨rfl, (by refine x'z ?_; repeat (with_reducible (first | exact x'a _ _ | exact x'b _ | exact x'c (by assumption) | refine x'd ?_ (by assumption) | refine x'e ?_ _ | refine x'f ?_ _ | refine x'g ?_ | refine x'h ?_ ?_ _ | refine x'i ?_ _ | refine x'j ?_ | refine x'k ?_ _ | refine x'l ?_ _ _ | refine x'm ?_ | assumption | (refine x'n ?_; omega) | omega)))⟩
          · have hv : isVR (-n.tdiv g, -d.tdiv g) = false := by simpa using hv
            have HV := Lib.hid (show newR n d = none by rw [HN.out, if_neg (by simp [hv])])
            rw [HV.out]
            go_enter Try.func90, Try.ntmps90
            go_wp2_with (first | (go_at_call 72; refine (l1In_any _ _ _ _).mono ?_; rintro e w' ⟨rfl, rfl⟩) | (go_at_call 87; refine (l2Gcd_any (by omega) (by omega) (by omega) (by omega)).mono ?_; rintro e w1 ⟨rfl, rfl⟩; (first | rw [gcd_neg3, Hg.out] | rw [gcd_neg1, Hg.out] | rw [gcd_neg2, Hg.out] | rw [Hg.out])))
            all_goals
              go_region
              go_wp2_with (go_at_call 45; refine specIsValidRational_any.mono ?_; rintro e w2 ⟨rfl, hx2⟩; (try rw [tdiv_id (by omega : 0 ≤ d)]); rw [hv]; obtain ⟨B2, l2, b2, b2', f2⟩ := box2 (BoxAt.toExt ((BoxAt.new w _ _).alloc _).drew hx2); obtain ⟨B3, l3, b3, b3', f3⟩ := box2 (BoxAt.toExt (BoxAt.new (w.alloc _) _ _).drew hx2); simp only [World.size_alloc] at l3 b3 b3' f3)
              exact bodyPost_ret (v := .tuple #[.agg #[.int .i64 0, .int .i64 0], .bool false]) (by simp [results, Try.results90, go_sem, b2, b2']) rfl ⟨rfl, (by refine x'z ?_; repeat (with_reducible (first | exact x'a _ _ | exact x'b _ | exact x'c (by assumption) | refine x'd ?_ (by assumption) | refine x'e ?_ _ | refine x'f ?_ _ | refine x'g ?_ | refine x'h ?_ ?_ _ | refine x'i ?_ _ | refine x'j ?_ | refine x'k ?_ _ | refine x'l ?_ _ _ | refine x'm ?_ | assumption | (refine x'n ?_; omega) | omega)))⟩
        · have HP := HP hlt
          clear HN
          by_cases hv : isVR (n.tdiv g, d.tdiv g) = true
          · have HV := Lib.hid (show newR n d = some (n.tdiv g, d.tdiv g) by rw [HP.out, if_pos hv])
            rw [HV.out]
            go_enter Try.func90, Try.ntmps90
            go_wp2_with (first | (go_at_call 72; refine (l1In_any _ _ _ _).mono ?_; rintro e w' ⟨rfl, rfl⟩) | (go_at_call 87; refine (l2Gcd_any (by omega) (by omega) (by omega) (by omega)).mono ?_; rintro e w1 ⟨rfl, rfl⟩; (first | rw [gcd_neg3, Hg.out] | rw [gcd_neg1, Hg.out] | rw [gcd_neg2, Hg.out] | rw [Hg.out])))
            all_goals
              go_region
              go_wp2_with (go_at_call 45; refine specIsValidRational_any.mono ?_; rintro e w2 ⟨rfl, hx2⟩; (try rw [tdiv_id (by omega : 0 ≤ d)]); rw [hv]; obtain ⟨B2, l2, b2, b2', f2⟩ := box2 (BoxAt.toExt ((BoxAt.new w _ _).alloc _).drew hx2); obtain ⟨B3, l3, b3, b3', f3⟩ := box2 (BoxAt.toExt (BoxAt.new (w.alloc _) _ _).drew hx2); simp only [World.size_alloc] at l3 b3 b3' f3)
              exact bodyPost_ret (v := .tuple #[.agg #[.int .i64 (n.tdiv g), .int .i64 (d.tdiv g)], .bool true]) (by simp [results, Try.results90, go_sem, b2, b2']) rfl ⟨rfl, (by refine x'z ?_; repeat (with_reducible (first | exact x'a _ _ | exact x'b _ | exact x'c (by assumption) | refine x'd ?_ (by assumption) | refine x'e ?_ _ | refine x'f ?_ _ | refine x'g ?_ | refine x'h ?_ ?_ _ | refine x'i ?_ _ | refine x'j ?_ | refine x'k ?_ _ | refine x'l ?_ _ _ | refine x'm ?_ | assumption | (refine x'n ?_; omega) | omega)))⟩
          · have hv : isVR (n.tdiv g, d.tdiv g) = false := by simpa using hv
            have HV := Lib.hid (show newR n d = none by rw [HP.out, if_neg (by simp [hv])])
            rw [HV.out]
            go_enter Try.func90, Try.ntmps90
            go_wp2_with (first | (go_at_call 72; refine (l1In_any _ _ _ _).mono ?_; rintro e w' ⟨rfl, rfl⟩) | (go_at_call 87; refine (l2Gcd_any (by omega) (by omega) (by omega) (by omega)).mono ?_; rintro e w1 ⟨rfl, rfl⟩; (first | rw [gcd_neg3, Hg.out] | rw [gcd_neg1, Hg.out] | rw [gcd_neg2, Hg.out] | rw [Hg.out])))
            all_goals
              go_region
              go_wp2_with (go_at_call 45; refine specIsValidRational_any.mono ?_; rintro e w2 ⟨rfl, hx2⟩; (try rw [tdiv_id (by omega : 0 ≤ d)]); rw [hv]; obtain ⟨B2, l2, b2, b2', f2⟩ := box2 (BoxAt.toExt ((BoxAt.new w _ _).alloc _).drew hx2); obtain ⟨B3, l3, b3, b3', f3⟩ := box2 (BoxAt.toExt (BoxAt.new (w.alloc _) _ _).drew hx2); simp only [World.size_alloc] at l3 b3 b3' f3)
              exact bodyPost_ret (v := .tuple #[.agg #[.int .i64 0, .int .i64 0], .bool false]) (by simp [results, Try.results90, go_sem, b2, b2']) rfl ⟨rfl, (by refine x'z ?_; repeat (with_reducible (first | exact x'a _ _ | exact x'b _ | exact x'c (by assumption) | refine x'd ?_ (by assumption) | refine x'e ?_ _ | refine x'f ?_ _ | refine x'g ?_ | refine x'h ?_ ?_ _ | refine x'i ?_ _ | refine x'j ?_ | refine x'k ?_ _ | refine x'l ?_ _ _ | refine x'm ?_ | assumption | (refine x'n ?_; omega) | omega)))⟩
      · have hd : inB d (-4000000000000000000) 4000000000000000000 = false := by simpa using hd
        have H := Lib.hid (show newR n d = none by unfold newR; rw [if_pos (.inr (.inr hd))])
        rw [H.out]
        clear h0 H
        go_enter Try.func90, Try.ntmps90
        go_wp2_with (go_at_call 72; refine (l1In_any _ _ _ _).mono ?_; rintro e w' ⟨rfl, rfl⟩)
        exact bodyPost_ret (v := .tuple #[.agg #[.int .i64 0, .int .i64 0], .bool false]) (by simp [results, Try.results90, go_sem]) rfl ⟨rfl, (by refine x'z ?_; repeat (with_reducible (first | exact x'a _ _ | exact x'b _ | exact x'c (by assumption) | refine x'd ?_ (by assumption) | refine x'e ?_ _ | refine x'f ?_ _ | refine x'g ?_ | refine x'h ?_ ?_ _ | refine x'i ?_ _ | refine x'j ?_ | refine x'k ?_ _ | refine x'l ?_ _ _ | refine x'm ?_ | assumption | (refine x'n ?_; omega) | omega)))⟩
    · have hn : inB n (-4000000000000000000) 4000000000000000000 = false := by simpa using hn
      have H := Lib.hid (show newR n d = none by unfold newR; rw [if_pos (.inr (.inl hn))])
      rw [H.out]
      clear h0 H
      go_enter Try.func90, Try.ntmps90
      go_wp2_with (go_at_call 72; refine (l1In_any _ _ _ _).mono ?_; rintro e w' ⟨rfl, rfl⟩)
      exact bodyPost_ret (v := .tuple #[.agg #[.int .i64 0, .int .i64 0], .bool false]) (by simp [results, Try.results90, go_sem]) rfl ⟨rfl, (by refine x'z ?_; repeat (with_reducible (first | exact x'a _ _ | exact x'b _ | exact x'c (by assumption) | refine x'd ?_ (by assumption) | refine x'e ?_ _ | refine x'f ?_ _ | refine x'g ?_ | refine x'h ?_ ?_ _ | refine x'i ?_ _ | refine x'j ?_ | refine x'k ?_ _ | refine x'l ?_ _ _ | refine x'm ?_ | assumption | (refine x'n ?_; omega) | omega)))⟩
end Go.Proofs.Ytbjpkfgkmilkdaa
