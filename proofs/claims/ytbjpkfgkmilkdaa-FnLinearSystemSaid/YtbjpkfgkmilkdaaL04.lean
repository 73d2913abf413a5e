/- Contracts of functions that the statement reaches. -/
import Derived.Test.YtbjpkfgkmilkdaaL02
import Derived.Test.YtbjpkfgkmilkdaaL03
namespace Go.Proofs.Ytbjpkfgkmilkdaa
open Go.RowKit
def addR (p q : Int × Int) : Option (Int × Int) := if (isVR p && isVR q) = true then newR (p.1 * q.2 + q.1 * p.2) (p.2 * q.2) else none
def mulR (p q : Int × Int) : Option (Int × Int) := if (isVR p && isVR q) = true then newR (p.1 * q.1) (p.2 * q.2) else none
def divR (p q : Int × Int) : Option (Int × Int) := if (isVR p && isVR q) = true then newR (p.1 * q.2) (p.2 * q.1) else none
def subR (p q : Int × Int) : Option (Int × Int) := if isVR q = true then addR p (-q.1, q.2) else none
theorem mul_bd {x y : Int} (h1 : -1000000000 ≤ x) (h2 : x ≤ 1000000000) (h3 : -1000000000 ≤ y) (h4 : y ≤ 1000000000) : -1000000000000000000 ≤ x * y ∧ x * y ≤ 1000000000000000000 := by
  have h : (x * y).natAbs ≤ 1000000000 * 1000000000 := by
    rw [Int.natAbs_mul]
    exact Nat.mul_le_mul (by omega) (by omega)
  omega
theorem newR_zero (n : Int) : newR n 0 = none := by unfold newR; rw [if_pos (.inl rfl)]
theorem isVR_neg {a b : Int} : isVR (-a, b) = isVR (a, b) := by
  have e : ∀ x : Int, (decide (-1000000000 ≤ -x ∧ -x ≤ 1000000000)) = decide (-1000000000 ≤ x ∧ x ≤ 1000000000) := fun x => by rw [Bool.eq_iff_iff]; simp; omega
  simp only [isVR, inB, Int.neg_gcd, e]
set_option maxHeartbeats 1000000 in
theorem AddRational_any {a b c d : Int} {w : World} :
    Calls Try.prog 99 #[.agg #[.int .i64 a, .int .i64 b], .agg #[.int .i64 c, .int .i64 d]] w fun e w' => e = .returned (.tuple #[.agg #[.int .i64 ((addR (a, b) (c, d)).getD (0, 0)).1, .int .i64 ((addR (a, b) (c, d)).getD (0, 0)).2], .bool (addR (a, b) (c, d)).isSome]) ∧ ∃ y, w' = ext w y := by
  by_cases hv1 : isVR (a, b) = true
  · by_cases hv2 : isVR (c, d) = true
    · have hv : (isVR (a, b) && isVR (c, d)) = true := by rw [hv1, hv2]; rfl
      have HA := Lib.hid (show addR (a, b) (c, d) = newR (a * d + c * b) (b * d) by unfold addR; rw [if_pos hv])
      have v1 := isVR_t hv1
      have v2 := isVR_t hv2
      dsimp only at v1 v2
      obtain ⟨p1, p2, p3, p4, _⟩ := v1
      obtain ⟨q1, q2, q3, q4, _⟩ := v2
      obtain ⟨m0, n0⟩ := mul_bd (x := a) (y := d) (by omega) (by omega) (by omega) (by omega)
      obtain ⟨m1, n1⟩ := mul_bd (x := c) (y := b) (by omega) (by omega) (by omega) (by omega)
      obtain ⟨m2, n2⟩ := mul_bd (x := b) (y := d) (by omega) (by omega) (by omega) (by omega)
      rw [HA.out]
      go_enter Try.func99, Try.ntmps99
      go_upto_region 1 with fail
      refine wp_name ?_
      intro W hW
      have xW : ∃ y, W = ext w y := by rw [hW.out]; exact (by refine x'z ?_; repeat (with_reducible (first | exact x'a _ _ | exact x'b _ | exact x'c (by assumption) | refine x'd ?_ (by assumption) | refine x'e ?_ _ | refine x'f ?_ _ | refine x'g ?_ | refine x'h ?_ ?_ _ | refine x'i ?_ _ | refine x'j ?_ | refine x'k ?_ _ | refine x'l ?_ _ _ | refine x'm ?_ | assumption | (refine x'n ?_; omega) | omega)))
      have BW0 : BoxAt W (w.heap.size) #[.int .i64 a, .int .i64 b] := by rw [hW.out]; refine ⟨?_, fun j => ?_, fun j => ?_⟩ <;> go_simp
      obtain ⟨lW0, bW0, fW0⟩ := BW0
      have cW0_0 : W.cell? ⟨w.heap.size, 0, none⟩ = some (.int .i64 a) := bW0 0
      have cW0_1 : W.cell? ⟨w.heap.size, 1, none⟩ = some (.int .i64 b) := bW0 1
      have BW1 : BoxAt W (w.heap.size + 1) #[.int .i64 c, .int .i64 d] := by rw [hW.out]; refine ⟨?_, fun j => ?_, fun j => ?_⟩ <;> go_simp
      obtain ⟨lW1, bW1, fW1⟩ := BW1
      have cW1_0 : W.cell? ⟨w.heap.size + 1, 0, none⟩ = some (.int .i64 c) := bW1 0
      have cW1_1 : W.cell? ⟨w.heap.size + 1, 1, none⟩ = some (.int .i64 d) := bW1 1
      have BW2 : BoxAt W (w.heap.size + 1 + 1) #[.int .i64 0, .int .i64 0] := by rw [hW.out]; refine ⟨?_, fun j => ?_, fun j => ?_⟩ <;> go_simp
      obtain ⟨lW2, bW2, fW2⟩ := BW2
      have cW2_0 : W.cell? ⟨w.heap.size + 1 + 1, 0, none⟩ = some (.int .i64 0) := bW2 0
      have cW2_1 : W.cell? ⟨w.heap.size + 1 + 1, 1, none⟩ = some (.int .i64 0) := bW2 1
      clear hW
      go_wp2_with (first | (go_at_call 94; refine bothValid_any.mono ?_; rintro e w1 ⟨rfl, y, rfl⟩; rw [hv]) | (go_at_call 95; refine (NewRational_any (by omega) (by omega) (by omega) (by omega)).mono ?_; rintro e w1 ⟨rfl, hx1⟩; obtain ⟨y', rfl⟩ := trans_ext ⟨_, rfl⟩ hx1))
      exact bodyPost_ret (v := .tuple #[.agg #[.int .i64 ((newR (a * d + c * b) (b * d)).getD (0, 0)).1, .int .i64 ((newR (a * d + c * b) (b * d)).getD (0, 0)).2], .bool (newR (a * d + c * b) (b * d)).isSome]) (by simp [results, Try.results99, go_sem, lW2, bW2]) rfl ⟨rfl, (by refine x'z ?_; repeat (with_reducible (first | exact x'a _ _ | exact x'b _ | exact x'c (by assumption) | refine x'd ?_ (by assumption) | refine x'e ?_ _ | refine x'f ?_ _ | refine x'g ?_ | refine x'h ?_ ?_ _ | refine x'i ?_ _ | refine x'j ?_ | refine x'k ?_ _ | refine x'l ?_ _ _ | refine x'm ?_ | assumption | (refine x'n ?_; omega) | omega)))⟩
    · have hv : (isVR (a, b) && isVR (c, d)) = false := by simp [hv2]
      rw [show addR (a, b) (c, d) = none by unfold addR; rw [if_neg (by simp [hv])]]
      go_enter Try.func99, Try.ntmps99
      go_upto_region 1 with fail
      refine wp_name ?_
      intro W hW
      have xW : ∃ y, W = ext w y := by rw [hW.out]; exact (by refine x'z ?_; repeat (with_reducible (first | exact x'a _ _ | exact x'b _ | exact x'c (by assumption) | refine x'd ?_ (by assumption) | refine x'e ?_ _ | refine x'f ?_ _ | refine x'g ?_ | refine x'h ?_ ?_ _ | refine x'i ?_ _ | refine x'j ?_ | refine x'k ?_ _ | refine x'l ?_ _ _ | refine x'm ?_ | assumption | (refine x'n ?_; omega) | omega)))
      have BW0 : BoxAt W (w.heap.size) #[.int .i64 a, .int .i64 b] := by rw [hW.out]; refine ⟨?_, fun j => ?_, fun j => ?_⟩ <;> go_simp
      obtain ⟨lW0, bW0, fW0⟩ := BW0
      have cW0_0 : W.cell? ⟨w.heap.size, 0, none⟩ = some (.int .i64 a) := bW0 0
      have cW0_1 : W.cell? ⟨w.heap.size, 1, none⟩ = some (.int .i64 b) := bW0 1
      have BW1 : BoxAt W (w.heap.size + 1) #[.int .i64 c, .int .i64 d] := by rw [hW.out]; refine ⟨?_, fun j => ?_, fun j => ?_⟩ <;> go_simp
      obtain ⟨lW1, bW1, fW1⟩ := BW1
      have cW1_0 : W.cell? ⟨w.heap.size + 1, 0, none⟩ = some (.int .i64 c) := bW1 0
      have cW1_1 : W.cell? ⟨w.heap.size + 1, 1, none⟩ = some (.int .i64 d) := bW1 1
      have BW2 : BoxAt W (w.heap.size + 1 + 1) #[.int .i64 0, .int .i64 0] := by rw [hW.out]; refine ⟨?_, fun j => ?_, fun j => ?_⟩ <;> go_simp
      obtain ⟨lW2, bW2, fW2⟩ := BW2
      have cW2_0 : W.cell? ⟨w.heap.size + 1 + 1, 0, none⟩ = some (.int .i64 0) := bW2 0
      have cW2_1 : W.cell? ⟨w.heap.size + 1 + 1, 1, none⟩ = some (.int .i64 0) := bW2 1
      clear hW
      go_wp2_with (first | (go_at_call 94; refine bothValid_any.mono ?_; rintro e w1 ⟨rfl, y, rfl⟩; rw [hv]) | (go_at_call 95; refine (NewRational_any (by omega) (by omega) (by omega) (by omega)).mono ?_; rintro e w1 ⟨rfl, hx1⟩; obtain ⟨y', rfl⟩ := trans_ext ⟨_, rfl⟩ hx1))
      exact bodyPost_ret (v := .tuple #[.agg #[.int .i64 0, .int .i64 0], .bool false]) (by simp [results, Try.results99, go_sem, lW2, bW2]) rfl ⟨rfl, (by refine x'z ?_; repeat (with_reducible (first | exact x'a _ _ | exact x'b _ | exact x'c (by assumption) | refine x'd ?_ (by assumption) | refine x'e ?_ _ | refine x'f ?_ _ | refine x'g ?_ | refine x'h ?_ ?_ _ | refine x'i ?_ _ | refine x'j ?_ | refine x'k ?_ _ | refine x'l ?_ _ _ | refine x'm ?_ | assumption | (refine x'n ?_; omega) | omega)))⟩
  · have hv : (isVR (a, b) && isVR (c, d)) = false := by simp [hv1]
    rw [show addR (a, b) (c, d) = none by unfold addR; rw [if_neg (by simp [hv])]]
    go_enter Try.func99, Try.ntmps99
    go_upto_region 1 with fail
    refine wp_name ?_
    intro W hW
    have xW : ∃ y, W = ext w y := by rw [hW.out]; exact (by refine x'z ?_; repeat (with_reducible (first | exact x'a _ _ | exact x'b _ | exact x'c (by assumption) | refine x'd ?_ (by assumption) | refine x'e ?_ _ | refine x'f ?_ _ | refine x'g ?_ | refine x'h ?_ ?_ _ | refine x'i ?_ _ | refine x'j ?_ | refine x'k ?_ _ | refine x'l ?_ _ _ | refine x'm ?_ | assumption | (refine x'n ?_; omega) | omega)))
    have BW0 : BoxAt W (w.heap.size) #[.int .i64 a, .int .i64 b] := by rw [hW.out]; refine ⟨?_, fun j => ?_, fun j => ?_⟩ <;> go_simp
    obtain ⟨lW0, bW0, fW0⟩ := BW0
    have cW0_0 : W.cell? ⟨w.heap.size, 0, none⟩ = some (.int .i64 a) := bW0 0
    have cW0_1 : W.cell? ⟨w.heap.size, 1, none⟩ = some (.int .i64 b) := bW0 1
    have BW1 : BoxAt W (w.heap.size + 1) #[.int .i64 c, .int .i64 d] := by rw [hW.out]; refine ⟨?_, fun j => ?_, fun j => ?_⟩ <;> go_simp
    obtain ⟨lW1, bW1, fW1⟩ := BW1
    have cW1_0 : W.cell? ⟨w.heap.size + 1, 0, none⟩ = some (.int .i64 c) := bW1 0
    have cW1_1 : W.cell? ⟨w.heap.size + 1, 1, none⟩ = some (.int .i64 d) := bW1 1
    have BW2 : BoxAt W (w.heap.size + 1 + 1) #[.int .i64 0, .int .i64 0] := by rw [hW.out]; refine ⟨?_, fun j => ?_, fun j => ?_⟩ <;> go_simp
    obtain ⟨lW2, bW2, fW2⟩ := BW2
    have cW2_0 : W.cell? ⟨w.heap.size + 1 + 1, 0, none⟩ = some (.int .i64 0) := bW2 0
    have cW2_1 : W.cell? ⟨w.heap.size + 1 + 1, 1, none⟩ = some (.int .i64 0) := bW2 1
    clear hW
    go_wp2_with (first | (go_at_call 94; refine bothValid_any.mono ?_; rintro e w1 ⟨rfl, y, rfl⟩; rw [hv]) | (go_at_call 95; refine (NewRational_any (by omega) (by omega) (by omega) (by omega)).mono ?_; rintro e w1 ⟨rfl, hx1⟩; obtain ⟨y', rfl⟩ := trans_ext ⟨_, rfl⟩ hx1))
    exact bodyPost_ret (v := .tuple #[.agg #[.int .i64 0, .int .i64 0], .bool false]) (by simp [results, Try.results99, go_sem, lW2, bW2]) rfl ⟨rfl, (by refine x'z ?_; repeat (with_reducible (first | exact x'a _ _ | exact x'b _ | exact x'c (by assumption) | refine x'd ?_ (by assumption) | refine x'e ?_ _ | refine x'f ?_ _ | refine x'g ?_ | refine x'h ?_ ?_ _ | refine x'i ?_ _ | refine x'j ?_ | refine x'k ?_ _ | refine x'l ?_ _ _ | refine x'm ?_ | assumption | (refine x'n ?_; omega) | omega)))⟩
set_option maxHeartbeats 1000000 in
theorem specAddRational_any {a b c d : Int} {w : World} :
    Calls Try.prog 109 #[.agg #[.int .i64 a, .int .i64 b], .agg #[.int .i64 c, .int .i64 d]] w fun e w' => e = .returned (.tuple #[.agg #[.int .i64 ((addR (a, b) (c, d)).getD (0, 0)).1, .int .i64 ((addR (a, b) (c, d)).getD (0, 0)).2], .bool (addR (a, b) (c, d)).isSome]) ∧ ∃ y, w' = ext w y := by
  by_cases hv1 : isVR (a, b) = true
  · by_cases hv2 : isVR (c, d) = true
    · have hv : (isVR (a, b) && isVR (c, d)) = true := by rw [hv1, hv2]; rfl
      have HA := Lib.hid (show addR (a, b) (c, d) = newR (a * d + c * b) (b * d) by unfold addR; rw [if_pos hv])
      have v1 := isVR_t hv1
      have v2 := isVR_t hv2
      dsimp only at v1 v2
      obtain ⟨p1, p2, p3, p4, _⟩ := v1
      obtain ⟨q1, q2, q3, q4, _⟩ := v2
      obtain ⟨m0, n0⟩ := mul_bd (x := a) (y := d) (by omega) (by omega) (by omega) (by omega)
      obtain ⟨m1, n1⟩ := mul_bd (x := c) (y := b) (by omega) (by omega) (by omega) (by omega)
      obtain ⟨m2, n2⟩ := mul_bd (x := b) (y := d) (by omega) (by omega) (by omega) (by omega)
      rw [HA.out]
      go_enter Try.func109, Try.ntmps109
      go_upto_region 1 with fail
      refine wp_name ?_
      intro W hW
      have xW : ∃ y, W = ext w y := by rw [hW.out]; exact (by refine x'z ?_; repeat (with_reducible (first | exact x'a _ _ | exact x'b _ | exact x'c (by assumption) | refine x'd ?_ (by assumption) | refine x'e ?_ _ | refine x'f ?_ _ | refine x'g ?_ | refine x'h ?_ ?_ _ | refine x'i ?_ _ | refine x'j ?_ | refine x'k ?_ _ | refine x'l ?_ _ _ | refine x'm ?_ | assumption | (refine x'n ?_; omega) | omega)))
      have BW0 : BoxAt W (w.heap.size) #[.int .i64 a, .int .i64 b] := by rw [hW.out]; refine ⟨?_, fun j => ?_, fun j => ?_⟩ <;> go_simp
      obtain ⟨lW0, bW0, fW0⟩ := BW0
      have cW0_0 : W.cell? ⟨w.heap.size, 0, none⟩ = some (.int .i64 a) := bW0 0
      have cW0_1 : W.cell? ⟨w.heap.size, 1, none⟩ = some (.int .i64 b) := bW0 1
      have BW1 : BoxAt W (w.heap.size + 1) #[.int .i64 c, .int .i64 d] := by rw [hW.out]; refine ⟨?_, fun j => ?_, fun j => ?_⟩ <;> go_simp
      obtain ⟨lW1, bW1, fW1⟩ := BW1
      have cW1_0 : W.cell? ⟨w.heap.size + 1, 0, none⟩ = some (.int .i64 c) := bW1 0
      have cW1_1 : W.cell? ⟨w.heap.size + 1, 1, none⟩ = some (.int .i64 d) := bW1 1
      have BW2 : BoxAt W (w.heap.size + 1 + 1) #[.int .i64 0, .int .i64 0] := by rw [hW.out]; refine ⟨?_, fun j => ?_, fun j => ?_⟩ <;> go_simp
      obtain ⟨lW2, bW2, fW2⟩ := BW2
      have cW2_0 : W.cell? ⟨w.heap.size + 1 + 1, 0, none⟩ = some (.int .i64 0) := bW2 0
      have cW2_1 : W.cell? ⟨w.heap.size + 1 + 1, 1, none⟩ = some (.int .i64 0) := bW2 1
      clear hW
      go_wp2_with (first | (go_at_call 45; refine specIsValidRational_any.mono ?_; rintro e w1 ⟨rfl, hx1⟩; (first | rw [hv1] | rw [hv2]); obtain ⟨y, rfl⟩ := trans_ext (by first | exact refl_ext W | exact ⟨_, rfl⟩) hx1) | (go_at_call 90; refine (specNewRational_any (by omega) (by omega) (by omega) (by omega)).mono ?_; rintro e w1 ⟨rfl, hx1⟩; obtain ⟨y', rfl⟩ := trans_ext ⟨_, rfl⟩ hx1))
      exact bodyPost_ret (v := .tuple #[.agg #[.int .i64 ((newR (a * d + c * b) (b * d)).getD (0, 0)).1, .int .i64 ((newR (a * d + c * b) (b * d)).getD (0, 0)).2], .bool (newR (a * d + c * b) (b * d)).isSome]) (by simp [results, Try.results109, go_sem, lW2, bW2]) rfl ⟨rfl, (by refine x'z ?_; repeat (with_reducible (first | exact x'a _ _ | exact x'b _ | exact x'c (by assumption) | refine x'd ?_ (by assumption) | refine x'e ?_ _ | refine x'f ?_ _ | refine x'g ?_ | refine x'h ?_ ?_ _ | refine x'i ?_ _ | refine x'j ?_ | refine x'k ?_ _ | refine x'l ?_ _ _ | refine x'm ?_ | assumption | (refine x'n ?_; omega) | omega)))⟩
    · have hv : (isVR (a, b) && isVR (c, d)) = false := by simp [hv2]
      have hv2 : isVR (c, d) = false := by simpa using hv2
      rw [show addR (a, b) (c, d) = none by unfold addR; rw [if_neg (by simp [hv])]]
      go_enter Try.func109, Try.ntmps109
      go_upto_region 1 with fail
      refine wp_name ?_
      intro W hW
      have xW : ∃ y, W = ext w y := by rw [hW.out]; exact (by refine x'z ?_; repeat (with_reducible (first | exact x'a _ _ | exact x'b _ | exact x'c (by assumption) | refine x'd ?_ (by assumption) | refine x'e ?_ _ | refine x'f ?_ _ | refine x'g ?_ | refine x'h ?_ ?_ _ | refine x'i ?_ _ | refine x'j ?_ | refine x'k ?_ _ | refine x'l ?_ _ _ | refine x'm ?_ | assumption | (refine x'n ?_; omega) | omega)))
      have BW0 : BoxAt W (w.heap.size) #[.int .i64 a, .int .i64 b] := by rw [hW.out]; refine ⟨?_, fun j => ?_, fun j => ?_⟩ <;> go_simp
      obtain ⟨lW0, bW0, fW0⟩ := BW0
      have cW0_0 : W.cell? ⟨w.heap.size, 0, none⟩ = some (.int .i64 a) := bW0 0
      have cW0_1 : W.cell? ⟨w.heap.size, 1, none⟩ = some (.int .i64 b) := bW0 1
      have BW1 : BoxAt W (w.heap.size + 1) #[.int .i64 c, .int .i64 d] := by rw [hW.out]; refine ⟨?_, fun j => ?_, fun j => ?_⟩ <;> go_simp
      obtain ⟨lW1, bW1, fW1⟩ := BW1
      have cW1_0 : W.cell? ⟨w.heap.size + 1, 0, none⟩ = some (.int .i64 c) := bW1 0
      have cW1_1 : W.cell? ⟨w.heap.size + 1, 1, none⟩ = some (.int .i64 d) := bW1 1
      have BW2 : BoxAt W (w.heap.size + 1 + 1) #[.int .i64 0, .int .i64 0] := by rw [hW.out]; refine ⟨?_, fun j => ?_, fun j => ?_⟩ <;> go_simp
      obtain ⟨lW2, bW2, fW2⟩ := BW2
      have cW2_0 : W.cell? ⟨w.heap.size + 1 + 1, 0, none⟩ = some (.int .i64 0) := bW2 0
      have cW2_1 : W.cell? ⟨w.heap.size + 1 + 1, 1, none⟩ = some (.int .i64 0) := bW2 1
      clear hW
      go_wp2_with (first | (go_at_call 45; refine specIsValidRational_any.mono ?_; rintro e w1 ⟨rfl, hx1⟩; (first | rw [hv1] | rw [hv2]); obtain ⟨y, rfl⟩ := trans_ext (by first | exact refl_ext W | exact ⟨_, rfl⟩) hx1) | (go_at_call 90; refine (specNewRational_any (by omega) (by omega) (by omega) (by omega)).mono ?_; rintro e w1 ⟨rfl, hx1⟩; obtain ⟨y', rfl⟩ := trans_ext ⟨_, rfl⟩ hx1))
      exact bodyPost_ret (v := .tuple #[.agg #[.int .i64 0, .int .i64 0], .bool false]) (by simp [results, Try.results109, go_sem, lW2, bW2]) rfl ⟨rfl, (by refine x'z ?_; repeat (with_reducible (first | exact x'a _ _ | exact x'b _ | exact x'c (by assumption) | refine x'd ?_ (by assumption) | refine x'e ?_ _ | refine x'f ?_ _ | refine x'g ?_ | refine x'h ?_ ?_ _ | refine x'i ?_ _ | refine x'j ?_ | refine x'k ?_ _ | refine x'l ?_ _ _ | refine x'm ?_ | assumption | (refine x'n ?_; omega) | omega)))⟩
  · have hv : (isVR (a, b) && isVR (c, d)) = false := by simp [hv1]
    have hv1 : isVR (a, b) = false := by simpa using hv1
    rw [show addR (a, b) (c, d) = none by unfold addR; rw [if_neg (by simp [hv])]]
    go_enter Try.func109, Try.ntmps109
    go_upto_region 1 with fail
    refine wp_name ?_
    intro W hW
    have xW : ∃ y, W = ext w y := by rw [hW.out]; exact (by refine x'z ?_; repeat (with_reducible (first | exact x'a _ _ | exact x'b _ | exact x'c (by assumption) | refine x'd ?_ (by assumption) | refine x'e ?_ _ | refine x'f ?_ _ | refine x'g ?_ | refine x'h ?_ ?_ _ | refine x'i ?_ _ | refine x'j ?_ | refine x'k ?_ _ | refine x'l ?_ _ _ | refine x'm ?_ | assumption | (refine x'n ?_; omega) | omega)))
    have BW0 : BoxAt W (w.heap.size) #[.int .i64 a, .int .i64 b] := by rw [hW.out]; refine ⟨?_, fun j => ?_, fun j => ?_⟩ <;> go_simp
    obtain ⟨lW0, bW0, fW0⟩ := BW0
    have cW0_0 : W.cell? ⟨w.heap.size, 0, none⟩ = some (.int .i64 a) := bW0 0
    have cW0_1 : W.cell? ⟨w.heap.size, 1, none⟩ = some (.int .i64 b) := bW0 1
    have BW1 : BoxAt W (w.heap.size + 1) #[.int .i64 c, .int .i64 d] := by rw [hW.out]; refine ⟨?_, fun j => ?_, fun j => ?_⟩ <;> go_simp
    obtain ⟨lW1, bW1, fW1⟩ := BW1
    have cW1_0 : W.cell? ⟨w.heap.size + 1, 0, none⟩ = some (.int .i64 c) := bW1 0
    have cW1_1 : W.cell? ⟨w.heap.size + 1, 1, none⟩ = some (.int .i64 d) := bW1 1
    have BW2 : BoxAt W (w.heap.size + 1 + 1) #[.int .i64 0, .int .i64 0] := by rw [hW.out]; refine ⟨?_, fun j => ?_, fun j => ?_⟩ <;> go_simp
    obtain ⟨lW2, bW2, fW2⟩ := BW2
    have cW2_0 : W.cell? ⟨w.heap.size + 1 + 1, 0, none⟩ = some (.int .i64 0) := bW2 0
    have cW2_1 : W.cell? ⟨w.heap.size + 1 + 1, 1, none⟩ = some (.int .i64 0) := bW2 1
    clear hW
    go_wp2_with (first | (go_at_call 45; refine specIsValidRational_any.mono ?_; rintro e w1 ⟨rfl, hx1⟩; (first | rw [hv1] | rw [hv2]); obtain ⟨y, rfl⟩ := trans_ext (by first | exact refl_ext W | exact ⟨_, rfl⟩) hx1) | (go_at_call 90; refine (specNewRational_any (by omega) (by omega) (by omega) (by omega)).mono ?_; rintro e w1 ⟨rfl, hx1⟩; obtain ⟨y', rfl⟩ := trans_ext ⟨_, rfl⟩ hx1))
    exact bodyPost_ret (v := .tuple #[.agg #[.int .i64 0, .int .i64 0], .bool false]) (by simp [results, Try.results109, go_sem, lW2, bW2]) rfl ⟨rfl, (by refine x'z ?_; repeat (with_reducible (first | exact x'a _ _ | exact x'b _ | exact x'c (by assumption) | refine x'd ?_ (by assumption) | refine x'e ?_ _ | refine x'f ?_ _ | refine x'g ?_ | refine x'h ?_ ?_ _ | refine x'i ?_ _ | refine x'j ?_ | refine x'k ?_ _ | refine x'l ?_ _ _ | refine x'm ?_ | assumption | (refine x'n ?_; omega) | omega)))⟩
set_option maxHeartbeats 1000000 in
theorem MulRational_any {a b c d : Int} {w : World} :
    Calls Try.prog 92 #[.agg #[.int .i64 a, .int .i64 b], .agg #[.int .i64 c, .int .i64 d]] w fun e w' => e = .returned (.tuple #[.agg #[.int .i64 ((mulR (a, b) (c, d)).getD (0, 0)).1, .int .i64 ((mulR (a, b) (c, d)).getD (0, 0)).2], .bool (mulR (a, b) (c, d)).isSome]) ∧ ∃ y, w' = ext w y := by
  by_cases hv1 : isVR (a, b) = true
  · by_cases hv2 : isVR (c, d) = true
    · have hv : (isVR (a, b) && isVR (c, d)) = true := by rw [hv1, hv2]; rfl
      have HA := Lib.hid (show mulR (a, b) (c, d) = newR (a * c) (b * d) by unfold mulR; rw [if_pos hv])
      have v1 := isVR_t hv1
      have v2 := isVR_t hv2
      dsimp only at v1 v2
      obtain ⟨p1, p2, p3, p4, _⟩ := v1
      obtain ⟨q1, q2, q3, q4, _⟩ := v2
      obtain ⟨m0, n0⟩ := mul_bd (x := a) (y := c) (by omega) (by omega) (by omega) (by omega)
      obtain ⟨m1, n1⟩ := mul_bd (x := b) (y := d) (by omega) (by omega) (by omega) (by omega)
      rw [HA.out]
      go_enter Try.func92, Try.ntmps92
      go_upto_region 1 with fail
      refine wp_name ?_
      intro W hW
      have xW : ∃ y, W = ext w y := by rw [hW.out]; exact (by refine x'z ?_; repeat (with_reducible (first | exact x'a _ _ | exact x'b _ | exact x'c (by assumption) | refine x'd ?_ (by assumption) | refine x'e ?_ _ | refine x'f ?_ _ | refine x'g ?_ | refine x'h ?_ ?_ _ | refine x'i ?_ _ | refine x'j ?_ | refine x'k ?_ _ | refine x'l ?_ _ _ | refine x'm ?_ | assumption | (refine x'n ?_; omega) | omega)))
      have BW0 : BoxAt W (w.heap.size) #[.int .i64 a, .int .i64 b] := by rw [hW.out]; refine ⟨?_, fun j => ?_, fun j => ?_⟩ <;> go_simp
      obtain ⟨lW0, bW0, fW0⟩ := BW0
      have cW0_0 : W.cell? ⟨w.heap.size, 0, none⟩ = some (.int .i64 a) := bW0 0
      have cW0_1 : W.cell? ⟨w.heap.size, 1, none⟩ = some (.int .i64 b) := bW0 1
      have BW1 : BoxAt W (w.heap.size + 1) #[.int .i64 c, .int .i64 d] := by rw [hW.out]; refine ⟨?_, fun j => ?_, fun j => ?_⟩ <;> go_simp
      obtain ⟨lW1, bW1, fW1⟩ := BW1
      have cW1_0 : W.cell? ⟨w.heap.size + 1, 0, none⟩ = some (.int .i64 c) := bW1 0
      have cW1_1 : W.cell? ⟨w.heap.size + 1, 1, none⟩ = some (.int .i64 d) := bW1 1
      have BW2 : BoxAt W (w.heap.size + 1 + 1) #[.int .i64 0, .int .i64 0] := by rw [hW.out]; refine ⟨?_, fun j => ?_, fun j => ?_⟩ <;> go_simp
      obtain ⟨lW2, bW2, fW2⟩ := BW2
      have cW2_0 : W.cell? ⟨w.heap.size + 1 + 1, 0, none⟩ = some (.int .i64 0) := bW2 0
      have cW2_1 : W.cell? ⟨w.heap.size + 1 + 1, 1, none⟩ = some (.int .i64 0) := bW2 1
      clear hW
      go_wp2_with (first | (go_at_call 94; refine bothValid_any.mono ?_; rintro e w1 ⟨rfl, y, rfl⟩; rw [hv]) | (go_at_call 95; refine (NewRational_any (by omega) (by omega) (by omega) (by omega)).mono ?_; rintro e w1 ⟨rfl, hx1⟩; obtain ⟨y', rfl⟩ := trans_ext ⟨_, rfl⟩ hx1))
      exact bodyPost_ret (v := .tuple #[.agg #[.int .i64 ((newR (a * c) (b * d)).getD (0, 0)).1, .int .i64 ((newR (a * c) (b * d)).getD (0, 0)).2], .bool (newR (a * c) (b * d)).isSome]) (by simp [results, Try.results92, go_sem, lW2, bW2]) rfl ⟨rfl, (by refine x'z ?_; repeat (with_reducible (first | exact x'a _ _ | exact x'b _ | exact x'c (by assumption) | refine x'd ?_ (by assumption) | refine x'e ?_ _ | refine x'f ?_ _ | refine x'g ?_ | refine x'h ?_ ?_ _ | refine x'i ?_ _ | refine x'j ?_ | refine x'k ?_ _ | refine x'l ?_ _ _ | refine x'm ?_ | assumption | (refine x'n ?_; omega) | omega)))⟩
    · have hv : (isVR (a, b) && isVR (c, d)) = false := by simp [hv2]
      rw [show mulR (a, b) (c, d) = none by unfold mulR; rw [if_neg (by simp [hv])]]
      go_enter Try.func92, Try.ntmps92
      go_upto_region 1 with fail
      refine wp_name ?_
      intro W hW
      have xW : ∃ y, W = ext w y := by rw [hW.out]; exact (by refine x'z ?_; repeat (with_reducible (first | exact x'a _ _ | exact x'b _ | exact x'c (by assumption) | refine x'd ?_ (by assumption) | refine x'e ?_ _ | refine x'f ?_ _ | refine x'g ?_ | refine x'h ?_ ?_ _ | refine x'i ?_ _ | refine x'j ?_ | refine x'k ?_ _ | refine x'l ?_ _ _ | refine x'm ?_ | assumption | (refine x'n ?_; omega) | omega)))
      have BW0 : BoxAt W (w.heap.size) #[.int .i64 a, .int .i64 b] := by rw [hW.out]; refine ⟨?_, fun j => ?_, fun j => ?_⟩ <;> go_simp
      obtain ⟨lW0, bW0, fW0⟩ := BW0
      have cW0_0 : W.cell? ⟨w.heap.size, 0, none⟩ = some (.int .i64 a) := bW0 0
      have cW0_1 : W.cell? ⟨w.heap.size, 1, none⟩ = some (.int .i64 b) := bW0 1
      have BW1 : BoxAt W (w.heap.size + 1) #[.int .i64 c, .int .i64 d] := by rw [hW.out]; refine ⟨?_, fun j => ?_, fun j => ?_⟩ <;> go_simp
      obtain ⟨lW1, bW1, fW1⟩ := BW1
      have cW1_0 : W.cell? ⟨w.heap.size + 1, 0, none⟩ = some (.int .i64 c) := bW1 0
      have cW1_1 : W.cell? ⟨w.heap.size + 1, 1, none⟩ = some (.int .i64 d) := bW1 1
      have BW2 : BoxAt W (w.heap.size + 1 + 1) #[.int .i64 0, .int .i64 0] := by rw [hW.out]; refine ⟨?_, fun j => ?_, fun j => ?_⟩ <;> go_simp
      obtain ⟨lW2, bW2, fW2⟩ := BW2
      have cW2_0 : W.cell? ⟨w.heap.size + 1 + 1, 0, none⟩ = some (.int .i64 0) := bW2 0
      have cW2_1 : W.cell? ⟨w.heap.size + 1 + 1, 1, none⟩ = some (.int .i64 0) := bW2 1
      clear hW
      go_wp2_with (first | (go_at_call 94; refine bothValid_any.mono ?_; rintro e w1 ⟨rfl, y, rfl⟩; rw [hv]) | (go_at_call 95; refine (NewRational_any (by omega) (by omega) (by omega) (by omega)).mono ?_; rintro e w1 ⟨rfl, hx1⟩; obtain ⟨y', rfl⟩ := trans_ext ⟨_, rfl⟩ hx1))
      exact bodyPost_ret (v := .tuple #[.agg #[.int .i64 0, .int .i64 0], .bool false]) (by simp [results, Try.results92, go_sem, lW2, bW2]) rfl ⟨rfl, (by refine x'z ?_; repeat (with_reducible (first | exact x'a _ _ | exact x'b _ | exact x'c (by assumption) | refine x'd ?_ (by assumption) | refine x'e ?_ _ | refine x'f ?_ _ | refine x'g ?_ | refine x'h ?_ ?_ _ | refine x'i ?_ _ | refine x'j ?_ | refine x'k ?_ _ | refine x'l ?_ _ _ | refine x'm ?_ | assumption | (refine x'n ?_; omega) | omega)))⟩
  · have hv : (isVR (a, b) && isVR (c, d)) = false := by simp [hv1]
    rw [show mulR (a, b) (c, d) = none by unfold mulR; rw [if_neg (by simp [hv])]]
    go_enter Try.func92, Try.ntmps92
    go_upto_region 1 with fail
    refine wp_name ?_
    intro W hW
    have xW : ∃ y, W = ext w y := by rw [hW.out]; exact (by refine x'z ?_; repeat (with_reducible (first | exact x'a _ _ | exact x'b _ | exact x'c (by assumption) | refine x'd ?_ (by assumption) | refine x'e ?_ _ | refine x'f ?_ _ | refine x'g ?_ | refine x'h ?_ ?_ _ | refine x'i ?_ _ | refine x'j ?_ | refine x'k ?_ _ | refine x'l ?_ _ _ | refine x'm ?_ | assumption | (refine x'n ?_; omega) | omega)))
    have BW0 : BoxAt W (w.heap.size) #[.int .i64 a, .int .i64 b] := by rw [hW.out]; refine ⟨?_, fun j => ?_, fun j => ?_⟩ <;> go_simp
    obtain ⟨lW0, bW0, fW0⟩ := BW0
    have cW0_0 : W.cell? ⟨w.heap.size, 0, none⟩ = some (.int .i64 a) := bW0 0
    have cW0_1 : W.cell? ⟨w.heap.size, 1, none⟩ = some (.int .i64 b) := bW0 1
    have BW1 : BoxAt W (w.heap.size + 1) #[.int .i64 c, .int .i64 d] := by rw [hW.out]; refine ⟨?_, fun j => ?_, fun j => ?_⟩ <;> go_simp
    obtain ⟨lW1, bW1, fW1⟩ := BW1
    have cW1_0 : W.cell? ⟨w.heap.size + 1, 0, none⟩ = some (.int .i64 c) := bW1 0
    have cW1_1 : W.cell? ⟨w.heap.size + 1, 1, none⟩ = some (.int .i64 d) := bW1 1
    have BW2 : BoxAt W (w.heap.size + 1 + 1) #[.int .i64 0, .int .i64 0] := by rw [hW.out]; refine ⟨?_, fun j => ?_, fun j => ?_⟩ <;> go_simp
    obtain ⟨lW2, bW2, fW2⟩ := BW2
    have cW2_0 : W.cell? ⟨w.heap.size + 1 + 1, 0, none⟩ = some (.int .i64 0) := bW2 0
    have cW2_1 : W.cell? ⟨w.heap.size + 1 + 1, 1, none⟩ = some (.int .i64 0) := bW2 1
    clear hW
    go_wp2_with (first | (go_at_call 94; refine bothValid_any.mono ?_; rintro e w1 ⟨rfl, y, rfl⟩; rw [hv]) | (go_at_call 95; refine (NewRational_any (by omega) (by omega) (by omega) (by omega)).mono ?_; rintro e w1 ⟨rfl, hx1⟩; obtain ⟨y', rfl⟩ := trans_ext ⟨_, rfl⟩ hx1))
    exact bodyPost_ret (v := .tuple #[.agg #[.int .i64 0, .int .i64 0], .bool false]) (by simp [results, Try.results92, go_sem, lW2, bW2]) rfl ⟨rfl, (by refine x'z ?_; repeat (with_reducible (first | exact x'a _ _ | exact x'b _ | exact x'c (by assumption) | refine x'd ?_ (by assumption) | refine x'e ?_ _ | refine x'f ?_ _ | refine x'g ?_ | refine x'h ?_ ?_ _ | refine x'i ?_ _ | refine x'j ?_ | refine x'k ?_ _ | refine x'l ?_ _ _ | refine x'm ?_ | assumption | (refine x'n ?_; omega) | omega)))⟩
set_option maxHeartbeats 1000000 in
theorem specMulRational_any {a b c d : Int} {w : World} :
    Calls Try.prog 88 #[.agg #[.int .i64 a, .int .i64 b], .agg #[.int .i64 c, .int .i64 d]] w fun e w' => e = .returned (.tuple #[.agg #[.int .i64 ((mulR (a, b) (c, d)).getD (0, 0)).1, .int .i64 ((mulR (a, b) (c, d)).getD (0, 0)).2], .bool (mulR (a, b) (c, d)).isSome]) ∧ ∃ y, w' = ext w y := by
  by_cases hv1 : isVR (a, b) = true
  · by_cases hv2 : isVR (c, d) = true
    · have hv : (isVR (a, b) && isVR (c, d)) = true := by rw [hv1, hv2]; rfl
      have HA := Lib.hid (show mulR (a, b) (c, d) = newR (a * c) (b * d) by unfold mulR; rw [if_pos hv])
      have v1 := isVR_t hv1
      have v2 := isVR_t hv2
      dsimp only at v1 v2
      obtain ⟨p1, p2, p3, p4, _⟩ := v1
      obtain ⟨q1, q2, q3, q4, _⟩ := v2
      obtain ⟨m0, n0⟩ := mul_bd (x := a) (y := c) (by omega) (by omega) (by omega) (by omega)
      obtain ⟨m1, n1⟩ := mul_bd (x := b) (y := d) (by omega) (by omega) (by omega) (by omega)
      rw [HA.out]
      go_enter Try.func88, Try.ntmps88
      go_upto_region 1 with fail
      refine wp_name ?_
      intro W hW
      have xW : ∃ y, W = ext w y := by rw [hW.out]; exact (by refine x'z ?_; repeat (with_reducible (first | exact x'a _ _ | exact x'b _ | exact x'c (by assumption) | refine x'd ?_ (by assumption) | refine x'e ?_ _ | refine x'f ?_ _ | refine x'g ?_ | refine x'h ?_ ?_ _ | refine x'i ?_ _ | refine x'j ?_ | refine x'k ?_ _ | refine x'l ?_ _ _ | refine x'm ?_ | assumption | (refine x'n ?_; omega) | omega)))
      have BW0 : BoxAt W (w.heap.size) #[.int .i64 a, .int .i64 b] := by rw [hW.out]; refine ⟨?_, fun j => ?_, fun j => ?_⟩ <;> go_simp
      obtain ⟨lW0, bW0, fW0⟩ := BW0
      have cW0_0 : W.cell? ⟨w.heap.size, 0, none⟩ = some (.int .i64 a) := bW0 0
      have cW0_1 : W.cell? ⟨w.heap.size, 1, none⟩ = some (.int .i64 b) := bW0 1
      have BW1 : BoxAt W (w.heap.size + 1) #[.int .i64 c, .int .i64 d] := by rw [hW.out]; refine ⟨?_, fun j => ?_, fun j => ?_⟩ <;> go_simp
      obtain ⟨lW1, bW1, fW1⟩ := BW1
      have cW1_0 : W.cell? ⟨w.heap.size + 1, 0, none⟩ = some (.int .i64 c) := bW1 0
      have cW1_1 : W.cell? ⟨w.heap.size + 1, 1, none⟩ = some (.int .i64 d) := bW1 1
      have BW2 : BoxAt W (w.heap.size + 1 + 1) #[.int .i64 0, .int .i64 0] := by rw [hW.out]; refine ⟨?_, fun j => ?_, fun j => ?_⟩ <;> go_simp
      obtain ⟨lW2, bW2, fW2⟩ := BW2
      have cW2_0 : W.cell? ⟨w.heap.size + 1 + 1, 0, none⟩ = some (.int .i64 0) := bW2 0
      have cW2_1 : W.cell? ⟨w.heap.size + 1 + 1, 1, none⟩ = some (.int .i64 0) := bW2 1
      clear hW
      go_wp2_with (first | (go_at_call 45; refine specIsValidRational_any.mono ?_; rintro e w1 ⟨rfl, hx1⟩; (first | rw [hv1] | rw [hv2]); obtain ⟨y, rfl⟩ := trans_ext (by first | exact refl_ext W | exact ⟨_, rfl⟩) hx1) | (go_at_call 90; refine (specNewRational_any (by omega) (by omega) (by omega) (by omega)).mono ?_; rintro e w1 ⟨rfl, hx1⟩; obtain ⟨y', rfl⟩ := trans_ext ⟨_, rfl⟩ hx1))
      exact bodyPost_ret (v := .tuple #[.agg #[.int .i64 ((newR (a * c) (b * d)).getD (0, 0)).1, .int .i64 ((newR (a * c) (b * d)).getD (0, 0)).2], .bool (newR (a * c) (b * d)).isSome]) (by simp [results, Try.results88, go_sem, lW2, bW2]) rfl ⟨rfl, (by refine x'z ?_; repeat (with_reducible (first | exact x'a _ _ | exact x'b _ | exact x'c (by assumption) | refine x'd ?_ (by assumption) | refine x'e ?_ _ | refine x'f ?_ _ | refine x'g ?_ | refine x'h ?_ ?_ _ | refine x'i ?_ _ | refine x'j ?_ | refine x'k ?_ _ | refine x'l ?_ _ _ | refine x'm ?_ | assumption | (refine x'n ?_; omega) | omega)))⟩
    · have hv : (isVR (a, b) && isVR (c, d)) = false := by simp [hv2]
      have hv2 : isVR (c, d) = false := by simpa using hv2
      rw [show mulR (a, b) (c, d) = none by unfold mulR; rw [if_neg (by simp [hv])]]
      go_enter Try.func88, Try.ntmps88
      go_upto_region 1 with fail
      refine wp_name ?_
      intro W hW
      have xW : ∃ y, W = ext w y := by rw [hW.out]; exact (by refine x'z ?_; repeat (with_reducible (first | exact x'a _ _ | exact x'b _ | exact x'c (by assumption) | refine x'd ?_ (by assumption) | refine x'e ?_ _ | refine x'f ?_ _ | refine x'g ?_ | refine x'h ?_ ?_ _ | refine x'i ?_ _ | refine x'j ?_ | refine x'k ?_ _ | refine x'l ?_ _ _ | refine x'm ?_ | assumption | (refine x'n ?_; omega) | omega)))
      have BW0 : BoxAt W (w.heap.size) #[.int .i64 a, .int .i64 b] := by rw [hW.out]; refine ⟨?_, fun j => ?_, fun j => ?_⟩ <;> go_simp
      obtain ⟨lW0, bW0, fW0⟩ := BW0
      have cW0_0 : W.cell? ⟨w.heap.size, 0, none⟩ = some (.int .i64 a) := bW0 0
      have cW0_1 : W.cell? ⟨w.heap.size, 1, none⟩ = some (.int .i64 b) := bW0 1
      have BW1 : BoxAt W (w.heap.size + 1) #[.int .i64 c, .int .i64 d] := by rw [hW.out]; refine ⟨?_, fun j => ?_, fun j => ?_⟩ <;> go_simp
      obtain ⟨lW1, bW1, fW1⟩ := BW1
      have cW1_0 : W.cell? ⟨w.heap.size + 1, 0, none⟩ = some (.int .i64 c) := bW1 0
      have cW1_1 : W.cell? ⟨w.heap.size + 1, 1, none⟩ = some (.int .i64 d) := bW1 1
      have BW2 : BoxAt W (w.heap.size + 1 + 1) #[.int .i64 0, .int .i64 0] := by rw [hW.out]; refine ⟨?_, fun j => ?_, fun j => ?_⟩ <;> go_simp
      obtain ⟨lW2, bW2, fW2⟩ := BW2
      have cW2_0 : W.cell? ⟨w.heap.size + 1 + 1, 0, none⟩ = some (.int .i64 0) := bW2 0
      have cW2_1 : W.cell? ⟨w.heap.size + 1 + 1, 1, none⟩ = some (.int .i64 0) := bW2 1
      clear hW
      go_wp2_with (first | (go_at_call 45; refine specIsValidRational_any.mono ?_; rintro e w1 ⟨rfl, hx1⟩; (first | rw [hv1] | rw [hv2]); obtain ⟨y, rfl⟩ := trans_ext (by first | exact refl_ext W | exact ⟨_, rfl⟩) hx1) | (go_at_call 90; refine (specNewRational_any (by omega) (by omega) (by omega) (by omega)).mono ?_; rintro e w1 ⟨rfl, hx1⟩; obtain ⟨y', rfl⟩ := trans_ext ⟨_, rfl⟩ hx1))
      exact bodyPost_ret (v := .tuple #[.agg #[.int .i64 0, .int .i64 0], .bool false]) (by simp [results, Try.results88, go_sem, lW2, bW2]) rfl ⟨rfl, (by refine x'z ?_; repeat (with_reducible (first | exact x'a _ _ | exact x'b _ | exact x'c (by assumption) | refine x'd ?_ (by assumption) | refine x'e ?_ _ | refine x'f ?_ _ | refine x'g ?_ | refine x'h ?_ ?_ _ | refine x'i ?_ _ | refine x'j ?_ | refine x'k ?_ _ | refine x'l ?_ _ _ | refine x'm ?_ | assumption | (refine x'n ?_; omega) | omega)))⟩
  · have hv : (isVR (a, b) && isVR (c, d)) = false := by simp [hv1]
    have hv1 : isVR (a, b) = false := by simpa using hv1
    rw [show mulR (a, b) (c, d) = none by unfold mulR; rw [if_neg (by simp [hv])]]
    go_enter Try.func88, Try.ntmps88
    go_upto_region 1 with fail
    refine wp_name ?_
    intro W hW
    have xW : ∃ y, W = ext w y := by rw [hW.out]; exact (by refine x'z ?_; repeat (with_reducible (first | exact x'a _ _ | exact x'b _ | exact x'c (by assumption) | refine x'd ?_ (by assumption) | refine x'e ?_ _ | refine x'f ?_ _ | refine x'g ?_ | refine x'h ?_ ?_ _ | refine x'i ?_ _ | refine x'j ?_ | refine x'k ?_ _ | refine x'l ?_ _ _ | refine x'm ?_ | assumption | (refine x'n ?_; omega) | omega)))
    have BW0 : BoxAt W (w.heap.size) #[.int .i64 a, .int .i64 b] := by rw [hW.out]; refine ⟨?_, fun j => ?_, fun j => ?_⟩ <;> go_simp
    obtain ⟨lW0, bW0, fW0⟩ := BW0
    have cW0_0 : W.cell? ⟨w.heap.size, 0, none⟩ = some (.int .i64 a) := bW0 0
    have cW0_1 : W.cell? ⟨w.heap.size, 1, none⟩ = some (.int .i64 b) := bW0 1
    have BW1 : BoxAt W (w.heap.size + 1) #[.int .i64 c, .int .i64 d] := by rw [hW.out]; refine ⟨?_, fun j => ?_, fun j => ?_⟩ <;> go_simp
    obtain ⟨lW1, bW1, fW1⟩ := BW1
    have cW1_0 : W.cell? ⟨w.heap.size + 1, 0, none⟩ = some (.int .i64 c) := bW1 0
    have cW1_1 : W.cell? ⟨w.heap.size + 1, 1, none⟩ = some (.int .i64 d) := bW1 1
    have BW2 : BoxAt W (w.heap.size + 1 + 1) #[.int .i64 0, .int .i64 0] := by rw [hW.out]; refine ⟨?_, fun j => ?_, fun j => ?_⟩ <;> go_simp
    obtain ⟨lW2, bW2, fW2⟩ := BW2
    have cW2_0 : W.cell? ⟨w.heap.size + 1 + 1, 0, none⟩ = some (.int .i64 0) := bW2 0
    have cW2_1 : W.cell? ⟨w.heap.size + 1 + 1, 1, none⟩ = some (.int .i64 0) := bW2 1
    clear hW
    go_wp2_with (first | (go_at_call 45; refine specIsValidRational_any.mono ?_; rintro e w1 ⟨rfl, hx1⟩; (first | rw [hv1] | rw [hv2]); obtain ⟨y, rfl⟩ := trans_ext (by first | exact refl_ext W | exact ⟨_, rfl⟩) hx1) | (go_at_call 90; refine (specNewRational_any (by omega) (by omega) (by omega) (by omega)).mono ?_; rintro e w1 ⟨rfl, hx1⟩; obtain ⟨y', rfl⟩ := trans_ext ⟨_, rfl⟩ hx1))
    exact bodyPost_ret (v := .tuple #[.agg #[.int .i64 0, .int .i64 0], .bool false]) (by simp [results, Try.results88, go_sem, lW2, bW2]) rfl ⟨rfl, (by refine x'z ?_; repeat (with_reducible (first | exact x'a _ _ | exact x'b _ | exact x'c (by assumption) | refine x'd ?_ (by assumption) | refine x'e ?_ _ | refine x'f ?_ _ | refine x'g ?_ | refine x'h ?_ ?_ _ | refine x'i ?_ _ | refine x'j ?_ | refine x'k ?_ _ | refine x'l ?_ _ _ | refine x'm ?_ | assumption | (refine x'n ?_; omega) | omega)))⟩
set_option maxHeartbeats 1000000 in
theorem DivRational_any {a b c d : Int} {w : World} :
    Calls Try.prog 52 #[.agg #[.int .i64 a, .int .i64 b], .agg #[.int .i64 c, .int .i64 d]] w fun e w' => e = .returned (.tuple #[.agg #[.int .i64 ((divR (a, b) (c, d)).getD (0, 0)).1, .int .i64 ((divR (a, b) (c, d)).getD (0, 0)).2], .bool (divR (a, b) (c, d)).isSome]) ∧ ∃ y, w' = ext w y := by
  by_cases hv1 : isVR (a, b) = true
  · by_cases hv2 : isVR (c, d) = true
    · have hv : (isVR (a, b) && isVR (c, d)) = true := by rw [hv1, hv2]; rfl
      have HA := Lib.hid (show divR (a, b) (c, d) = newR (a * d) (b * c) by unfold divR; rw [if_pos hv])
      have v1 := isVR_t hv1
      have v2 := isVR_t hv2
      dsimp only at v1 v2
      obtain ⟨p1, p2, p3, p4, _⟩ := v1
      obtain ⟨q1, q2, q3, q4, _⟩ := v2
      obtain ⟨m0, n0⟩ := mul_bd (x := a) (y := d) (by omega) (by omega) (by omega) (by omega)
      obtain ⟨m1, n1⟩ := mul_bd (x := b) (y := c) (by omega) (by omega) (by omega) (by omega)
      by_cases hz : c = 0
      · have H0 := Lib.hid (show divR (a, b) (c, d) = none by rw [HA.out, hz, Int.mul_zero, newR_zero])
        have hc : (c == 0) = true := by simp [hz]
        clear hz
        rw [H0.out]
        go_enter Try.func52, Try.ntmps52
        go_upto_region 1 with fail
        refine wp_name ?_
        intro W hW
        have xW : ∃ y, W = ext w y := by rw [hW.out]; exact (by refine x'z ?_; repeat (with_reducible (first | exact x'a _ _ | exact x'b _ | exact x'c (by assumption) | refine x'd ?_ (by assumption) | refine x'e ?_ _ | refine x'f ?_ _ | refine x'g ?_ | refine x'h ?_ ?_ _ | refine x'i ?_ _ | refine x'j ?_ | refine x'k ?_ _ | refine x'l ?_ _ _ | refine x'm ?_ | assumption | (refine x'n ?_; omega) | omega)))
        have BW0 : BoxAt W (w.heap.size) #[.int .i64 a, .int .i64 b] := by rw [hW.out]; refine ⟨?_, fun j => ?_, fun j => ?_⟩ <;> go_simp
        obtain ⟨lW0, bW0, fW0⟩ := BW0
        have cW0_0 : W.cell? ⟨w.heap.size, 0, none⟩ = some (.int .i64 a) := bW0 0
        have cW0_1 : W.cell? ⟨w.heap.size, 1, none⟩ = some (.int .i64 b) := bW0 1
        have BW1 : BoxAt W (w.heap.size + 1) #[.int .i64 c, .int .i64 d] := by rw [hW.out]; refine ⟨?_, fun j => ?_, fun j => ?_⟩ <;> go_simp
        obtain ⟨lW1, bW1, fW1⟩ := BW1
        have cW1_0 : W.cell? ⟨w.heap.size + 1, 0, none⟩ = some (.int .i64 c) := bW1 0
        have cW1_1 : W.cell? ⟨w.heap.size + 1, 1, none⟩ = some (.int .i64 d) := bW1 1
        have BW2 : BoxAt W (w.heap.size + 1 + 1) #[.int .i64 0, .int .i64 0] := by rw [hW.out]; refine ⟨?_, fun j => ?_, fun j => ?_⟩ <;> go_simp
        obtain ⟨lW2, bW2, fW2⟩ := BW2
        have cW2_0 : W.cell? ⟨w.heap.size + 1 + 1, 0, none⟩ = some (.int .i64 0) := bW2 0
        have cW2_1 : W.cell? ⟨w.heap.size + 1 + 1, 1, none⟩ = some (.int .i64 0) := bW2 1
        clear hW
        go_wp2_with (first | (go_at_call 94; refine bothValid_any.mono ?_; rintro e w1 ⟨rfl, y, rfl⟩; rw [hv]) | (go_at_call 95; refine (NewRational_any (by omega) (by omega) (by omega) (by omega)).mono ?_; rintro e w1 ⟨rfl, hx1⟩; obtain ⟨y', rfl⟩ := trans_ext ⟨_, rfl⟩ hx1))
        exact bodyPost_ret (v := .tuple #[.agg #[.int .i64 0, .int .i64 0], .bool false]) (by simp [results, Try.results52, go_sem, lW2, bW2]) rfl ⟨rfl, (by refine x'z ?_; repeat (with_reducible (first | exact x'a _ _ | exact x'b _ | exact x'c (by assumption) | refine x'd ?_ (by assumption) | refine x'e ?_ _ | refine x'f ?_ _ | refine x'g ?_ | refine x'h ?_ ?_ _ | refine x'i ?_ _ | refine x'j ?_ | refine x'k ?_ _ | refine x'l ?_ _ _ | refine x'm ?_ | assumption | (refine x'n ?_; omega) | omega)))⟩
      · have hc : (c == 0) = false := by simp [hz]
        clear hz
        rw [HA.out]
        go_enter Try.func52, Try.ntmps52
        go_upto_region 1 with fail
        refine wp_name ?_
        intro W hW
        have xW : ∃ y, W = ext w y := by rw [hW.out]; exact (by refine x'z ?_; repeat (with_reducible (first | exact x'a _ _ | exact x'b _ | exact x'c (by assumption) | refine x'd ?_ (by assumption) | refine x'e ?_ _ | refine x'f ?_ _ | refine x'g ?_ | refine x'h ?_ ?_ _ | refine x'i ?_ _ | refine x'j ?_ | refine x'k ?_ _ | refine x'l ?_ _ _ | refine x'm ?_ | assumption | (refine x'n ?_; omega) | omega)))
        have BW0 : BoxAt W (w.heap.size) #[.int .i64 a, .int .i64 b] := by rw [hW.out]; refine ⟨?_, fun j => ?_, fun j => ?_⟩ <;> go_simp
        obtain ⟨lW0, bW0, fW0⟩ := BW0
        have cW0_0 : W.cell? ⟨w.heap.size, 0, none⟩ = some (.int .i64 a) := bW0 0
        have cW0_1 : W.cell? ⟨w.heap.size, 1, none⟩ = some (.int .i64 b) := bW0 1
        have BW1 : BoxAt W (w.heap.size + 1) #[.int .i64 c, .int .i64 d] := by rw [hW.out]; refine ⟨?_, fun j => ?_, fun j => ?_⟩ <;> go_simp
        obtain ⟨lW1, bW1, fW1⟩ := BW1
        have cW1_0 : W.cell? ⟨w.heap.size + 1, 0, none⟩ = some (.int .i64 c) := bW1 0
        have cW1_1 : W.cell? ⟨w.heap.size + 1, 1, none⟩ = some (.int .i64 d) := bW1 1
        have BW2 : BoxAt W (w.heap.size + 1 + 1) #[.int .i64 0, .int .i64 0] := by rw [hW.out]; refine ⟨?_, fun j => ?_, fun j => ?_⟩ <;> go_simp
        obtain ⟨lW2, bW2, fW2⟩ := BW2
        have cW2_0 : W.cell? ⟨w.heap.size + 1 + 1, 0, none⟩ = some (.int .i64 0) := bW2 0
        have cW2_1 : W.cell? ⟨w.heap.size + 1 + 1, 1, none⟩ = some (.int .i64 0) := bW2 1
        clear hW
        go_wp2_with (first | (go_at_call 94; refine bothValid_any.mono ?_; rintro e w1 ⟨rfl, y, rfl⟩; rw [hv]) | (go_at_call 95; refine (NewRational_any (by omega) (by omega) (by omega) (by omega)).mono ?_; rintro e w1 ⟨rfl, hx1⟩; obtain ⟨y', rfl⟩ := trans_ext ⟨_, rfl⟩ hx1))
        exact bodyPost_ret (v := .tuple #[.agg #[.int .i64 ((newR (a * d) (b * c)).getD (0, 0)).1, .int .i64 ((newR (a * d) (b * c)).getD (0, 0)).2], .bool (newR (a * d) (b * c)).isSome]) (by simp [results, Try.results52, go_sem, lW2, bW2]) rfl ⟨rfl, (by refine x'z ?_; repeat (with_reducible (first | exact x'a _ _ | exact x'b _ | exact x'c (by assumption) | refine x'd ?_ (by assumption) | refine x'e ?_ _ | refine x'f ?_ _ | refine x'g ?_ | refine x'h ?_ ?_ _ | refine x'i ?_ _ | refine x'j ?_ | refine x'k ?_ _ | refine x'l ?_ _ _ | refine x'm ?_ | assumption | (refine x'n ?_; omega) | omega)))⟩
    · have hv : (isVR (a, b) && isVR (c, d)) = false := by simp [hv2]
      rw [show divR (a, b) (c, d) = none by unfold divR; rw [if_neg (by simp [hv])]]
      go_enter Try.func52, Try.ntmps52
      go_upto_region 1 with fail
      refine wp_name ?_
      intro W hW
      have xW : ∃ y, W = ext w y := by rw [hW.out]; exact (by refine x'z ?_; repeat (with_reducible (first | exact x'a _ _ | exact x'b _ | exact x'c (by assumption) | refine x'd ?_ (by assumption) | refine x'e ?_ _ | refine x'f ?_ _ | refine x'g ?_ | refine x'h ?_ ?_ _ | refine x'i ?_ _ | refine x'j ?_ | refine x'k ?_ _ | refine x'l ?_ _ _ | refine x'm ?_ | assumption | (refine x'n ?_; omega) | omega)))
      have BW0 : BoxAt W (w.heap.size) #[.int .i64 a, .int .i64 b] := by rw [hW.out]; refine ⟨?_, fun j => ?_, fun j => ?_⟩ <;> go_simp
      obtain ⟨lW0, bW0, fW0⟩ := BW0
      have cW0_0 : W.cell? ⟨w.heap.size, 0, none⟩ = some (.int .i64 a) := bW0 0
      have cW0_1 : W.cell? ⟨w.heap.size, 1, none⟩ = some (.int .i64 b) := bW0 1
      have BW1 : BoxAt W (w.heap.size + 1) #[.int .i64 c, .int .i64 d] := by rw [hW.out]; refine ⟨?_, fun j => ?_, fun j => ?_⟩ <;> go_simp
      obtain ⟨lW1, bW1, fW1⟩ := BW1
      have cW1_0 : W.cell? ⟨w.heap.size + 1, 0, none⟩ = some (.int .i64 c) := bW1 0
      have cW1_1 : W.cell? ⟨w.heap.size + 1, 1, none⟩ = some (.int .i64 d) := bW1 1
      have BW2 : BoxAt W (w.heap.size + 1 + 1) #[.int .i64 0, .int .i64 0] := by rw [hW.out]; refine ⟨?_, fun j => ?_, fun j => ?_⟩ <;> go_simp
      obtain ⟨lW2, bW2, fW2⟩ := BW2
      have cW2_0 : W.cell? ⟨w.heap.size + 1 + 1, 0, none⟩ = some (.int .i64 0) := bW2 0
      have cW2_1 : W.cell? ⟨w.heap.size + 1 + 1, 1, none⟩ = some (.int .i64 0) := bW2 1
      clear hW
      go_wp2_with (first | (go_at_call 94; refine bothValid_any.mono ?_; rintro e w1 ⟨rfl, y, rfl⟩; rw [hv]) | (go_at_call 95; refine (NewRational_any (by omega) (by omega) (by omega) (by omega)).mono ?_; rintro e w1 ⟨rfl, hx1⟩; obtain ⟨y', rfl⟩ := trans_ext ⟨_, rfl⟩ hx1))
      exact bodyPost_ret (v := .tuple #[.agg #[.int .i64 0, .int .i64 0], .bool false]) (by simp [results, Try.results52, go_sem, lW2, bW2]) rfl ⟨rfl, (by refine x'z ?_; repeat (with_reducible (first | exact x'a _ _ | exact x'b _ | exact x'c (by assumption) | refine x'd ?_ (by assumption) | refine x'e ?_ _ | refine x'f ?_ _ | refine x'g ?_ | refine x'h ?_ ?_ _ | refine x'i ?_ _ | refine x'j ?_ | refine x'k ?_ _ | refine x'l ?_ _ _ | refine x'm ?_ | assumption | (refine x'n ?_; omega) | omega)))⟩
  · have hv : (isVR (a, b) && isVR (c, d)) = false := by simp [hv1]
    rw [show divR (a, b) (c, d) = none by unfold divR; rw [if_neg (by simp [hv])]]
    go_enter Try.func52, Try.ntmps52
    go_upto_region 1 with fail
    refine wp_name ?_
    intro W hW
    have xW : ∃ y, W = ext w y := by rw [hW.out]; exact (by refine x'z ?_; repeat (with_reducible (first | exact x'a _ _ | exact x'b _ | exact x'c (by assumption) | refine x'd ?_ (by assumption) | refine x'e ?_ _ | refine x'f ?_ _ | refine x'g ?_ | refine x'h ?_ ?_ _ | refine x'i ?_ _ | refine x'j ?_ | refine x'k ?_ _ | refine x'l ?_ _ _ | refine x'm ?_ | assumption | (refine x'n ?_; omega) | omega)))
    have BW0 : BoxAt W (w.heap.size) #[.int .i64 a, .int .i64 b] := by rw [hW.out]; refine ⟨?_, fun j => ?_, fun j => ?_⟩ <;> go_simp
    obtain ⟨lW0, bW0, fW0⟩ := BW0
    have cW0_0 : W.cell? ⟨w.heap.size, 0, none⟩ = some (.int .i64 a) := bW0 0
    have cW0_1 : W.cell? ⟨w.heap.size, 1, none⟩ = some (.int .i64 b) := bW0 1
    have BW1 : BoxAt W (w.heap.size + 1) #[.int .i64 c, .int .i64 d] := by rw [hW.out]; refine ⟨?_, fun j => ?_, fun j => ?_⟩ <;> go_simp
    obtain ⟨lW1, bW1, fW1⟩ := BW1
    have cW1_0 : W.cell? ⟨w.heap.size + 1, 0, none⟩ = some (.int .i64 c) := bW1 0
    have cW1_1 : W.cell? ⟨w.heap.size + 1, 1, none⟩ = some (.int .i64 d) := bW1 1
    have BW2 : BoxAt W (w.heap.size + 1 + 1) #[.int .i64 0, .int .i64 0] := by rw [hW.out]; refine ⟨?_, fun j => ?_, fun j => ?_⟩ <;> go_simp
    obtain ⟨lW2, bW2, fW2⟩ := BW2
    have cW2_0 : W.cell? ⟨w.heap.size + 1 + 1, 0, none⟩ = some (.int .i64 0) := bW2 0
    have cW2_1 : W.cell? ⟨w.heap.size + 1 + 1, 1, none⟩ = some (.int .i64 0) := bW2 1
    clear hW
    go_wp2_with (first | (go_at_call 94; refine bothValid_any.mono ?_; rintro e w1 ⟨rfl, y, rfl⟩; rw [hv]) | (go_at_call 95; refine (NewRational_any (by omega) (by omega) (by omega) (by omega)).mono ?_; rintro e w1 ⟨rfl, hx1⟩; obtain ⟨y', rfl⟩ := trans_ext ⟨_, rfl⟩ hx1))
    exact bodyPost_ret (v := .tuple #[.agg #[.int .i64 0, .int .i64 0], .bool false]) (by simp [results, Try.results52, go_sem, lW2, bW2]) rfl ⟨rfl, (by refine x'z ?_; repeat (with_reducible (first | exact x'a _ _ | exact x'b _ | exact x'c (by assumption) | refine x'd ?_ (by assumption) | refine x'e ?_ _ | refine x'f ?_ _ | refine x'g ?_ | refine x'h ?_ ?_ _ | refine x'i ?_ _ | refine x'j ?_ | refine x'k ?_ _ | refine x'l ?_ _ _ | refine x'm ?_ | assumption | (refine x'n ?_; omega) | omega)))⟩
set_option maxHeartbeats 1000000 in
theorem specDivRational_any {a b c d : Int} {w : World} :
    Calls Try.prog 47 #[.agg #[.int .i64 a, .int .i64 b], .agg #[.int .i64 c, .int .i64 d]] w fun e w' => e = .returned (.tuple #[.agg #[.int .i64 ((divR (a, b) (c, d)).getD (0, 0)).1, .int .i64 ((divR (a, b) (c, d)).getD (0, 0)).2], .bool (divR (a, b) (c, d)).isSome]) ∧ ∃ y, w' = ext w y := by
  by_cases hv1 : isVR (a, b) = true
  · by_cases hv2 : isVR (c, d) = true
    · have hv : (isVR (a, b) && isVR (c, d)) = true := by rw [hv1, hv2]; rfl
      have HA := Lib.hid (show divR (a, b) (c, d) = newR (a * d) (b * c) by unfold divR; rw [if_pos hv])
      have v1 := isVR_t hv1
      have v2 := isVR_t hv2
      dsimp only at v1 v2
      obtain ⟨p1, p2, p3, p4, _⟩ := v1
      obtain ⟨q1, q2, q3, q4, _⟩ := v2
      obtain ⟨m0, n0⟩ := mul_bd (x := a) (y := d) (by omega) (by omega) (by omega) (by omega)
      obtain ⟨m1, n1⟩ := mul_bd (x := b) (y := c) (by omega) (by omega) (by omega) (by omega)
      rw [HA.out]
      go_enter Try.func47, Try.ntmps47
      go_upto_region 1 with fail
      refine wp_name ?_
      intro W hW
      have xW : ∃ y, W = ext w y := by rw [hW.out]; exact (by refine x'z ?_; repeat (with_reducible (first | exact x'a _ _ | exact x'b _ | exact x'c (by assumption) | refine x'd ?_ (by assumption) | refine x'e ?_ _ | refine x'f ?_ _ | refine x'g ?_ | refine x'h ?_ ?_ _ | refine x'i ?_ _ | refine x'j ?_ | refine x'k ?_ _ | refine x'l ?_ _ _ | refine x'm ?_ | assumption | (refine x'n ?_; omega) | omega)))
      have BW0 : BoxAt W (w.heap.size) #[.int .i64 a, .int .i64 b] := by rw [hW.out]; refine ⟨?_, fun j => ?_, fun j => ?_⟩ <;> go_simp
      obtain ⟨lW0, bW0, fW0⟩ := BW0
      have cW0_0 : W.cell? ⟨w.heap.size, 0, none⟩ = some (.int .i64 a) := bW0 0
      have cW0_1 : W.cell? ⟨w.heap.size, 1, none⟩ = some (.int .i64 b) := bW0 1
      have BW1 : BoxAt W (w.heap.size + 1) #[.int .i64 c, .int .i64 d] := by rw [hW.out]; refine ⟨?_, fun j => ?_, fun j => ?_⟩ <;> go_simp
      obtain ⟨lW1, bW1, fW1⟩ := BW1
      have cW1_0 : W.cell? ⟨w.heap.size + 1, 0, none⟩ = some (.int .i64 c) := bW1 0
      have cW1_1 : W.cell? ⟨w.heap.size + 1, 1, none⟩ = some (.int .i64 d) := bW1 1
      have BW2 : BoxAt W (w.heap.size + 1 + 1) #[.int .i64 0, .int .i64 0] := by rw [hW.out]; refine ⟨?_, fun j => ?_, fun j => ?_⟩ <;> go_simp
      obtain ⟨lW2, bW2, fW2⟩ := BW2
      have cW2_0 : W.cell? ⟨w.heap.size + 1 + 1, 0, none⟩ = some (.int .i64 0) := bW2 0
      have cW2_1 : W.cell? ⟨w.heap.size + 1 + 1, 1, none⟩ = some (.int .i64 0) := bW2 1
      clear hW
      go_wp2_with (first | (go_at_call 45; refine specIsValidRational_any.mono ?_; rintro e w1 ⟨rfl, hx1⟩; (first | rw [hv1] | rw [hv2]); obtain ⟨y, rfl⟩ := trans_ext (by first | exact refl_ext W | exact ⟨_, rfl⟩) hx1) | (go_at_call 90; refine (specNewRational_any (by omega) (by omega) (by omega) (by omega)).mono ?_; rintro e w1 ⟨rfl, hx1⟩; obtain ⟨y', rfl⟩ := trans_ext ⟨_, rfl⟩ hx1))
      exact bodyPost_ret (v := .tuple #[.agg #[.int .i64 ((newR (a * d) (b * c)).getD (0, 0)).1, .int .i64 ((newR (a * d) (b * c)).getD (0, 0)).2], .bool (newR (a * d) (b * c)).isSome]) (by simp [results, Try.results47, go_sem, lW2, bW2]) rfl ⟨rfl, (by refine x'z ?_; repeat (with_reducible (first | exact x'a _ _ | exact x'b _ | exact x'c (by assumption) | refine x'd ?_ (by assumption) | refine x'e ?_ _ | refine x'f ?_ _ | refine x'g ?_ | refine x'h ?_ ?_ _ | refine x'i ?_ _ | refine x'j ?_ | refine x'k ?_ _ | refine x'l ?_ _ _ | refine x'm ?_ | assumption | (refine x'n ?_; omega) | omega)))⟩
    · have hv : (isVR (a, b) && isVR (c, d)) = false := by simp [hv2]
      have hv2 : isVR (c, d) = false := by simpa using hv2
      rw [show divR (a, b) (c, d) = none by unfold divR; rw [if_neg (by simp [hv])]]
      go_enter Try.func47, Try.ntmps47
      go_upto_region 1 with fail
      refine wp_name ?_
      intro W hW
      have xW : ∃ y, W = ext w y := by rw [hW.out]; exact (by refine x'z ?_; repeat (with_reducible (first | exact x'a _ _ | exact x'b _ | exact x'c (by assumption) | refine x'd ?_ (by assumption) | refine x'e ?_ _ | refine x'f ?_ _ | refine x'g ?_ | refine x'h ?_ ?_ _ | refine x'i ?_ _ | refine x'j ?_ | refine x'k ?_ _ | refine x'l ?_ _ _ | refine x'm ?_ | assumption | (refine x'n ?_; omega) | omega)))
      have BW0 : BoxAt W (w.heap.size) #[.int .i64 a, .int .i64 b] := by rw [hW.out]; refine ⟨?_, fun j => ?_, fun j => ?_⟩ <;> go_simp
      obtain ⟨lW0, bW0, fW0⟩ := BW0
      have cW0_0 : W.cell? ⟨w.heap.size, 0, none⟩ = some (.int .i64 a) := bW0 0
      have cW0_1 : W.cell? ⟨w.heap.size, 1, none⟩ = some (.int .i64 b) := bW0 1
      have BW1 : BoxAt W (w.heap.size + 1) #[.int .i64 c, .int .i64 d] := by rw [hW.out]; refine ⟨?_, fun j => ?_, fun j => ?_⟩ <;> go_simp
      obtain ⟨lW1, bW1, fW1⟩ := BW1
      have cW1_0 : W.cell? ⟨w.heap.size + 1, 0, none⟩ = some (.int .i64 c) := bW1 0
      have cW1_1 : W.cell? ⟨w.heap.size + 1, 1, none⟩ = some (.int .i64 d) := bW1 1
      have BW2 : BoxAt W (w.heap.size + 1 + 1) #[.int .i64 0, .int .i64 0] := by rw [hW.out]; refine ⟨?_, fun j => ?_, fun j => ?_⟩ <;> go_simp
      obtain ⟨lW2, bW2, fW2⟩ := BW2
      have cW2_0 : W.cell? ⟨w.heap.size + 1 + 1, 0, none⟩ = some (.int .i64 0) := bW2 0
      have cW2_1 : W.cell? ⟨w.heap.size + 1 + 1, 1, none⟩ = some (.int .i64 0) := bW2 1
      clear hW
      go_wp2_with (first | (go_at_call 45; refine specIsValidRational_any.mono ?_; rintro e w1 ⟨rfl, hx1⟩; (first | rw [hv1] | rw [hv2]); obtain ⟨y, rfl⟩ := trans_ext (by first | exact refl_ext W | exact ⟨_, rfl⟩) hx1) | (go_at_call 90; refine (specNewRational_any (by omega) (by omega) (by omega) (by omega)).mono ?_; rintro e w1 ⟨rfl, hx1⟩; obtain ⟨y', rfl⟩ := trans_ext ⟨_, rfl⟩ hx1))
      exact bodyPost_ret (v := .tuple #[.agg #[.int .i64 0, .int .i64 0], .bool false]) (by simp [results, Try.results47, go_sem, lW2, bW2]) rfl ⟨rfl, (by refine x'z ?_; repeat (with_reducible (first | exact x'a _ _ | exact x'b _ | exact x'c (by assumption) | refine x'd ?_ (by assumption) | refine x'e ?_ _ | refine x'f ?_ _ | refine x'g ?_ | refine x'h ?_ ?_ _ | refine x'i ?_ _ | refine x'j ?_ | refine x'k ?_ _ | refine x'l ?_ _ _ | refine x'm ?_ | assumption | (refine x'n ?_; omega) | omega)))⟩
  · have hv : (isVR (a, b) && isVR (c, d)) = false := by simp [hv1]
    have hv1 : isVR (a, b) = false := by simpa using hv1
    rw [show divR (a, b) (c, d) = none by unfold divR; rw [if_neg (by simp [hv])]]
    go_enter Try.func47, Try.ntmps47
    go_upto_region 1 with fail
    refine wp_name ?_
    intro W hW
    have xW : ∃ y, W = ext w y := by rw [hW.out]; exact (by refine x'z ?_; repeat (with_reducible (first | exact x'a _ _ | exact x'b _ | exact x'c (by assumption) | refine x'd ?_ (by assumption) | refine x'e ?_ _ | refine x'f ?_ _ | refine x'g ?_ | refine x'h ?_ ?_ _ | refine x'i ?_ _ | refine x'j ?_ | refine x'k ?_ _ | refine x'l ?_ _ _ | refine x'm ?_ | assumption | (refine x'n ?_; omega) | omega)))
    have BW0 : BoxAt W (w.heap.size) #[.int .i64 a, .int .i64 b] := by rw [hW.out]; refine ⟨?_, fun j => ?_, fun j => ?_⟩ <;> go_simp
    obtain ⟨lW0, bW0, fW0⟩ := BW0
    have cW0_0 : W.cell? ⟨w.heap.size, 0, none⟩ = some (.int .i64 a) := bW0 0
    have cW0_1 : W.cell? ⟨w.heap.size, 1, none⟩ = some (.int .i64 b) := bW0 1
    have BW1 : BoxAt W (w.heap.size + 1) #[.int .i64 c, .int .i64 d] := by rw [hW.out]; refine ⟨?_, fun j => ?_, fun j => ?_⟩ <;> go_simp
    obtain ⟨lW1, bW1, fW1⟩ := BW1
    have cW1_0 : W.cell? ⟨w.heap.size + 1, 0, none⟩ = some (.int .i64 c) := bW1 0
    have cW1_1 : W.cell? ⟨w.heap.size + 1, 1, none⟩ = some (.int .i64 d) := bW1 1
    have BW2 : BoxAt W (w.heap.size + 1 + 1) #[.int .i64 0, .int .i64 0] := by rw [hW.out]; refine ⟨?_, fun j => ?_, fun j => ?_⟩ <;> go_simp
    obtain ⟨lW2, bW2, fW2⟩ := BW2
    have cW2_0 : W.cell? ⟨w.heap.size + 1 + 1, 0, none⟩ = some (.int .i64 0) := bW2 0
    have cW2_1 : W.cell? ⟨w.heap.size + 1 + 1, 1, none⟩ = some (.int .i64 0) := bW2 1
    clear hW
    go_wp2_with (first | (go_at_call 45; refine specIsValidRational_any.mono ?_; rintro e w1 ⟨rfl, hx1⟩; (first | rw [hv1] | rw [hv2]); obtain ⟨y, rfl⟩ := trans_ext (by first | exact refl_ext W | exact ⟨_, rfl⟩) hx1) | (go_at_call 90; refine (specNewRational_any (by omega) (by omega) (by omega) (by omega)).mono ?_; rintro e w1 ⟨rfl, hx1⟩; obtain ⟨y', rfl⟩ := trans_ext ⟨_, rfl⟩ hx1))
    exact bodyPost_ret (v := .tuple #[.agg #[.int .i64 0, .int .i64 0], .bool false]) (by simp [results, Try.results47, go_sem, lW2, bW2]) rfl ⟨rfl, (by refine x'z ?_; repeat (with_reducible (first | exact x'a _ _ | exact x'b _ | exact x'c (by assumption) | refine x'd ?_ (by assumption) | refine x'e ?_ _ | refine x'f ?_ _ | refine x'g ?_ | refine x'h ?_ ?_ _ | refine x'i ?_ _ | refine x'j ?_ | refine x'k ?_ _ | refine x'l ?_ _ _ | refine x'm ?_ | assumption | (refine x'n ?_; omega) | omega)))⟩
set_option maxHeartbeats 1000000 in
theorem specSubRational_any {a b c d : Int} {w : World} :
    Calls Try.prog 89 #[.agg #[.int .i64 a, .int .i64 b], .agg #[.int .i64 c, .int .i64 d]] w fun e w' => e = .returned (.tuple #[.agg #[.int .i64 ((subR (a, b) (c, d)).getD (0, 0)).1, .int .i64 ((subR (a, b) (c, d)).getD (0, 0)).2], .bool (subR (a, b) (c, d)).isSome]) ∧ ∃ y, w' = ext w y := by
  by_cases hv2 : isVR (c, d) = true
  · have v2 := isVR_t hv2
    dsimp only at v2
    obtain ⟨q1, q2, q3, q4, _⟩ := v2
    rw [show subR (a, b) (c, d) = addR (a, b) (-c, d) by unfold subR; rw [if_pos hv2]]
    go_enter Try.func89, Try.ntmps89
    go_upto_region 1 with fail
    refine wp_name ?_
    intro W hW
    have xW : ∃ y, W = ext w y := by rw [hW.out]; exact (by refine x'z ?_; repeat (with_reducible (first | exact x'a _ _ | exact x'b _ | exact x'c (by assumption) | refine x'd ?_ (by assumption) | refine x'e ?_ _ | refine x'f ?_ _ | refine x'g ?_ | refine x'h ?_ ?_ _ | refine x'i ?_ _ | refine x'j ?_ | refine x'k ?_ _ | refine x'l ?_ _ _ | refine x'm ?_ | assumption | (refine x'n ?_; omega) | omega)))
    have BW0 : BoxAt W (w.heap.size) #[.int .i64 a, .int .i64 b] := by rw [hW.out]; refine ⟨?_, fun j => ?_, fun j => ?_⟩ <;> go_simp
    obtain ⟨lW0, bW0, fW0⟩ := BW0
    have cW0_0 : W.cell? ⟨w.heap.size, 0, none⟩ = some (.int .i64 a) := bW0 0
    have cW0_1 : W.cell? ⟨w.heap.size, 1, none⟩ = some (.int .i64 b) := bW0 1
    have BW1 : BoxAt W (w.heap.size + 1) #[.int .i64 c, .int .i64 d] := by rw [hW.out]; refine ⟨?_, fun j => ?_, fun j => ?_⟩ <;> go_simp
    obtain ⟨lW1, bW1, fW1⟩ := BW1
    have cW1_0 : W.cell? ⟨w.heap.size + 1, 0, none⟩ = some (.int .i64 c) := bW1 0
    have cW1_1 : W.cell? ⟨w.heap.size + 1, 1, none⟩ = some (.int .i64 d) := bW1 1
    have BW2 : BoxAt W (w.heap.size + 1 + 1) #[.int .i64 0, .int .i64 0] := by rw [hW.out]; refine ⟨?_, fun j => ?_, fun j => ?_⟩ <;> go_simp
    obtain ⟨lW2, bW2, fW2⟩ := BW2
    have cW2_0 : W.cell? ⟨w.heap.size + 1 + 1, 0, none⟩ = some (.int .i64 0) := bW2 0
    have cW2_1 : W.cell? ⟨w.heap.size + 1 + 1, 1, none⟩ = some (.int .i64 0) := bW2 1
    clear hW
    go_wp2_with (first | (go_at_call 45; refine specIsValidRational_any.mono ?_; rintro e w1 ⟨rfl, y, rfl⟩; rw [hv2]) | (go_at_call 109; refine specAddRational_any.mono ?_; rintro e w1 ⟨rfl, hx1⟩; obtain ⟨y', rfl⟩ := trans_ext ⟨_, rfl⟩ hx1))
    exact bodyPost_ret (v := .tuple #[.agg #[.int .i64 ((addR (a, b) (-c, d)).getD (0, 0)).1, .int .i64 ((addR (a, b) (-c, d)).getD (0, 0)).2], .bool (addR (a, b) (-c, d)).isSome]) (by simp [results, Try.results89, go_sem, lW2, bW2]) rfl ⟨rfl, (by refine x'z ?_; repeat (with_reducible (first | exact x'a _ _ | exact x'b _ | exact x'c (by assumption) | refine x'd ?_ (by assumption) | refine x'e ?_ _ | refine x'f ?_ _ | refine x'g ?_ | refine x'h ?_ ?_ _ | refine x'i ?_ _ | refine x'j ?_ | refine x'k ?_ _ | refine x'l ?_ _ _ | refine x'm ?_ | assumption | (refine x'n ?_; omega) | omega)))⟩
  · have hv2 : isVR (c, d) = false := by simpa using hv2
    rw [show subR (a, b) (c, d) = none by unfold subR; rw [if_neg (by simp [hv2])]]
    go_enter Try.func89, Try.ntmps89
    go_upto_region 1 with fail
    refine wp_name ?_
    intro W hW
    have xW : ∃ y, W = ext w y := by rw [hW.out]; exact (by refine x'z ?_; repeat (with_reducible (first | exact x'a _ _ | exact x'b _ | exact x'c (by assumption) | refine x'd ?_ (by assumption) | refine x'e ?_ _ | refine x'f ?_ _ | refine x'g ?_ | refine x'h ?_ ?_ _ | refine x'i ?_ _ | refine x'j ?_ | refine x'k ?_ _ | refine x'l ?_ _ _ | refine x'm ?_ | assumption | (refine x'n ?_; omega) | omega)))
    have BW0 : BoxAt W (w.heap.size) #[.int .i64 a, .int .i64 b] := by rw [hW.out]; refine ⟨?_, fun j => ?_, fun j => ?_⟩ <;> go_simp
    obtain ⟨lW0, bW0, fW0⟩ := BW0
    have cW0_0 : W.cell? ⟨w.heap.size, 0, none⟩ = some (.int .i64 a) := bW0 0
    have cW0_1 : W.cell? ⟨w.heap.size, 1, none⟩ = some (.int .i64 b) := bW0 1
    have BW1 : BoxAt W (w.heap.size + 1) #[.int .i64 c, .int .i64 d] := by rw [hW.out]; refine ⟨?_, fun j => ?_, fun j => ?_⟩ <;> go_simp
    obtain ⟨lW1, bW1, fW1⟩ := BW1
    have cW1_0 : W.cell? ⟨w.heap.size + 1, 0, none⟩ = some (.int .i64 c) := bW1 0
    have cW1_1 : W.cell? ⟨w.heap.size + 1, 1, none⟩ = some (.int .i64 d) := bW1 1
    have BW2 : BoxAt W (w.heap.size + 1 + 1) #[.int .i64 0, .int .i64 0] := by rw [hW.out]; refine ⟨?_, fun j => ?_, fun j => ?_⟩ <;> go_simp
    obtain ⟨lW2, bW2, fW2⟩ := BW2
    have cW2_0 : W.cell? ⟨w.heap.size + 1 + 1, 0, none⟩ = some (.int .i64 0) := bW2 0
    have cW2_1 : W.cell? ⟨w.heap.size + 1 + 1, 1, none⟩ = some (.int .i64 0) := bW2 1
    clear hW
    go_wp2_with (go_at_call 45; refine specIsValidRational_any.mono ?_; rintro e w1 ⟨rfl, y, rfl⟩; rw [hv2])
    exact bodyPost_ret (v := .tuple #[.agg #[.int .i64 0, .int .i64 0], .bool false]) (by simp [results, Try.results89, go_sem, lW2, bW2]) rfl ⟨rfl, (by refine x'z ?_; repeat (with_reducible (first | exact x'a _ _ | exact x'b _ | exact x'c (by assumption) | refine x'd ?_ (by assumption) | refine x'e ?_ _ | refine x'f ?_ _ | refine x'g ?_ | refine x'h ?_ ?_ _ | refine x'i ?_ _ | refine x'j ?_ | refine x'k ?_ _ | refine x'l ?_ _ _ | refine x'm ?_ | assumption | (refine x'n ?_; omega) | omega)))⟩
set_option maxHeartbeats 1000000 in
theorem SubRational_any {a b c d : Int} {w : World} (h1 : -9223372036854775807 ≤ c) (h2 : c ≤ 9223372036854775807) :
    Calls Try.prog 93 #[.agg #[.int .i64 a, .int .i64 b], .agg #[.int .i64 c, .int .i64 d]] w fun e w' => e = .returned (.tuple #[.agg #[.int .i64 ((subR (a, b) (c, d)).getD (0, 0)).1, .int .i64 ((subR (a, b) (c, d)).getD (0, 0)).2], .bool (subR (a, b) (c, d)).isSome]) ∧ ∃ y, w' = ext w y := by
  have HA := Lib.hid (show subR (a, b) (c, d) = addR (a, b) (-c, d) by
    unfold subR
    by_cases hv2 : isVR (c, d) = true
    · rw [if_pos hv2]
    · rw [if_neg hv2]; unfold addR; rw [isVR_neg, if_neg (by simp [hv2])])
  rw [HA.out]
  go_enter Try.func93, Try.ntmps93
  go_upto_region 1 with fail
  refine wp_name ?_
  intro W hW
  have xW : ∃ y, W = ext w y := by rw [hW.out]; exact (by refine x'z ?_; repeat (with_reducible (first | exact x'a _ _ | exact x'b _ | exact x'c (by assumption) | refine x'd ?_ (by assumption) | refine x'e ?_ _ | refine x'f ?_ _ | refine x'g ?_ | refine x'h ?_ ?_ _ | refine x'i ?_ _ | refine x'j ?_ | refine x'k ?_ _ | refine x'l ?_ _ _ | refine x'm ?_ | assumption | (refine x'n ?_; omega) | omega)))
  have BW0 : BoxAt W (w.heap.size) #[.int .i64 a, .int .i64 b] := by rw [hW.out]; refine ⟨?_, fun j => ?_, fun j => ?_⟩ <;> go_simp
  obtain ⟨lW0, bW0, fW0⟩ := BW0
  have cW0_0 : W.cell? ⟨w.heap.size, 0, none⟩ = some (.int .i64 a) := bW0 0
  have cW0_1 : W.cell? ⟨w.heap.size, 1, none⟩ = some (.int .i64 b) := bW0 1
  have BW1 : BoxAt W (w.heap.size + 1) #[.int .i64 c, .int .i64 d] := by rw [hW.out]; refine ⟨?_, fun j => ?_, fun j => ?_⟩ <;> go_simp
  obtain ⟨lW1, bW1, fW1⟩ := BW1
  have cW1_0 : W.cell? ⟨w.heap.size + 1, 0, none⟩ = some (.int .i64 c) := bW1 0
  have cW1_1 : W.cell? ⟨w.heap.size + 1, 1, none⟩ = some (.int .i64 d) := bW1 1
  have BW2 : BoxAt W (w.heap.size + 1 + 1) #[.int .i64 0, .int .i64 0] := by rw [hW.out]; refine ⟨?_, fun j => ?_, fun j => ?_⟩ <;> go_simp
  obtain ⟨lW2, bW2, fW2⟩ := BW2
  have cW2_0 : W.cell? ⟨w.heap.size + 1 + 1, 0, none⟩ = some (.int .i64 0) := bW2 0
  have cW2_1 : W.cell? ⟨w.heap.size + 1 + 1, 1, none⟩ = some (.int .i64 0) := bW2 1
  clear hW
  go_wp2_with ((go_at_call 99; refine AddRational_any.mono ?_; rintro e w1 ⟨rfl, y, rfl⟩))
  exact bodyPost_ret (v := .tuple #[.agg #[.int .i64 ((addR (a, b) (-c, d)).getD (0, 0)).1, .int .i64 ((addR (a, b) (-c, d)).getD (0, 0)).2], .bool (addR (a, b) (-c, d)).isSome]) (by simp [results, Try.results93, go_sem, lW2, bW2]) rfl ⟨rfl, (by refine x'z ?_; repeat (with_reducible (first | exact x'a _ _ | exact x'b _ | exact x'c (by assumption) | refine x'd ?_ (by assumption) | refine x'e ?_ _ | refine x'f ?_ _ | refine x'g ?_ | refine x'h ?_ ?_ _ | refine x'i ?_ _ | refine x'j ?_ | refine x'k ?_ _ | refine x'l ?_ _ _ | refine x'm ?_ | assumption | (refine x'n ?_; omega) | omega)))⟩
end Go.Proofs.Ytbjpkfgkmilkdaa
namespace Go.Proofs.Ytbjpkfgkmilkdaa
open Go.RowKit
theorem all_step {α : Type} {p : α → Bool} {xs : List α} {k : Nat} (h : k < xs.length) : (xs.drop k).all p = (p xs[k] && (xs.drop (k + 1)).all p) := by
  rw [List.drop_eq_getElem_cons h, List.all_cons]
theorem all_endk {α : Type} {p : α → Bool} {xs : List α} {k : Nat} (h : ¬ k < xs.length) : (xs.drop k).all p = true := by
  rw [List.drop_eq_nil_of_le (by omega)]; rfl
def allV (xs : List (Int × Int)) : Bool := xs.all isVR
set_option maxHeartbeats 400000 in
theorem allValid_any {A : Option Addr} {c : Nat} {xs : List (Int × Int)} {w : World} (hx : xs.length ≤ 1000000000) (h1 : RR w A xs) :
    Calls Try.prog 49 #[.slice A xs.length c] w fun e w' => e = .returned (.bool (allV xs)) ∧ ∃ y, w' = ext w y := by
  go_enter Try.func49, Try.ntmps49
  go_wp2
  go_loopw [7] (fun i wr => ∃ k : Nat, i = .int .i64 k ∧ k ≤ xs.length ∧ (xs.drop k).all isVR = allV xs ∧ ∃ y, wr = ext w y) (fun i _ => xs.length - (intOf i).toNat)
  case atStart => exact ⟨0, rfl, by omega, by simp [allV], refl_ext w⟩
  case round =>
    obtain ⟨k, rfl, hk, hj, hy⟩ := hrel
    have Hj := Lib.hid hj
    clear hj
    have h1' := h1.toExt hy
    by_cases hlt : k < xs.length
    · obtain ⟨b, o, rfl, hb, hc, hd⟩ := h1'.atR hlt
      have e := Hj.out
      rw [all_step hlt] at e
      cases hv : isVR xs[k] with
      | true =>
        rw [hv, Bool.true_and] at e
        have He := Lib.hid e
        have Hv := Lib.hid (show isVR (xs[k].1, xs[k].2) = true from hv)
        clear e hv
        go_wp2_with (go_at_call 91; refine IsValidRational_any.mono ?_; rintro e w1 ⟨rfl, y1, rfl⟩; rw [Hv.out])
        exact ⟨⟨k + 1, by go_num, by omega, He.out, (by refine x'z ?_; repeat (with_reducible (first | exact x'a _ _ | exact x'b _ | exact x'c (by assumption) | refine x'd ?_ (by assumption) | refine x'e ?_ _ | refine x'f ?_ _ | refine x'g ?_ | refine x'h ?_ ?_ _ | refine x'i ?_ _ | refine x'j ?_ | refine x'k ?_ _ | refine x'l ?_ _ _ | refine x'm ?_ | assumption | (refine x'n ?_; omega) | omega)))⟩, by simp [intOf]; omega⟩
      | false =>
        rw [hv, Bool.false_and] at e
        have He := Lib.hid e
        have Hv := Lib.hid (show isVR (xs[k].1, xs[k].2) = false from hv)
        clear e hv
        go_wp2_with (go_at_call 91; refine IsValidRational_any.mono ?_; rintro e w1 ⟨rfl, y1, rfl⟩; rw [Hv.out])
        go_ret
        exact ⟨by rw [← He.out]; rfl, (by refine x'z ?_; repeat (with_reducible (first | exact x'a _ _ | exact x'b _ | exact x'c (by assumption) | refine x'd ?_ (by assumption) | refine x'e ?_ _ | refine x'f ?_ _ | refine x'g ?_ | refine x'h ?_ ?_ _ | refine x'i ?_ _ | refine x'j ?_ | refine x'k ?_ _ | refine x'l ?_ _ _ | refine x'm ?_ | assumption | (refine x'n ?_; omega) | omega)))⟩
    · have e := Hj.out
      rw [all_endk hlt] at e
      have He := Lib.hid e
      clear e
      go_wp2
      go_ret
      exact ⟨by rw [← He.out]; rfl, hy⟩
def rowB (m : Nat) (r : List (Int × Int)) : Bool := decide (r.length = m) && allV r
def sqB (xs : List (List (Int × Int))) (n m : Nat) : Bool := xs.all (rowB m) && decide (xs.length = n)
theorem rowB_t {m : Nat} {r : List (Int × Int)} (h : rowB m r = true) : r.length = m ∧ allV r = true := by
  unfold rowB at h
  rw [Bool.and_eq_true] at h
  exact ⟨by simpa using h.1, h.2⟩
theorem rowB_len {m : Nat} {r : List (Int × Int)} (h : ¬ r.length = m) : rowB m r = false := by
  unfold rowB; rw [decide_eq_false h, Bool.false_and]
theorem rowB_eq {m : Nat} {r : List (Int × Int)} (h : r.length = m) : rowB m r = allV r := by
  unfold rowB; rw [decide_eq_true h, Bool.true_and]
theorem int_bnef {a b : Nat} (h : ¬ a = b) : ((a : Int) != (b : Int)) = true := by simp; omega
theorem int_bnet {a b : Nat} (h : a = b) : ((a : Int) != (b : Int)) = false := by simp; omega
set_option maxHeartbeats 1000000 in
theorem l13Square_any {A : Option Addr} {c n m : Nat} {xs : List (List (Int × Int))} {w : World} (hx : xs.length ≤ 1000000000) (h1 : RRR w A xs) (hxl : ∀ x ∈ xs, x.length ≤ 1000000000) (_hn : n ≤ 1000000000) (_hm : m ≤ 1000000000) :
    Calls Try.prog 44 #[.slice A xs.length c, .int .i64 n, .int .i64 m] w fun e w' => e = .returned (.bool (sqB xs n m)) ∧ ∃ y, w' = ext w y := by
  have Hxl := Lib.hid hxl
  clear hxl
  go_enter Try.func44, Try.ntmps44
  go_wp2
  go_loopw [7] (fun i wr => ∃ k : Nat, i = .int .i64 k ∧ k ≤ xs.length ∧ (xs.drop k).all (rowB m) = xs.all (rowB m) ∧ ∃ y, wr = ext w y) (fun i _ => xs.length - (intOf i).toNat)
  case atStart => exact ⟨0, rfl, by omega, by simp, refl_ext w⟩
  case round =>
    obtain ⟨k, rfl, hk, hj, hy⟩ := hrel
    have Hj := Lib.hid hj
    clear hj
    have h1' := h1.toExt hy
    by_cases hlt : k < xs.length
    · obtain ⟨b, o, A1, c1, rfl, hb, hc, hv⟩ := h1'.atV hlt
      have hle := Hxl.out xs[k] (List.getElem_mem hlt)
      have e := Hj.out
      rw [all_step hlt] at e
      by_cases hlm : xs[k].length = m
      · rw [rowB_eq hlm] at e
        have hq := int_bnet hlm
        have hl1 : xs[k].length ≤ m := by omega
        have hl2 : m ≤ xs[k].length := by omega
        have He := Lib.hid e
        clear e hlm
        go_wp2
        go_loopw [8] (fun i ws => ∃ j : Nat, i = .int .i64 j ∧ j ≤ xs[k].length ∧ (xs[k].drop j).all isVR = allV xs[k] ∧ ∃ y, ws = ext wr y) (fun i _ => xs[k].length - (intOf i).toNat)
        case atStart => exact ⟨0, rfl, by omega, by simp [allV], refl_ext _⟩
        case round =>
          obtain ⟨j, rfl, hk2, hj, hy2⟩ := hrel
          have Hj2 := Lib.hid hj
          clear hj
          obtain ⟨y2, rfl⟩ := hy2
          have hb2 := lt_ext (x := y2) hb
          by_cases hlt2 : j < xs[k].length
          · obtain ⟨b3, o3, rfl, hb3, hc3, hd3⟩ := (hv.ext (x := y2)).atR hlt2
            have e := Hj2.out
            rw [all_step hlt2] at e
            cases hvr : isVR xs[k][j] with
            | true =>
              rw [hvr, Bool.true_and] at e
              have He2 := Lib.hid e
              have Hv := Lib.hid (show isVR (xs[k][j].1, xs[k][j].2) = true from hvr)
              clear e hvr
              go_wp2_with (go_at_call 45; refine specIsValidRational_any.mono ?_; rintro e w1 ⟨rfl, y1, rfl⟩; rw [Hv.out])
              exact ⟨⟨j + 1, by go_num, by omega, He2.out, (by refine x'z ?_; repeat (with_reducible (first | exact x'a _ _ | exact x'b _ | exact x'c (by assumption) | refine x'd ?_ (by assumption) | refine x'e ?_ _ | refine x'f ?_ _ | refine x'g ?_ | refine x'h ?_ ?_ _ | refine x'i ?_ _ | refine x'j ?_ | refine x'k ?_ _ | refine x'l ?_ _ _ | refine x'm ?_ | assumption | (refine x'n ?_; omega) | omega)))⟩, by simp [intOf]; omega⟩
            | false =>
              rw [hvr, Bool.false_and] at e
              have e2 := He.out
              rw [← e, Bool.false_and] at e2
              have He2 := Lib.hid e2
              have Hv := Lib.hid (show isVR (xs[k][j].1, xs[k][j].2) = false from hvr)
              clear e e2 hvr
              go_wp2_with (go_at_call 45; refine specIsValidRational_any.mono ?_; rintro e w1 ⟨rfl, y1, rfl⟩; rw [Hv.out])
              go_ret
              exact ⟨by unfold sqB; rw [← He2.out]; rfl, trans_ext hy (by refine x'z ?_; repeat (with_reducible (first | exact x'a _ _ | exact x'b _ | exact x'c (by assumption) | refine x'd ?_ (by assumption) | refine x'e ?_ _ | refine x'f ?_ _ | refine x'g ?_ | refine x'h ?_ ?_ _ | refine x'i ?_ _ | refine x'j ?_ | refine x'k ?_ _ | refine x'l ?_ _ _ | refine x'm ?_ | assumption | (refine x'n ?_; omega) | omega)))⟩
          · have e := Hj2.out
            rw [all_endk hlt2] at e
            have e2 := He.out
            rw [← e, Bool.true_and] at e2
            have He2 := Lib.hid e2
            clear e e2
            go_wp2
            exact ⟨⟨k + 1, by go_num, by omega, He2.out, trans_ext hy ⟨_, rfl⟩⟩, by simp [intOf]; omega⟩
      · rw [rowB_len hlm, Bool.false_and] at e
        have hq := int_bnef hlm
        have He := Lib.hid e
        clear e hlm
        go_wp2
        go_ret
        exact ⟨by unfold sqB; rw [← He.out]; rfl, hy⟩
    · have e := Hj.out
      rw [all_endk hlt] at e
      have He := Lib.hid e
      clear e
      by_cases hn' : xs.length = n
      · have hq : ((xs.length : Int) == (n : Int)) = true := by simp [hn']
        have HN := Lib.hid hn'
        clear hn'
        go_wp2
        go_ret
        exact ⟨by unfold sqB; rw [← He.out, decide_eq_true HN.out]; rfl, hy⟩
      · have hq : ((xs.length : Int) == (n : Int)) = false := by simp; omega
        have HN := Lib.hid hn'
        clear hn'
        go_wp2
        go_ret
        exact ⟨by unfold sqB; rw [← He.out, decide_eq_false HN.out]; rfl, hy⟩
end Go.Proofs.Ytbjpkfgkmilkdaa
namespace Go.Proofs.Ytbjpkfgkmilkdaa
abbrev Q2 := Int × Int
def gq (r : List Q2) (k : Nat) : Q2 := r.getD k (0, 0)
def gr (m : List (List Q2)) (i : Nat) : List Q2 := m.getD i []
def elimS (f : Q2) (piv : List Q2) : Nat → Nat → List Q2 → Option (List Q2)
  | 0, _, cur => some cur
  | n + 1, k, cur => match mulR f (gq piv k) with
    | none => none
    | some x => match subR (gq cur k) x with
      | none => none
      | some y => elimS f piv n (k + 1) (cur.set k y)
def elimO (p : Nat) (piv row : List Q2) : Option Q2 → Option (List Q2)
  | none => none
  | some f => elimS f piv (row.length - p) p row
def elimR (p : Nat) (piv row : List Q2) : Option (List Q2) := elimO p piv row (divR (gq row p) (gq piv p))
theorem newR_valid {n d : Int} {r : Q2} (h : newR n d = some r) : isVR r = true := by
  unfold newR at h
  split at h
  · cases h
  · split at h
    · split at h
      · rename_i hv; injection h with h; rw [← h]; exact hv
      · cases h
    · split at h
      · rename_i hv; injection h with h; rw [← h]; exact hv
      · cases h
theorem mulR_b {a b x : Q2} (h : mulR a b = some x) : -1000000000 ≤ x.1 ∧ x.1 ≤ 1000000000 := by
  unfold mulR at h
  split at h
  · have := isVR_t (newR_valid h); exact ⟨this.2.2.1, this.2.2.2.1⟩
  · cases h
def stepS (p : Nat) : Nat → Nat → List (List Q2) → Option (List (List Q2))
  | 0, _, m => some m
  | n + 1, i, m => if i = p ∨ (gq (gr m i) p).1 = 0 then stepS p n (i + 1) m else match elimR p (gr m p) (gr m i) with
    | none => none
    | some r => stepS p n (i + 1) (m.set i r)
def pivS (p : Nat) (m : List (List Q2)) : Nat → Nat → Nat
  | 0, k => k
  | n + 1, k => if (gq (gr m k) p).1 = 0 then pivS p m n (k + 1) else k
def swapL (p k : Nat) (m : List (List Q2)) : List (List Q2) := (m.set p (gr m k)).set k (gr m p)
def solS (n : Nat) : Nat → Nat → List (List Q2) → Option (List (List Q2))
  | 0, _, m => some m
  | j + 1, p, m => if pivS p m (n - p) p = n then none else match stepS p n 0 (swapL p (pivS p m (n - p) p) m) with
    | none => none
    | some m' => solS n j (p + 1) m'
def outS (n : Nat) (m : List (List Q2)) : Nat → Nat → List Q2 → Option (List Q2)
  | 0, _, out => some out
  | j + 1, p, out => match divR (gq (gr m p) n) (gq (gr m p) p) with
    | none => none
    | some x => outS n m j (p + 1) (out ++ [x])
def augL (a : List (List Q2)) (b : List Q2) : List (List Q2) := List.zipWith (fun r x => r ++ [x]) a b
def sysB (a : List (List Q2)) (b : List Q2) : Bool := decide (b.length ≤ 6) && sqB a b.length b.length && allV b
def solR (a : List (List Q2)) (b : List Q2) : Option (List Q2) := if sysB a b = true then (match solS b.length b.length 0 (augL a b) with
    | none => none
    | some m => outS b.length m b.length 0 []) else none
theorem gq_at {r : List Q2} {k : Nat} (h : k < r.length) : gq r k = r[k] := by unfold gq; rw [List.getD_eq_getElem?_getD, List.getElem?_eq_getElem h]; rfl
theorem gr_at {m : List (List Q2)} {k : Nat} (h : k < m.length) : gr m k = m[k] := by unfold gr; rw [List.getD_eq_getElem?_getD, List.getElem?_eq_getElem h]; rfl
section
variable {f : Q2} {piv cur : List Q2} {n k p i : Nat} {m : List (List Q2)}
theorem elimS_mul0 (h : k < n) (e : mulR f (gq piv k) = none) : elimS f piv (n - k) k cur = none := by
  rw [show n - k = (n - (k + 1)) + 1 by omega, elimS, e]
theorem elimS_sub0 (h : k < n) {x : Q2} (e : mulR f (gq piv k) = some x) (e' : subR (gq cur k) x = none) : elimS f piv (n - k) k cur = none := by
  rw [show n - k = (n - (k + 1)) + 1 by omega, elimS, e]
  simp only
  rw [e']
theorem elimS_go (h : k < n) {x y : Q2} (e : mulR f (gq piv k) = some x) (e' : subR (gq cur k) x = some y) : elimS f piv (n - k) k cur = elimS f piv (n - (k + 1)) (k + 1) (cur.set k y) := by
  rw [show n - k = (n - (k + 1)) + 1 by omega, elimS, e]
  simp only
  rw [e']
theorem elimS_end (h : ¬ k < n) : elimS f piv (n - k) k cur = some cur := by rw [show n - k = 0 by omega, elimS]
theorem elimS_len : ∀ {j k : Nat} {cur r : List Q2}, elimS f piv j k cur = some r → r.length = cur.length
  | 0, _, _, _, h => by rw [elimS] at h; injection h with h; rw [h]
  | j + 1, k, cur, r, h => by
    rw [elimS] at h
    split at h
    · cases h
    · split at h
      · cases h
      · rw [elimS_len h, List.length_set]
theorem elimR_len {row r : List Q2} (h : elimR p piv row = some r) : r.length = row.length := by
  unfold elimR elimO at h
  split at h
  · cases h
  · exact elimS_len h
theorem stepS_skip (h : i < n) (e : i = p ∨ (gq (gr m i) p).1 = 0) : stepS p (n - i) i m = stepS p (n - (i + 1)) (i + 1) m := by
  rw [show n - i = (n - (i + 1)) + 1 by omega, stepS, if_pos e]
theorem stepS_none (h : i < n) (e : ¬ (i = p ∨ (gq (gr m i) p).1 = 0)) (e' : elimR p (gr m p) (gr m i) = none) : stepS p (n - i) i m = none := by
  rw [show n - i = (n - (i + 1)) + 1 by omega, stepS, if_neg e, e']
theorem stepS_go (h : i < n) (e : ¬ (i = p ∨ (gq (gr m i) p).1 = 0)) {r : List Q2} (e' : elimR p (gr m p) (gr m i) = some r) : stepS p (n - i) i m = stepS p (n - (i + 1)) (i + 1) (m.set i r) := by
  rw [show n - i = (n - (i + 1)) + 1 by omega, stepS, if_neg e, e']
theorem stepS_end (h : ¬ i < n) : stepS p (n - i) i m = some m := by rw [show n - i = 0 by omega, stepS]
theorem pivS_go (h : k < n) (e : (gq (gr m k) p).1 = 0) : pivS p m (n - k) k = pivS p m (n - (k + 1)) (k + 1) := by
  rw [show n - k = (n - (k + 1)) + 1 by omega, pivS, if_pos e]
theorem pivS_hit (h : k < n) (e : ¬ (gq (gr m k) p).1 = 0) : pivS p m (n - k) k = k := by
  rw [show n - k = (n - (k + 1)) + 1 by omega, pivS, if_neg e]
theorem pivS_end (h : ¬ k < n) : pivS p m (n - k) k = k := by rw [show n - k = 0 by omega, pivS]
theorem solS_none (h : p < n) (e : pivS p m (n - p) p = n) : solS n (n - p) p m = none := by
  rw [show n - p = (n - (p + 1)) + 1 by omega] at e ⊢
  rw [solS, show n - p = (n - (p + 1)) + 1 by omega, if_pos e]
theorem solS_step0 (h : p < n) (e : ¬ pivS p m (n - p) p = n) (e' : stepS p n 0 (swapL p (pivS p m (n - p) p) m) = none) : solS n (n - p) p m = none := by
  rw [show n - p = (n - (p + 1)) + 1 by omega] at e e' ⊢
  rw [solS, show n - p = (n - (p + 1)) + 1 by omega, if_neg e, e']
theorem solS_go (h : p < n) (e : ¬ pivS p m (n - p) p = n) {m' : List (List Q2)} (e' : stepS p n 0 (swapL p (pivS p m (n - p) p) m) = some m') : solS n (n - p) p m = solS n (n - (p + 1)) (p + 1) m' := by
  rw [show n - p = (n - (p + 1)) + 1 by omega] at e e' ⊢
  rw [solS, show n - p = (n - (p + 1)) + 1 by omega, if_neg e, e']
theorem solS_end (h : ¬ p < n) : solS n (n - p) p m = some m := by rw [show n - p = 0 by omega, solS]
theorem outS_none {out : List Q2} (h : p < n) (e : divR (gq (gr m p) n) (gq (gr m p) p) = none) : outS n m (n - p) p out = none := by
  rw [show n - p = (n - (p + 1)) + 1 by omega, outS, e]
theorem outS_go {out : List Q2} {x : Q2} (h : p < n) (e : divR (gq (gr m p) n) (gq (gr m p) p) = some x) : outS n m (n - p) p out = outS n m (n - (p + 1)) (p + 1) (out ++ [x]) := by
  rw [show n - p = (n - (p + 1)) + 1 by omega, outS, e]
theorem outS_end {out : List Q2} (h : ¬ p < n) : outS n m (n - p) p out = some out := by rw [show n - p = 0 by omega, outS]
end
end Go.Proofs.Ytbjpkfgkmilkdaa
