/- The four operations on rational numbers; of the program and of the reference alike. -/
import Derived.Test.YtgehnacmgofobaaDoorRatArith
namespace Go.Proofs.YtgehnacmgofobaaDoor
open Go.RowKit

def addR (p q : Int × Int) : Option (Int × Int) := if (isVR p && isVR q) = true then newR (p.1 * q.2 + q.1 * p.2) (p.2 * q.2) else none
def mulR (p q : Int × Int) : Option (Int × Int) := if (isVR p && isVR q) = true then newR (p.1 * q.1) (p.2 * q.2) else none
def divR (p q : Int × Int) : Option (Int × Int) := if (isVR p && isVR q) = true then newR (p.1 * q.2) (p.2 * q.1) else none
def subR (p q : Int × Int) : Option (Int × Int) := if isVR q = true then addR p (-q.1, q.2) else none
theorem mul_bd {x y : Int} (h1 : -1000000000 ≤ x) (h2 : x ≤ 1000000000) (h3 : -1000000000 ≤ y) (h4 : y ≤ 1000000000) : -1000000000000000000 ≤ x * y ∧ x * y ≤ 1000000000000000000 := by
  have h : (x * y).natAbs ≤ 1000000000 * 1000000000 := by
    rw [Int.natAbs_mul]
    exact Nat.mul_le_mul (by omega) (by omega)
  omega
theorem newR_zero (n : Int) : newR n 0 = none := by unfold newR; rw [if_pos (.inl rfl)]
theorem isVR_neg {a b : Int} : isVR (-a, b) = isVR (a, b) := by
  have e : ∀ x : Int, (decide (-1000000000 ≤ -x ∧ -x ≤ 1000000000)) = decide (-1000000000 ≤ x ∧ x ≤ 1000000000) := fun x => by rw [Bool.eq_iff_iff]; simp; omega
  simp only [isVR, inB, Int.neg_gcd, e]
set_option maxHeartbeats 1000000 in
theorem AddRational_any {a b c d : Int} {w : World} :
    Calls Tryd.prog 46 #[.agg #[.int .i64 a, .int .i64 b], .agg #[.int .i64 c, .int .i64 d]] w fun e w' => e = .returned (.tuple #[.agg #[.int .i64 ((addR (a, b) (c, d)).getD (0, 0)).1, .int .i64 ((addR (a, b) (c, d)).getD (0, 0)).2], .bool (addR (a, b) (c, d)).isSome]) ∧ ∃ y, w' = ext w y := by
  by_cases hv1 : isVR (a, b) = true
  · by_cases hv2 : isVR (c, d) = true
    · have hv : (isVR (a, b) && isVR (c, d)) = true := by rw [hv1, hv2]; rfl
      have HA := Lib.hid (show addR (a, b) (c, d) = newR (a * d + c * b) (b * d) by unfold addR; rw [if_pos hv])
      have v1 := isVR_t hv1
      have v2 := isVR_t hv2
      dsimp only at v1 v2
      obtain ⟨p1, p2, p3, p4, _⟩ := v1
      obtain ⟨q1, q2, q3, q4, _⟩ := v2
      obtain ⟨m0, n0⟩ := mul_bd (x := a) (y := d) (by omega) (by omega) (by omega) (by omega)
      obtain ⟨m1, n1⟩ := mul_bd (x := c) (y := b) (by omega) (by omega) (by omega) (by omega)
      obtain ⟨m2, n2⟩ := mul_bd (x := b) (y := d) (by omega) (by omega) (by omega) (by omega)
      rw [HA.out]
      go_enter Tryd.func46, Tryd.ntmps46
      go_upto_region 1 with fail
      refine wp_name ?_
      intro W hW
      have xW : ∃ y, W = ext w y := by rw [hW.out]; exact (by refine Chg.isExt (F := []) ?_ (refl_ext _) (by simp); repeat (with_reducible (first | exact Chg.refl _ _ | exact Nat.le_refl _ | exact Chg.ofExt (by assumption) | refine Chg.trans0 ?_ (by assumption) | refine Chg.extS ?_ _ | refine Chg.alloc ?_ _ | refine Chg.drew ?_ | refine Chg.setCellE ?_ ?_ _ | refine le_addk ?_ _ | refine le_ext ?_ | refine le_alloc ?_ _ | refine le_setC ?_ _ _ | refine le_drew ?_ | assumption | (refine Nat.le_of_lt ?_; omega) | omega)))
      have BW0 : BoxAt W (w.heap.size) #[.int .i64 a, .int .i64 b] := by rw [hW.out]; refine ⟨?_, fun j => ?_, fun j => ?_⟩ <;> go_simp
      obtain ⟨lW0, bW0, fW0⟩ := BW0
      have cW0_0 : W.cell? ⟨w.heap.size, 0, none⟩ = some (.int .i64 a) := bW0 0
      have cW0_1 : W.cell? ⟨w.heap.size, 1, none⟩ = some (.int .i64 b) := bW0 1
      have BW1 : BoxAt W (w.heap.size + 1) #[.int .i64 c, .int .i64 d] := by rw [hW.out]; refine ⟨?_, fun j => ?_, fun j => ?_⟩ <;> go_simp
      obtain ⟨lW1, bW1, fW1⟩ := BW1
      have cW1_0 : W.cell? ⟨w.heap.size + 1, 0, none⟩ = some (.int .i64 c) := bW1 0
      have cW1_1 : W.cell? ⟨w.heap.size + 1, 1, none⟩ = some (.int .i64 d) := bW1 1
      have BW2 : BoxAt W (w.heap.size + 1 + 1) #[.int .i64 0, .int .i64 0] := by rw [hW.out]; refine ⟨?_, fun j => ?_, fun j => ?_⟩ <;> go_simp
      obtain ⟨lW2, bW2, fW2⟩ := BW2
      have cW2_0 : W.cell? ⟨w.heap.size + 1 + 1, 0, none⟩ = some (.int .i64 0) := bW2 0
      have cW2_1 : W.cell? ⟨w.heap.size + 1 + 1, 1, none⟩ = some (.int .i64 0) := bW2 1
      clear hW
      go_wp2_with (first | (go_at_call 47; refine bothValid_any.mono ?_; rintro e w1 ⟨rfl, y, rfl⟩; rw [hv]) | (go_at_call 56; refine (NewRational_any (by omega) (by omega) (by omega) (by omega)).mono ?_; rintro e w1 ⟨rfl, hx1⟩; obtain ⟨y', rfl⟩ := trans_ext ⟨_, rfl⟩ hx1))
      exact bodyPost_ret (v := .tuple #[.agg #[.int .i64 ((newR (a * d + c * b) (b * d)).getD (0, 0)).1, .int .i64 ((newR (a * d + c * b) (b * d)).getD (0, 0)).2], .bool (newR (a * d + c * b) (b * d)).isSome]) (by simp [results, Tryd.results46, go_sem, lW2, bW2]) rfl ⟨rfl, (by refine Chg.isExt (F := []) ?_ (refl_ext _) (by simp); repeat (with_reducible (first | exact Chg.refl _ _ | exact Nat.le_refl _ | exact Chg.ofExt (by assumption) | refine Chg.trans0 ?_ (by assumption) | refine Chg.extS ?_ _ | refine Chg.alloc ?_ _ | refine Chg.drew ?_ | refine Chg.setCellE ?_ ?_ _ | refine le_addk ?_ _ | refine le_ext ?_ | refine le_alloc ?_ _ | refine le_setC ?_ _ _ | refine le_drew ?_ | assumption | (refine Nat.le_of_lt ?_; omega) | omega)))⟩
    · have hv : (isVR (a, b) && isVR (c, d)) = false := by simp [hv2]
      rw [show addR (a, b) (c, d) = none by unfold addR; rw [if_neg (by simp [hv])]]
      go_enter Tryd.func46, Tryd.ntmps46
      go_upto_region 1 with fail
      refine wp_name ?_
      intro W hW
      have xW : ∃ y, W = ext w y := by rw [hW.out]; exact (by refine Chg.isExt (F := []) ?_ (refl_ext _) (by simp); repeat (with_reducible (first | exact Chg.refl _ _ | exact Nat.le_refl _ | exact Chg.ofExt (by assumption) | refine Chg.trans0 ?_ (by assumption) | refine Chg.extS ?_ _ | refine Chg.alloc ?_ _ | refine Chg.drew ?_ | refine Chg.setCellE ?_ ?_ _ | refine le_addk ?_ _ | refine le_ext ?_ | refine le_alloc ?_ _ | refine le_setC ?_ _ _ | refine le_drew ?_ | assumption | (refine Nat.le_of_lt ?_; omega) | omega)))
      have BW0 : BoxAt W (w.heap.size) #[.int .i64 a, .int .i64 b] := by rw [hW.out]; refine ⟨?_, fun j => ?_, fun j => ?_⟩ <;> go_simp
      obtain ⟨lW0, bW0, fW0⟩ := BW0
      have cW0_0 : W.cell? ⟨w.heap.size, 0, none⟩ = some (.int .i64 a) := bW0 0
      have cW0_1 : W.cell? ⟨w.heap.size, 1, none⟩ = some (.int .i64 b) := bW0 1
      have BW1 : BoxAt W (w.heap.size + 1) #[.int .i64 c, .int .i64 d] := by rw [hW.out]; refine ⟨?_, fun j => ?_, fun j => ?_⟩ <;> go_simp
      obtain ⟨lW1, bW1, fW1⟩ := BW1
      have cW1_0 : W.cell? ⟨w.heap.size + 1, 0, none⟩ = some (.int .i64 c) := bW1 0
      have cW1_1 : W.cell? ⟨w.heap.size + 1, 1, none⟩ = some (.int .i64 d) := bW1 1
      have BW2 : BoxAt W (w.heap.size + 1 + 1) #[.int .i64 0, .int .i64 0] := by rw [hW.out]; refine ⟨?_, fun j => ?_, fun j => ?_⟩ <;> go_simp
      obtain ⟨lW2, bW2, fW2⟩ := BW2
      have cW2_0 : W.cell? ⟨w.heap.size + 1 + 1, 0, none⟩ = some (.int .i64 0) := bW2 0
      have cW2_1 : W.cell? ⟨w.heap.size + 1 + 1, 1, none⟩ = some (.int .i64 0) := bW2 1
      clear hW
      go_wp2_with (first | (go_at_call 47; refine bothValid_any.mono ?_; rintro e w1 ⟨rfl, y, rfl⟩; rw [hv]) | (go_at_call 56; refine (NewRational_any (by omega) (by omega) (by omega) (by omega)).mono ?_; rintro e w1 ⟨rfl, hx1⟩; obtain ⟨y', rfl⟩ := trans_ext ⟨_, rfl⟩ hx1))
      exact bodyPost_ret (v := .tuple #[.agg #[.int .i64 0, .int .i64 0], .bool false]) (by simp [results, Tryd.results46, go_sem, lW2, bW2]) rfl ⟨rfl, (by refine Chg.isExt (F := []) ?_ (refl_ext _) (by simp); repeat (with_reducible (first | exact Chg.refl _ _ | exact Nat.le_refl _ | exact Chg.ofExt (by assumption) | refine Chg.trans0 ?_ (by assumption) | refine Chg.extS ?_ _ | refine Chg.alloc ?_ _ | refine Chg.drew ?_ | refine Chg.setCellE ?_ ?_ _ | refine le_addk ?_ _ | refine le_ext ?_ | refine le_alloc ?_ _ | refine le_setC ?_ _ _ | refine le_drew ?_ | assumption | (refine Nat.le_of_lt ?_; omega) | omega)))⟩
  · have hv : (isVR (a, b) && isVR (c, d)) = false := by simp [hv1]
    rw [show addR (a, b) (c, d) = none by unfold addR; rw [if_neg (by simp [hv])]]
    go_enter Tryd.func46, Tryd.ntmps46
    go_upto_region 1 with fail
    refine wp_name ?_
    intro W hW
    have xW : ∃ y, W = ext w y := by rw [hW.out]; exact (by refine Chg.isExt (F := []) ?_ (refl_ext _) (by simp); repeat (with_reducible (first | exact Chg.refl _ _ | exact Nat.le_refl _ | exact Chg.ofExt (by assumption) | refine Chg.trans0 ?_ (by assumption) | refine Chg.extS ?_ _ | refine Chg.alloc ?_ _ | refine Chg.drew ?_ | refine Chg.setCellE ?_ ?_ _ | refine le_addk ?_ _ | refine le_ext ?_ | refine le_alloc ?_ _ | refine le_setC ?_ _ _ | refine le_drew ?_ | assumption | (refine Nat.le_of_lt ?_; omega) | omega)))
    have BW0 : BoxAt W (w.heap.size) #[.int .i64 a, .int .i64 b] := by rw [hW.out]; refine ⟨?_, fun j => ?_, fun j => ?_⟩ <;> go_simp
    obtain ⟨lW0, bW0, fW0⟩ := BW0
    have cW0_0 : W.cell? ⟨w.heap.size, 0, none⟩ = some (.int .i64 a) := bW0 0
    have cW0_1 : W.cell? ⟨w.heap.size, 1, none⟩ = some (.int .i64 b) := bW0 1
    have BW1 : BoxAt W (w.heap.size + 1) #[.int .i64 c, .int .i64 d] := by rw [hW.out]; refine ⟨?_, fun j => ?_, fun j => ?_⟩ <;> go_simp
    obtain ⟨lW1, bW1, fW1⟩ := BW1
    have cW1_0 : W.cell? ⟨w.heap.size + 1, 0, none⟩ = some (.int .i64 c) := bW1 0
    have cW1_1 : W.cell? ⟨w.heap.size + 1, 1, none⟩ = some (.int .i64 d) := bW1 1
    have BW2 : BoxAt W (w.heap.size + 1 + 1) #[.int .i64 0, .int .i64 0] := by rw [hW.out]; refine ⟨?_, fun j => ?_, fun j => ?_⟩ <;> go_simp
    obtain ⟨lW2, bW2, fW2⟩ := BW2
    have cW2_0 : W.cell? ⟨w.heap.size + 1 + 1, 0, none⟩ = some (.int .i64 0) := bW2 0
    have cW2_1 : W.cell? ⟨w.heap.size + 1 + 1, 1, none⟩ = some (.int .i64 0) := bW2 1
    clear hW
    go_wp2_with (first | (go_at_call 47; refine bothValid_any.mono ?_; rintro e w1 ⟨rfl, y, rfl⟩; rw [hv]) | (go_at_call 56; refine (NewRational_any (by omega) (by omega) (by omega) (by omega)).mono ?_; rintro e w1 ⟨rfl, hx1⟩; obtain ⟨y', rfl⟩ := trans_ext ⟨_, rfl⟩ hx1))
    exact bodyPost_ret (v := .tuple #[.agg #[.int .i64 0, .int .i64 0], .bool false]) (by simp [results, Tryd.results46, go_sem, lW2, bW2]) rfl ⟨rfl, (by refine Chg.isExt (F := []) ?_ (refl_ext _) (by simp); repeat (with_reducible (first | exact Chg.refl _ _ | exact Nat.le_refl _ | exact Chg.ofExt (by assumption) | refine Chg.trans0 ?_ (by assumption) | refine Chg.extS ?_ _ | refine Chg.alloc ?_ _ | refine Chg.drew ?_ | refine Chg.setCellE ?_ ?_ _ | refine le_addk ?_ _ | refine le_ext ?_ | refine le_alloc ?_ _ | refine le_setC ?_ _ _ | refine le_drew ?_ | assumption | (refine Nat.le_of_lt ?_; omega) | omega)))⟩
set_option maxHeartbeats 1000000 in
theorem specAddRational_any {a b c d : Int} {w : World} :
    Calls Tryd.prog 39 #[.agg #[.int .i64 a, .int .i64 b], .agg #[.int .i64 c, .int .i64 d]] w fun e w' => e = .returned (.tuple #[.agg #[.int .i64 ((addR (a, b) (c, d)).getD (0, 0)).1, .int .i64 ((addR (a, b) (c, d)).getD (0, 0)).2], .bool (addR (a, b) (c, d)).isSome]) ∧ ∃ y, w' = ext w y := by
  by_cases hv1 : isVR (a, b) = true
  · by_cases hv2 : isVR (c, d) = true
    · have hv : (isVR (a, b) && isVR (c, d)) = true := by rw [hv1, hv2]; rfl
      have HA := Lib.hid (show addR (a, b) (c, d) = newR (a * d + c * b) (b * d) by unfold addR; rw [if_pos hv])
      have v1 := isVR_t hv1
      have v2 := isVR_t hv2
      dsimp only at v1 v2
      obtain ⟨p1, p2, p3, p4, _⟩ := v1
      obtain ⟨q1, q2, q3, q4, _⟩ := v2
      obtain ⟨m0, n0⟩ := mul_bd (x := a) (y := d) (by omega) (by omega) (by omega) (by omega)
      obtain ⟨m1, n1⟩ := mul_bd (x := c) (y := b) (by omega) (by omega) (by omega) (by omega)
      obtain ⟨m2, n2⟩ := mul_bd (x := b) (y := d) (by omega) (by omega) (by omega) (by omega)
      rw [HA.out]
      go_enter Tryd.func39, Tryd.ntmps39
      go_upto_region 1 with fail
      refine wp_name ?_
      intro W hW
      have xW : ∃ y, W = ext w y := by rw [hW.out]; exact (by refine Chg.isExt (F := []) ?_ (refl_ext _) (by simp); repeat (with_reducible (first | exact Chg.refl _ _ | exact Nat.le_refl _ | exact Chg.ofExt (by assumption) | refine Chg.trans0 ?_ (by assumption) | refine Chg.extS ?_ _ | refine Chg.alloc ?_ _ | refine Chg.drew ?_ | refine Chg.setCellE ?_ ?_ _ | refine le_addk ?_ _ | refine le_ext ?_ | refine le_alloc ?_ _ | refine le_setC ?_ _ _ | refine le_drew ?_ | assumption | (refine Nat.le_of_lt ?_; omega) | omega)))
      have BW0 : BoxAt W (w.heap.size) #[.int .i64 a, .int .i64 b] := by rw [hW.out]; refine ⟨?_, fun j => ?_, fun j => ?_⟩ <;> go_simp
      obtain ⟨lW0, bW0, fW0⟩ := BW0
      have cW0_0 : W.cell? ⟨w.heap.size, 0, none⟩ = some (.int .i64 a) := bW0 0
      have cW0_1 : W.cell? ⟨w.heap.size, 1, none⟩ = some (.int .i64 b) := bW0 1
      have BW1 : BoxAt W (w.heap.size + 1) #[.int .i64 c, .int .i64 d] := by rw [hW.out]; refine ⟨?_, fun j => ?_, fun j => ?_⟩ <;> go_simp
      obtain ⟨lW1, bW1, fW1⟩ := BW1
      have cW1_0 : W.cell? ⟨w.heap.size + 1, 0, none⟩ = some (.int .i64 c) := bW1 0
      have cW1_1 : W.cell? ⟨w.heap.size + 1, 1, none⟩ = some (.int .i64 d) := bW1 1
      have BW2 : BoxAt W (w.heap.size + 1 + 1) #[.int .i64 0, .int .i64 0] := by rw [hW.out]; refine ⟨?_, fun j => ?_, fun j => ?_⟩ <;> go_simp
      obtain ⟨lW2, bW2, fW2⟩ := BW2
      have cW2_0 : W.cell? ⟨w.heap.size + 1 + 1, 0, none⟩ = some (.int .i64 0) := bW2 0
      have cW2_1 : W.cell? ⟨w.heap.size + 1 + 1, 1, none⟩ = some (.int .i64 0) := bW2 1
      clear hW
      go_wp2_with (first | (go_at_call 38; refine specIsValidRational_any.mono ?_; rintro e w1 ⟨rfl, hx1⟩; (first | rw [hv1] | rw [hv2]); obtain ⟨y, rfl⟩ := trans_ext (by first | exact refl_ext W | exact ⟨_, rfl⟩) hx1) | (go_at_call 51; refine (specNewRational_any (by omega) (by omega) (by omega) (by omega)).mono ?_; rintro e w1 ⟨rfl, hx1⟩; obtain ⟨y', rfl⟩ := trans_ext ⟨_, rfl⟩ hx1))
      exact bodyPost_ret (v := .tuple #[.agg #[.int .i64 ((newR (a * d + c * b) (b * d)).getD (0, 0)).1, .int .i64 ((newR (a * d + c * b) (b * d)).getD (0, 0)).2], .bool (newR (a * d + c * b) (b * d)).isSome]) (by simp [results, Tryd.results39, go_sem, lW2, bW2]) rfl ⟨rfl, (by refine Chg.isExt (F := []) ?_ (refl_ext _) (by simp); repeat (with_reducible (first | exact Chg.refl _ _ | exact Nat.le_refl _ | exact Chg.ofExt (by assumption) | refine Chg.trans0 ?_ (by assumption) | refine Chg.extS ?_ _ | refine Chg.alloc ?_ _ | refine Chg.drew ?_ | refine Chg.setCellE ?_ ?_ _ | refine le_addk ?_ _ | refine le_ext ?_ | refine le_alloc ?_ _ | refine le_setC ?_ _ _ | refine le_drew ?_ | assumption | (refine Nat.le_of_lt ?_; omega) | omega)))⟩
    · have hv : (isVR (a, b) && isVR (c, d)) = false := by simp [hv2]
      have hv2 : isVR (c, d) = false := by simpa using hv2
      rw [show addR (a, b) (c, d) = none by unfold addR; rw [if_neg (by simp [hv])]]
      go_enter Tryd.func39, Tryd.ntmps39
      go_upto_region 1 with fail
      refine wp_name ?_
      intro W hW
      have xW : ∃ y, W = ext w y := by rw [hW.out]; exact (by refine Chg.isExt (F := []) ?_ (refl_ext _) (by simp); repeat (with_reducible (first | exact Chg.refl _ _ | exact Nat.le_refl _ | exact Chg.ofExt (by assumption) | refine Chg.trans0 ?_ (by assumption) | refine Chg.extS ?_ _ | refine Chg.alloc ?_ _ | refine Chg.drew ?_ | refine Chg.setCellE ?_ ?_ _ | refine le_addk ?_ _ | refine le_ext ?_ | refine le_alloc ?_ _ | refine le_setC ?_ _ _ | refine le_drew ?_ | assumption | (refine Nat.le_of_lt ?_; omega) | omega)))
      have BW0 : BoxAt W (w.heap.size) #[.int .i64 a, .int .i64 b] := by rw [hW.out]; refine ⟨?_, fun j => ?_, fun j => ?_⟩ <;> go_simp
      obtain ⟨lW0, bW0, fW0⟩ := BW0
      have cW0_0 : W.cell? ⟨w.heap.size, 0, none⟩ = some (.int .i64 a) := bW0 0
      have cW0_1 : W.cell? ⟨w.heap.size, 1, none⟩ = some (.int .i64 b) := bW0 1
      have BW1 : BoxAt W (w.heap.size + 1) #[.int .i64 c, .int .i64 d] := by rw [hW.out]; refine ⟨?_, fun j => ?_, fun j => ?_⟩ <;> go_simp
      obtain ⟨lW1, bW1, fW1⟩ := BW1
      have cW1_0 : W.cell? ⟨w.heap.size + 1, 0, none⟩ = some (.int .i64 c) := bW1 0
      have cW1_1 : W.cell? ⟨w.heap.size + 1, 1, none⟩ = some (.int .i64 d) := bW1 1
      have BW2 : BoxAt W (w.heap.size + 1 + 1) #[.int .i64 0, .int .i64 0] := by rw [hW.out]; refine ⟨?_, fun j => ?_, fun j => ?_⟩ <;> go_simp
      obtain ⟨lW2, bW2, fW2⟩ := BW2
      have cW2_0 : W.cell? ⟨w.heap.size + 1 + 1, 0, none⟩ = some (.int .i64 0) := bW2 0
      have cW2_1 : W.cell? ⟨w.heap.size + 1 + 1, 1, none⟩ = some (.int .i64 0) := bW2 1
      clear hW
      go_wp2_with (first | (go_at_call 38; refine specIsValidRational_any.mono ?_; rintro e w1 ⟨rfl, hx1⟩; (first | rw [hv1] | rw [hv2]); obtain ⟨y, rfl⟩ := trans_ext (by first | exact refl_ext W | exact ⟨_, rfl⟩) hx1) | (go_at_call 51; refine (specNewRational_any (by omega) (by omega) (by omega) (by omega)).mono ?_; rintro e w1 ⟨rfl, hx1⟩; obtain ⟨y', rfl⟩ := trans_ext ⟨_, rfl⟩ hx1))
      exact bodyPost_ret (v := .tuple #[.agg #[.int .i64 0, .int .i64 0], .bool false]) (by simp [results, Tryd.results39, go_sem, lW2, bW2]) rfl ⟨rfl, (by refine Chg.isExt (F := []) ?_ (refl_ext _) (by simp); repeat (with_reducible (first | exact Chg.refl _ _ | exact Nat.le_refl _ | exact Chg.ofExt (by assumption) | refine Chg.trans0 ?_ (by assumption) | refine Chg.extS ?_ _ | refine Chg.alloc ?_ _ | refine Chg.drew ?_ | refine Chg.setCellE ?_ ?_ _ | refine le_addk ?_ _ | refine le_ext ?_ | refine le_alloc ?_ _ | refine le_setC ?_ _ _ | refine le_drew ?_ | assumption | (refine Nat.le_of_lt ?_; omega) | omega)))⟩
  · have hv : (isVR (a, b) && isVR (c, d)) = false := by simp [hv1]
    have hv1 : isVR (a, b) = false := by simpa using hv1
    rw [show addR (a, b) (c, d) = none by unfold addR; rw [if_neg (by simp [hv])]]
    go_enter Tryd.func39, Tryd.ntmps39
    go_upto_region 1 with fail
    refine wp_name ?_
    intro W hW
    have xW : ∃ y, W = ext w y := by rw [hW.out]; exact (by refine Chg.isExt (F := []) ?_ (refl_ext _) (by simp); repeat (with_reducible (first | exact Chg.refl _ _ | exact Nat.le_refl _ | exact Chg.ofExt (by assumption) | refine Chg.trans0 ?_ (by assumption) | refine Chg.extS ?_ _ | refine Chg.alloc ?_ _ | refine Chg.drew ?_ | refine Chg.setCellE ?_ ?_ _ | refine le_addk ?_ _ | refine le_ext ?_ | refine le_alloc ?_ _ | refine le_setC ?_ _ _ | refine le_drew ?_ | assumption | (refine Nat.le_of_lt ?_; omega) | omega)))
    have BW0 : BoxAt W (w.heap.size) #[.int .i64 a, .int .i64 b] := by rw [hW.out]; refine ⟨?_, fun j => ?_, fun j => ?_⟩ <;> go_simp
    obtain ⟨lW0, bW0, fW0⟩ := BW0
    have cW0_0 : W.cell? ⟨w.heap.size, 0, none⟩ = some (.int .i64 a) := bW0 0
    have cW0_1 : W.cell? ⟨w.heap.size, 1, none⟩ = some (.int .i64 b) := bW0 1
    have BW1 : BoxAt W (w.heap.size + 1) #[.int .i64 c, .int .i64 d] := by rw [hW.out]; refine ⟨?_, fun j => ?_, fun j => ?_⟩ <;> go_simp
    obtain ⟨lW1, bW1, fW1⟩ := BW1
    have cW1_0 : W.cell? ⟨w.heap.size + 1, 0, none⟩ = some (.int .i64 c) := bW1 0
    have cW1_1 : W.cell? ⟨w.heap.size + 1, 1, none⟩ = some (.int .i64 d) := bW1 1
    have BW2 : BoxAt W (w.heap.size + 1 + 1) #[.int .i64 0, .int .i64 0] := by rw [hW.out]; refine ⟨?_, fun j => ?_, fun j => ?_⟩ <;> go_simp
    obtain ⟨lW2, bW2, fW2⟩ := BW2
    have cW2_0 : W.cell? ⟨w.heap.size + 1 + 1, 0, none⟩ = some (.int .i64 0) := bW2 0
    have cW2_1 : W.cell? ⟨w.heap.size + 1 + 1, 1, none⟩ = some (.int .i64 0) := bW2 1
    clear hW
    go_wp2_with (first | (go_at_call 38; refine specIsValidRational_any.mono ?_; rintro e w1 ⟨rfl, hx1⟩; (first | rw [hv1] | rw [hv2]); obtain ⟨y, rfl⟩ := trans_ext (by first | exact refl_ext W | exact ⟨_, rfl⟩) hx1) | (go_at_call 51; refine (specNewRational_any (by omega) (by omega) (by omega) (by omega)).mono ?_; rintro e w1 ⟨rfl, hx1⟩; obtain ⟨y', rfl⟩ := trans_ext ⟨_, rfl⟩ hx1))
    exact bodyPost_ret (v := .tuple #[.agg #[.int .i64 0, .int .i64 0], .bool false]) (by simp [results, Tryd.results39, go_sem, lW2, bW2]) rfl ⟨rfl, (by refine Chg.isExt (F := []) ?_ (refl_ext _) (by simp); repeat (with_reducible (first | exact Chg.refl _ _ | exact Nat.le_refl _ | exact Chg.ofExt (by assumption) | refine Chg.trans0 ?_ (by assumption) | refine Chg.extS ?_ _ | refine Chg.alloc ?_ _ | refine Chg.drew ?_ | refine Chg.setCellE ?_ ?_ _ | refine le_addk ?_ _ | refine le_ext ?_ | refine le_alloc ?_ _ | refine le_setC ?_ _ _ | refine le_drew ?_ | assumption | (refine Nat.le_of_lt ?_; omega) | omega)))⟩
end Go.Proofs.YtgehnacmgofobaaDoor
