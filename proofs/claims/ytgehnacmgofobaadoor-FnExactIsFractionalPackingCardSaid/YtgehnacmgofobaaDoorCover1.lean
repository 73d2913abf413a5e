/- Rational numbers compared, weights admissible; the program's way and the reference's. -/
import Derived.Test.YtgehnacmgofobaaDoorValidQ
import Derived.Test.YtgehnacmgofobaaDoorRatSum
import Derived.Test.YtgehnacmgofobaaDoorCmp
import Derived.Test.YtgehnacmgofobaaDoorAtom
namespace Go.Proofs.YtgehnacmgofobaaDoor
open Go.RowKit

def cmpR (p q : Int × Int) : Int := if (isVR p && isVR q) = true then cmpI (p.1 * q.2) (q.1 * p.2) else 0
def admR (r : Int × Int) : Bool := isVR r && inB r.1 0 1000 && decide (r.2 ≤ 1000)
theorem cmul_bd {a b : Int} (h1 : -1000000000 ≤ a) (h2 : a ≤ 1000000000) (h3 : 1 ≤ b) (h4 : b ≤ 1000000000) : -1000000000000000000 ≤ a * b ∧ a * b ≤ 1000000000000000000 := by
  constructor
  · calc -1000000000000000000 = -1000000000 * 1000000000 := by decide
      _ ≤ -1000000000 * b := by omega
      _ ≤ a * b := Int.mul_le_mul_of_nonneg_right h1 (by omega)
  · calc a * b ≤ 1000000000 * b := Int.mul_le_mul_of_nonneg_right h2 (by omega)
      _ ≤ 1000000000000000000 := by omega
theorem cmpI_lt {a b : Int} (h : a < b) : cmpI a b = -1 := by unfold cmpI; rw [if_pos h]
theorem cmpI_gt {a b : Int} (h : b < a) : cmpI a b = 1 := by unfold cmpI; rw [if_neg (by omega), if_pos h]
theorem cmpI_eq {a b : Int} (h : a = b) : cmpI a b = 0 := by unfold cmpI; rw [if_neg (by omega), if_neg (by omega)]
theorem compareInts_any {a b : Int} {w : World} : Calls Tryd.prog 48 #[.int .i64 a, .int .i64 b] w fun e w' => e = .returned (.int .i64 (cmpI a b)) ∧ w = w' := by
  by_cases h1 : a < b
  · rw [cmpI_lt h1]
    go_enter Tryd.func48, Tryd.ntmps48
    go_wp2
    go_ret
    exact ⟨rfl, rfl⟩
  · by_cases h2 : b < a
    · rw [cmpI_gt h2]
      go_enter Tryd.func48, Tryd.ntmps48
      go_wp2
      go_ret
      exact ⟨rfl, rfl⟩
    · rw [cmpI_eq (by omega)]
      go_enter Tryd.func48, Tryd.ntmps48
      go_wp2
      go_ret
      exact ⟨rfl, rfl⟩
set_option maxHeartbeats 1000000 in
theorem CompareRationals_any {a b c d : Int} {w : World} :
    Calls Tryd.prog 29 #[.agg #[.int .i64 a, .int .i64 b], .agg #[.int .i64 c, .int .i64 d]] w fun e w' => e = .returned (.int .i64 (cmpR (a, b) (c, d))) ∧ ∃ y, w' = ext w y := by
  obtain ⟨t, ht⟩ : ∃ t, (isVR (a, b) && isVR (c, d)) = t := ⟨_, rfl⟩
  have HT := Lib.hid ht
  cases t with
  | false =>
    rw [show cmpR (a, b) (c, d) = 0 by unfold cmpR; rw [ht]; rfl]
    clear ht
    go_enter Tryd.func29, Tryd.ntmps29
    go_upto_region 1 with fail
    refine wp_name ?_
    intro W hW
    have xW : ∃ y, W = ext w y := by rw [hW.out]; exact (by refine Chg.isExt (F := []) ?_ (refl_ext _) (by simp); repeat (with_reducible (first | exact Chg.refl _ _ | exact Nat.le_refl _ | exact Chg.ofExt (by assumption) | refine Chg.trans0 ?_ (by assumption) | refine Chg.extS ?_ _ | refine Chg.alloc ?_ _ | refine Chg.drew ?_ | refine Chg.setCellE ?_ ?_ _ | refine le_addk ?_ _ | refine le_ext ?_ | refine le_alloc ?_ _ | refine le_setC ?_ _ _ | refine le_drew ?_ | assumption | (refine Nat.le_of_lt ?_; omega) | omega)))
    have BW0 : BoxAt W (w.heap.size) #[.int .i64 a, .int .i64 b] := by rw [hW.out]; refine ⟨?_, fun j => ?_, fun j => ?_⟩ <;> go_simp
    obtain ⟨lW0, bW0, fW0⟩ := BW0
    have cW0_0 : W.cell? ⟨w.heap.size, 0, none⟩ = some (.int .i64 a) := bW0 0
    have cW0_1 : W.cell? ⟨w.heap.size, 1, none⟩ = some (.int .i64 b) := bW0 1
    have BW1 : BoxAt W (w.heap.size + 1) #[.int .i64 c, .int .i64 d] := by rw [hW.out]; refine ⟨?_, fun j => ?_, fun j => ?_⟩ <;> go_simp
    obtain ⟨lW1, bW1, fW1⟩ := BW1
    have cW1_0 : W.cell? ⟨w.heap.size + 1, 0, none⟩ = some (.int .i64 c) := bW1 0
    have cW1_1 : W.cell? ⟨w.heap.size + 1, 1, none⟩ = some (.int .i64 d) := bW1 1
    clear hW
    go_wp2_with (go_at_call 47; refine bothValid_any.mono ?_; rintro e w1 ⟨rfl, hx1⟩; rw [HT.out])
    go_ret
    exact ⟨rfl, (by refine Chg.isExt (F := []) ?_ (refl_ext _) (by simp); repeat (with_reducible (first | exact Chg.refl _ _ | exact Nat.le_refl _ | exact Chg.ofExt (by assumption) | refine Chg.trans0 ?_ (by assumption) | refine Chg.extS ?_ _ | refine Chg.alloc ?_ _ | refine Chg.drew ?_ | refine Chg.setCellE ?_ ?_ _ | refine le_addk ?_ _ | refine le_ext ?_ | refine le_alloc ?_ _ | refine le_setC ?_ _ _ | refine le_drew ?_ | assumption | (refine Nat.le_of_lt ?_; omega) | omega)))⟩
  | true =>
    rw [show cmpR (a, b) (c, d) = cmpI (a * d) (c * b) by unfold cmpR; rw [ht]; rfl]
    rw [Bool.and_eq_true] at ht
    obtain ⟨v1, v2⟩ := ht
    obtain ⟨p1, p2, p3, p4, _⟩ := isVR_t v1
    obtain ⟨p5, p6, p7, p8, _⟩ := isVR_t v2
    dsimp only at p1 p2 p3 p4 p5 p6 p7 p8
    obtain ⟨m1, m2⟩ := cmul_bd p3 p4 p5 p6
    obtain ⟨m3, m4⟩ := cmul_bd p7 p8 p1 p2
    clear v1 v2
    go_enter Tryd.func29, Tryd.ntmps29
    go_upto_region 1 with fail
    refine wp_name ?_
    intro W hW
    have xW : ∃ y, W = ext w y := by rw [hW.out]; exact (by refine Chg.isExt (F := []) ?_ (refl_ext _) (by simp); repeat (with_reducible (first | exact Chg.refl _ _ | exact Nat.le_refl _ | exact Chg.ofExt (by assumption) | refine Chg.trans0 ?_ (by assumption) | refine Chg.extS ?_ _ | refine Chg.alloc ?_ _ | refine Chg.drew ?_ | refine Chg.setCellE ?_ ?_ _ | refine le_addk ?_ _ | refine le_ext ?_ | refine le_alloc ?_ _ | refine le_setC ?_ _ _ | refine le_drew ?_ | assumption | (refine Nat.le_of_lt ?_; omega) | omega)))
    have BW0 : BoxAt W (w.heap.size) #[.int .i64 a, .int .i64 b] := by rw [hW.out]; refine ⟨?_, fun j => ?_, fun j => ?_⟩ <;> go_simp
    obtain ⟨lW0, bW0, fW0⟩ := BW0
    have cW0_0 : W.cell? ⟨w.heap.size, 0, none⟩ = some (.int .i64 a) := bW0 0
    have cW0_1 : W.cell? ⟨w.heap.size, 1, none⟩ = some (.int .i64 b) := bW0 1
    have BW1 : BoxAt W (w.heap.size + 1) #[.int .i64 c, .int .i64 d] := by rw [hW.out]; refine ⟨?_, fun j => ?_, fun j => ?_⟩ <;> go_simp
    obtain ⟨lW1, bW1, fW1⟩ := BW1
    have cW1_0 : W.cell? ⟨w.heap.size + 1, 0, none⟩ = some (.int .i64 c) := bW1 0
    have cW1_1 : W.cell? ⟨w.heap.size + 1, 1, none⟩ = some (.int .i64 d) := bW1 1
    clear hW
    go_wp2_with (first
      | (go_at_call 47; refine bothValid_any.mono ?_; rintro e w1 ⟨rfl, hx1⟩; rw [HT.out]; have P1 := BoxAt.toExt (cs := #[.int .i64 a, .int .i64 b]) ⟨lW0, bW0, fW0⟩ hx1; obtain ⟨_, l1, k1, k1', f1⟩ := box2 P1; have P2 := BoxAt.toExt (cs := #[.int .i64 c, .int .i64 d]) ⟨lW1, bW1, fW1⟩ hx1; obtain ⟨_, l2, k2, k2', f2⟩ := box2 P2)
      | (go_at_call 48; refine compareInts_any.mono ?_; rintro e w2 ⟨rfl, rfl⟩))
    go_ret
    exact ⟨rfl, (by refine Chg.isExt (F := []) ?_ (refl_ext _) (by simp); repeat (with_reducible (first | exact Chg.refl _ _ | exact Nat.le_refl _ | exact Chg.ofExt (by assumption) | refine Chg.trans0 ?_ (by assumption) | refine Chg.extS ?_ _ | refine Chg.alloc ?_ _ | refine Chg.drew ?_ | refine Chg.setCellE ?_ ?_ _ | refine le_addk ?_ _ | refine le_ext ?_ | refine le_alloc ?_ _ | refine le_setC ?_ _ _ | refine le_drew ?_ | assumption | (refine Nat.le_of_lt ?_; omega) | omega)))⟩
set_option maxHeartbeats 4000000 in
theorem specCompareRationals_any {a b c d : Int} {w : World} :
    Calls Tryd.prog 21 #[.agg #[.int .i64 a, .int .i64 b], .agg #[.int .i64 c, .int .i64 d]] w fun e w' => e = .returned (.int .i64 (cmpR (a, b) (c, d))) ∧ ∃ y, w' = ext w y := by
  obtain ⟨t1, ht1⟩ : ∃ t, isVR (a, b) = t := ⟨_, rfl⟩
  obtain ⟨t2, ht2⟩ : ∃ t, isVR (c, d) = t := ⟨_, rfl⟩
  have HT1 := Lib.hid ht1
  have HT2 := Lib.hid ht2
  cases t1 with
  | false =>
    rw [show cmpR (a, b) (c, d) = 0 by unfold cmpR; rw [ht1]; rfl]
    clear ht1 ht2
    go_enter Tryd.func21, Tryd.ntmps21
    go_upto_region 1 with fail
    refine wp_name ?_
    intro W hW
    have xW : ∃ y, W = ext w y := by rw [hW.out]; exact (by refine Chg.isExt (F := []) ?_ (refl_ext _) (by simp); repeat (with_reducible (first | exact Chg.refl _ _ | exact Nat.le_refl _ | exact Chg.ofExt (by assumption) | refine Chg.trans0 ?_ (by assumption) | refine Chg.extS ?_ _ | refine Chg.alloc ?_ _ | refine Chg.drew ?_ | refine Chg.setCellE ?_ ?_ _ | refine le_addk ?_ _ | refine le_ext ?_ | refine le_alloc ?_ _ | refine le_setC ?_ _ _ | refine le_drew ?_ | assumption | (refine Nat.le_of_lt ?_; omega) | omega)))
    have BW0 : BoxAt W (w.heap.size) #[.int .i64 a, .int .i64 b] := by rw [hW.out]; refine ⟨?_, fun j => ?_, fun j => ?_⟩ <;> go_simp
    obtain ⟨lW0, bW0, fW0⟩ := BW0
    have cW0_0 : W.cell? ⟨w.heap.size, 0, none⟩ = some (.int .i64 a) := bW0 0
    have cW0_1 : W.cell? ⟨w.heap.size, 1, none⟩ = some (.int .i64 b) := bW0 1
    have BW1 : BoxAt W (w.heap.size + 1) #[.int .i64 c, .int .i64 d] := by rw [hW.out]; refine ⟨?_, fun j => ?_, fun j => ?_⟩ <;> go_simp
    obtain ⟨lW1, bW1, fW1⟩ := BW1
    have cW1_0 : W.cell? ⟨w.heap.size + 1, 0, none⟩ = some (.int .i64 c) := bW1 0
    have cW1_1 : W.cell? ⟨w.heap.size + 1, 1, none⟩ = some (.int .i64 d) := bW1 1
    clear hW
    have RW0 : BoxAt W w.heap.size #[.int .i64 a, .int .i64 b] := ⟨lW0, bW0, fW0⟩
    have RW1 : BoxAt W (w.heap.size + 1) #[.int .i64 c, .int .i64 d] := ⟨lW1, bW1, fW1⟩
    go_wp2_with (go_at_call 38; refine specIsValidRational_any.mono ?_; rintro e w1 ⟨rfl, hx1⟩; (first | rw [HT1.out] | rw [HT2.out]); have P1 : BoxAt w1 w.heap.size #[.int .i64 a, .int .i64 b] := (by repeat (with_reducible (first | assumption | exact BoxAt.new _ _ _ | apply BoxAt.set2 | refine BoxAt.set2' ?_ (by omega) | apply BoxAt.setP0 | apply BoxAt.setP1 | refine BoxAt.setO ?_ (by omega) | refine BoxAt.alloc ?_ _ | refine BoxAt.drew ?_ | refine BoxAt.toExt ?_ (by assumption)))); obtain ⟨_, l1, k1, k1', f1⟩ := box2 P1; have P2 : BoxAt w1 (w.heap.size + 1) #[.int .i64 c, .int .i64 d] := (by repeat (with_reducible (first | assumption | exact BoxAt.new _ _ _ | apply BoxAt.set2 | refine BoxAt.set2' ?_ (by omega) | apply BoxAt.setP0 | apply BoxAt.setP1 | refine BoxAt.setO ?_ (by omega) | refine BoxAt.alloc ?_ _ | refine BoxAt.drew ?_ | refine BoxAt.toExt ?_ (by assumption)))); obtain ⟨_, l2, k2, k2', f2⟩ := box2 P2)
    go_ret
    exact ⟨rfl, (by refine Chg.isExt (F := []) ?_ (refl_ext _) (by simp); repeat (with_reducible (first | exact Chg.refl _ _ | exact Nat.le_refl _ | exact Chg.ofExt (by assumption) | refine Chg.trans0 ?_ (by assumption) | refine Chg.extS ?_ _ | refine Chg.alloc ?_ _ | refine Chg.drew ?_ | refine Chg.setCellE ?_ ?_ _ | refine le_addk ?_ _ | refine le_ext ?_ | refine le_alloc ?_ _ | refine le_setC ?_ _ _ | refine le_drew ?_ | assumption | (refine Nat.le_of_lt ?_; omega) | omega)))⟩
  | true =>
    cases t2 with
    | false =>
      rw [show cmpR (a, b) (c, d) = 0 by unfold cmpR; rw [ht1, ht2]; rfl]
      clear ht1 ht2
      go_enter Tryd.func21, Tryd.ntmps21
      go_upto_region 1 with fail
      refine wp_name ?_
      intro W hW
      have xW : ∃ y, W = ext w y := by rw [hW.out]; exact (by refine Chg.isExt (F := []) ?_ (refl_ext _) (by simp); repeat (with_reducible (first | exact Chg.refl _ _ | exact Nat.le_refl _ | exact Chg.ofExt (by assumption) | refine Chg.trans0 ?_ (by assumption) | refine Chg.extS ?_ _ | refine Chg.alloc ?_ _ | refine Chg.drew ?_ | refine Chg.setCellE ?_ ?_ _ | refine le_addk ?_ _ | refine le_ext ?_ | refine le_alloc ?_ _ | refine le_setC ?_ _ _ | refine le_drew ?_ | assumption | (refine Nat.le_of_lt ?_; omega) | omega)))
      have BW0 : BoxAt W (w.heap.size) #[.int .i64 a, .int .i64 b] := by rw [hW.out]; refine ⟨?_, fun j => ?_, fun j => ?_⟩ <;> go_simp
      obtain ⟨lW0, bW0, fW0⟩ := BW0
      have cW0_0 : W.cell? ⟨w.heap.size, 0, none⟩ = some (.int .i64 a) := bW0 0
      have cW0_1 : W.cell? ⟨w.heap.size, 1, none⟩ = some (.int .i64 b) := bW0 1
      have BW1 : BoxAt W (w.heap.size + 1) #[.int .i64 c, .int .i64 d] := by rw [hW.out]; refine ⟨?_, fun j => ?_, fun j => ?_⟩ <;> go_simp
      obtain ⟨lW1, bW1, fW1⟩ := BW1
      have cW1_0 : W.cell? ⟨w.heap.size + 1, 0, none⟩ = some (.int .i64 c) := bW1 0
      have cW1_1 : W.cell? ⟨w.heap.size + 1, 1, none⟩ = some (.int .i64 d) := bW1 1
      clear hW
      have RW0 : BoxAt W w.heap.size #[.int .i64 a, .int .i64 b] := ⟨lW0, bW0, fW0⟩
      have RW1 : BoxAt W (w.heap.size + 1) #[.int .i64 c, .int .i64 d] := ⟨lW1, bW1, fW1⟩
      go_wp2_with (go_at_call 38; refine specIsValidRational_any.mono ?_; rintro e w1 ⟨rfl, hx1⟩; (first | rw [HT1.out] | rw [HT2.out]); have P1 : BoxAt w1 w.heap.size #[.int .i64 a, .int .i64 b] := (by repeat (with_reducible (first | assumption | exact BoxAt.new _ _ _ | apply BoxAt.set2 | refine BoxAt.set2' ?_ (by omega) | apply BoxAt.setP0 | apply BoxAt.setP1 | refine BoxAt.setO ?_ (by omega) | refine BoxAt.alloc ?_ _ | refine BoxAt.drew ?_ | refine BoxAt.toExt ?_ (by assumption)))); obtain ⟨_, l1, k1, k1', f1⟩ := box2 P1; have P2 : BoxAt w1 (w.heap.size + 1) #[.int .i64 c, .int .i64 d] := (by repeat (with_reducible (first | assumption | exact BoxAt.new _ _ _ | apply BoxAt.set2 | refine BoxAt.set2' ?_ (by omega) | apply BoxAt.setP0 | apply BoxAt.setP1 | refine BoxAt.setO ?_ (by omega) | refine BoxAt.alloc ?_ _ | refine BoxAt.drew ?_ | refine BoxAt.toExt ?_ (by assumption)))); obtain ⟨_, l2, k2, k2', f2⟩ := box2 P2)
      go_ret
      exact ⟨rfl, (by refine Chg.isExt (F := []) ?_ (refl_ext _) (by simp); repeat (with_reducible (first | exact Chg.refl _ _ | exact Nat.le_refl _ | exact Chg.ofExt (by assumption) | refine Chg.trans0 ?_ (by assumption) | refine Chg.extS ?_ _ | refine Chg.alloc ?_ _ | refine Chg.drew ?_ | refine Chg.setCellE ?_ ?_ _ | refine le_addk ?_ _ | refine le_ext ?_ | refine le_alloc ?_ _ | refine le_setC ?_ _ _ | refine le_drew ?_ | assumption | (refine Nat.le_of_lt ?_; omega) | omega)))⟩
    | true =>
      rw [show cmpR (a, b) (c, d) = cmpI (a * d) (c * b) by unfold cmpR; rw [ht1, ht2]; rfl]
      obtain ⟨p1, p2, p3, p4, _⟩ := isVR_t ht1
      obtain ⟨p5, p6, p7, p8, _⟩ := isVR_t ht2
      dsimp only at p1 p2 p3 p4 p5 p6 p7 p8
      obtain ⟨m1, m2⟩ := cmul_bd p3 p4 p5 p6
      obtain ⟨m3, m4⟩ := cmul_bd p7 p8 p1 p2
      clear ht1 ht2
      by_cases h1 : a * d < c * b
      · rw [cmpI_lt h1]
        go_enter Tryd.func21, Tryd.ntmps21
        go_upto_region 1 with fail
        refine wp_name ?_
        intro W hW
        have xW : ∃ y, W = ext w y := by rw [hW.out]; exact (by refine Chg.isExt (F := []) ?_ (refl_ext _) (by simp); repeat (with_reducible (first | exact Chg.refl _ _ | exact Nat.le_refl _ | exact Chg.ofExt (by assumption) | refine Chg.trans0 ?_ (by assumption) | refine Chg.extS ?_ _ | refine Chg.alloc ?_ _ | refine Chg.drew ?_ | refine Chg.setCellE ?_ ?_ _ | refine le_addk ?_ _ | refine le_ext ?_ | refine le_alloc ?_ _ | refine le_setC ?_ _ _ | refine le_drew ?_ | assumption | (refine Nat.le_of_lt ?_; omega) | omega)))
        have BW0 : BoxAt W (w.heap.size) #[.int .i64 a, .int .i64 b] := by rw [hW.out]; refine ⟨?_, fun j => ?_, fun j => ?_⟩ <;> go_simp
        obtain ⟨lW0, bW0, fW0⟩ := BW0
        have cW0_0 : W.cell? ⟨w.heap.size, 0, none⟩ = some (.int .i64 a) := bW0 0
        have cW0_1 : W.cell? ⟨w.heap.size, 1, none⟩ = some (.int .i64 b) := bW0 1
        have BW1 : BoxAt W (w.heap.size + 1) #[.int .i64 c, .int .i64 d] := by rw [hW.out]; refine ⟨?_, fun j => ?_, fun j => ?_⟩ <;> go_simp
        obtain ⟨lW1, bW1, fW1⟩ := BW1
        have cW1_0 : W.cell? ⟨w.heap.size + 1, 0, none⟩ = some (.int .i64 c) := bW1 0
        have cW1_1 : W.cell? ⟨w.heap.size + 1, 1, none⟩ = some (.int .i64 d) := bW1 1
        clear hW
        have RW0 : BoxAt W w.heap.size #[.int .i64 a, .int .i64 b] := ⟨lW0, bW0, fW0⟩
        have RW1 : BoxAt W (w.heap.size + 1) #[.int .i64 c, .int .i64 d] := ⟨lW1, bW1, fW1⟩
        go_wp2_with (go_at_call 38; refine specIsValidRational_any.mono ?_; rintro e w1 ⟨rfl, hx1⟩; (first | rw [HT1.out] | rw [HT2.out]); have P1 : BoxAt w1 w.heap.size #[.int .i64 a, .int .i64 b] := (by repeat (with_reducible (first | assumption | exact BoxAt.new _ _ _ | apply BoxAt.set2 | refine BoxAt.set2' ?_ (by omega) | apply BoxAt.setP0 | apply BoxAt.setP1 | refine BoxAt.setO ?_ (by omega) | refine BoxAt.alloc ?_ _ | refine BoxAt.drew ?_ | refine BoxAt.toExt ?_ (by assumption)))); obtain ⟨_, l1, k1, k1', f1⟩ := box2 P1; have P2 : BoxAt w1 (w.heap.size + 1) #[.int .i64 c, .int .i64 d] := (by repeat (with_reducible (first | assumption | exact BoxAt.new _ _ _ | apply BoxAt.set2 | refine BoxAt.set2' ?_ (by omega) | apply BoxAt.setP0 | apply BoxAt.setP1 | refine BoxAt.setO ?_ (by omega) | refine BoxAt.alloc ?_ _ | refine BoxAt.drew ?_ | refine BoxAt.toExt ?_ (by assumption)))); obtain ⟨_, l2, k2, k2', f2⟩ := box2 P2)
        go_ret
        exact ⟨rfl, (by refine Chg.isExt (F := []) ?_ (refl_ext _) (by simp); repeat (with_reducible (first | exact Chg.refl _ _ | exact Nat.le_refl _ | exact Chg.ofExt (by assumption) | refine Chg.trans0 ?_ (by assumption) | refine Chg.extS ?_ _ | refine Chg.alloc ?_ _ | refine Chg.drew ?_ | refine Chg.setCellE ?_ ?_ _ | refine le_addk ?_ _ | refine le_ext ?_ | refine le_alloc ?_ _ | refine le_setC ?_ _ _ | refine le_drew ?_ | assumption | (refine Nat.le_of_lt ?_; omega) | omega)))⟩
      · by_cases h2 : c * b < a * d
        · rw [cmpI_gt h2]
          go_enter Tryd.func21, Tryd.ntmps21
          go_upto_region 1 with fail
          refine wp_name ?_
          intro W hW
          have xW : ∃ y, W = ext w y := by rw [hW.out]; exact (by refine Chg.isExt (F := []) ?_ (refl_ext _) (by simp); repeat (with_reducible (first | exact Chg.refl _ _ | exact Nat.le_refl _ | exact Chg.ofExt (by assumption) | refine Chg.trans0 ?_ (by assumption) | refine Chg.extS ?_ _ | refine Chg.alloc ?_ _ | refine Chg.drew ?_ | refine Chg.setCellE ?_ ?_ _ | refine le_addk ?_ _ | refine le_ext ?_ | refine le_alloc ?_ _ | refine le_setC ?_ _ _ | refine le_drew ?_ | assumption | (refine Nat.le_of_lt ?_; omega) | omega)))
          have BW0 : BoxAt W (w.heap.size) #[.int .i64 a, .int .i64 b] := by rw [hW.out]; refine ⟨?_, fun j => ?_, fun j => ?_⟩ <;> go_simp
          obtain ⟨lW0, bW0, fW0⟩ := BW0
          have cW0_0 : W.cell? ⟨w.heap.size, 0, none⟩ = some (.int .i64 a) := bW0 0
          have cW0_1 : W.cell? ⟨w.heap.size, 1, none⟩ = some (.int .i64 b) := bW0 1
          have BW1 : BoxAt W (w.heap.size + 1) #[.int .i64 c, .int .i64 d] := by rw [hW.out]; refine ⟨?_, fun j => ?_, fun j => ?_⟩ <;> go_simp
          obtain ⟨lW1, bW1, fW1⟩ := BW1
          have cW1_0 : W.cell? ⟨w.heap.size + 1, 0, none⟩ = some (.int .i64 c) := bW1 0
          have cW1_1 : W.cell? ⟨w.heap.size + 1, 1, none⟩ = some (.int .i64 d) := bW1 1
          clear hW
          have RW0 : BoxAt W w.heap.size #[.int .i64 a, .int .i64 b] := ⟨lW0, bW0, fW0⟩
          have RW1 : BoxAt W (w.heap.size + 1) #[.int .i64 c, .int .i64 d] := ⟨lW1, bW1, fW1⟩
          go_wp2_with (go_at_call 38; refine specIsValidRational_any.mono ?_; rintro e w1 ⟨rfl, hx1⟩; (first | rw [HT1.out] | rw [HT2.out]); have P1 : BoxAt w1 w.heap.size #[.int .i64 a, .int .i64 b] := (by repeat (with_reducible (first | assumption | exact BoxAt.new _ _ _ | apply BoxAt.set2 | refine BoxAt.set2' ?_ (by omega) | apply BoxAt.setP0 | apply BoxAt.setP1 | refine BoxAt.setO ?_ (by omega) | refine BoxAt.alloc ?_ _ | refine BoxAt.drew ?_ | refine BoxAt.toExt ?_ (by assumption)))); obtain ⟨_, l1, k1, k1', f1⟩ := box2 P1; have P2 : BoxAt w1 (w.heap.size + 1) #[.int .i64 c, .int .i64 d] := (by repeat (with_reducible (first | assumption | exact BoxAt.new _ _ _ | apply BoxAt.set2 | refine BoxAt.set2' ?_ (by omega) | apply BoxAt.setP0 | apply BoxAt.setP1 | refine BoxAt.setO ?_ (by omega) | refine BoxAt.alloc ?_ _ | refine BoxAt.drew ?_ | refine BoxAt.toExt ?_ (by assumption)))); obtain ⟨_, l2, k2, k2', f2⟩ := box2 P2)
          go_ret
          exact ⟨rfl, (by refine Chg.isExt (F := []) ?_ (refl_ext _) (by simp); repeat (with_reducible (first | exact Chg.refl _ _ | exact Nat.le_refl _ | exact Chg.ofExt (by assumption) | refine Chg.trans0 ?_ (by assumption) | refine Chg.extS ?_ _ | refine Chg.alloc ?_ _ | refine Chg.drew ?_ | refine Chg.setCellE ?_ ?_ _ | refine le_addk ?_ _ | refine le_ext ?_ | refine le_alloc ?_ _ | refine le_setC ?_ _ _ | refine le_drew ?_ | assumption | (refine Nat.le_of_lt ?_; omega) | omega)))⟩
        · rw [cmpI_eq (by omega)]
          go_enter Tryd.func21, Tryd.ntmps21
          go_upto_region 1 with fail
          refine wp_name ?_
          intro W hW
          have xW : ∃ y, W = ext w y := by rw [hW.out]; exact (by refine Chg.isExt (F := []) ?_ (refl_ext _) (by simp); repeat (with_reducible (first | exact Chg.refl _ _ | exact Nat.le_refl _ | exact Chg.ofExt (by assumption) | refine Chg.trans0 ?_ (by assumption) | refine Chg.extS ?_ _ | refine Chg.alloc ?_ _ | refine Chg.drew ?_ | refine Chg.setCellE ?_ ?_ _ | refine le_addk ?_ _ | refine le_ext ?_ | refine le_alloc ?_ _ | refine le_setC ?_ _ _ | refine le_drew ?_ | assumption | (refine Nat.le_of_lt ?_; omega) | omega)))
          have BW0 : BoxAt W (w.heap.size) #[.int .i64 a, .int .i64 b] := by rw [hW.out]; refine ⟨?_, fun j => ?_, fun j => ?_⟩ <;> go_simp
          obtain ⟨lW0, bW0, fW0⟩ := BW0
          have cW0_0 : W.cell? ⟨w.heap.size, 0, none⟩ = some (.int .i64 a) := bW0 0
          have cW0_1 : W.cell? ⟨w.heap.size, 1, none⟩ = some (.int .i64 b) := bW0 1
          have BW1 : BoxAt W (w.heap.size + 1) #[.int .i64 c, .int .i64 d] := by rw [hW.out]; refine ⟨?_, fun j => ?_, fun j => ?_⟩ <;> go_simp
          obtain ⟨lW1, bW1, fW1⟩ := BW1
          have cW1_0 : W.cell? ⟨w.heap.size + 1, 0, none⟩ = some (.int .i64 c) := bW1 0
          have cW1_1 : W.cell? ⟨w.heap.size + 1, 1, none⟩ = some (.int .i64 d) := bW1 1
          clear hW
          have RW0 : BoxAt W w.heap.size #[.int .i64 a, .int .i64 b] := ⟨lW0, bW0, fW0⟩
          have RW1 : BoxAt W (w.heap.size + 1) #[.int .i64 c, .int .i64 d] := ⟨lW1, bW1, fW1⟩
          go_wp2_with (go_at_call 38; refine specIsValidRational_any.mono ?_; rintro e w1 ⟨rfl, hx1⟩; (first | rw [HT1.out] | rw [HT2.out]); have P1 : BoxAt w1 w.heap.size #[.int .i64 a, .int .i64 b] := (by repeat (with_reducible (first | assumption | exact BoxAt.new _ _ _ | apply BoxAt.set2 | refine BoxAt.set2' ?_ (by omega) | apply BoxAt.setP0 | apply BoxAt.setP1 | refine BoxAt.setO ?_ (by omega) | refine BoxAt.alloc ?_ _ | refine BoxAt.drew ?_ | refine BoxAt.toExt ?_ (by assumption)))); obtain ⟨_, l1, k1, k1', f1⟩ := box2 P1; have P2 : BoxAt w1 (w.heap.size + 1) #[.int .i64 c, .int .i64 d] := (by repeat (with_reducible (first | assumption | exact BoxAt.new _ _ _ | apply BoxAt.set2 | refine BoxAt.set2' ?_ (by omega) | apply BoxAt.setP0 | apply BoxAt.setP1 | refine BoxAt.setO ?_ (by omega) | refine BoxAt.alloc ?_ _ | refine BoxAt.drew ?_ | refine BoxAt.toExt ?_ (by assumption)))); obtain ⟨_, l2, k2, k2', f2⟩ := box2 P2)
          go_ret
          exact ⟨rfl, (by refine Chg.isExt (F := []) ?_ (refl_ext _) (by simp); repeat (with_reducible (first | exact Chg.refl _ _ | exact Nat.le_refl _ | exact Chg.ofExt (by assumption) | refine Chg.trans0 ?_ (by assumption) | refine Chg.extS ?_ _ | refine Chg.alloc ?_ _ | refine Chg.drew ?_ | refine Chg.setCellE ?_ ?_ _ | refine le_addk ?_ _ | refine le_ext ?_ | refine le_alloc ?_ _ | refine le_setC ?_ _ _ | refine le_drew ?_ | assumption | (refine Nat.le_of_lt ?_; omega) | omega)))⟩
theorem allW_step {α : Type} {p : α → Bool} {xs : List α} {k : Nat} (h : k < xs.length) : (xs.drop k).all p = (p xs[k] && (xs.drop (k + 1)).all p) := by
  rw [List.drop_eq_getElem_cons h, List.all_cons]
theorem allW_end {α : Type} {p : α → Bool} {xs : List α} {k : Nat} (h : ¬ k < xs.length) : (xs.drop k).all p = true := by
  rw [List.drop_eq_nil_of_le (by omega)]; rfl
set_option maxHeartbeats 4000000 in
theorem admissible_any {A : Option Addr} {c : Nat} {xs : List (Int × Int)} {w : World} (hx : xs.length ≤ 1000000000) (h1 : RR w A xs) :
    Calls Tryd.prog 26 #[.slice A xs.length c] w fun e w' => e = .returned (.bool (xs.all admR)) ∧ ∃ y, w' = ext w y := by
  go_enter Tryd.func26, Tryd.ntmps26
  go_wp2
  go_loopw [7] (fun i wr => ∃ k : Nat, i = .int .i64 k ∧ k ≤ xs.length ∧ (xs.drop k).all admR = xs.all admR ∧ ∃ y, wr = ext w y) (fun i _ => xs.length - (intOf i).toNat)
  case atStart => exact ⟨0, rfl, by omega, by simp, refl_ext w⟩
  case round =>
    obtain ⟨k, rfl, hk, hj, hy⟩ := hrel
    have Hj := Lib.hid hj
    clear hj
    by_cases hlt : k < xs.length
    · obtain ⟨b, o, rfl, hb, hc, hd⟩ := (h1.toExt hy).atR hlt
      have e := Hj.out
      rw [allW_step hlt] at e
      obtain ⟨p, hp⟩ : ∃ p, xs[k] = p := ⟨_, rfl⟩
      rw [hp] at e hc hd
      obtain ⟨x, z⟩ := p
      dsimp only at hc hd
      obtain ⟨t1, ht1⟩ : ∃ t, isVR (x, z) = t := ⟨_, rfl⟩
      obtain ⟨t2, ht2⟩ : ∃ t, inB x 0 1000 = t := ⟨_, rfl⟩
      have HT1 := Lib.hid ht1
      have HT2 := Lib.hid ht2
      rw [show admR (x, z) = (t1 && t2 && decide (z ≤ 1000)) by unfold admR; rw [ht1, ht2]] at e
      clear hp ht1 ht2
      by_cases hz : z ≤ 1000
      all_goals
        cases t1 <;> cases t2
        all_goals
          first
            | rw [decide_eq_true hz] at e
            | rw [decide_eq_false hz] at e
          simp only [Bool.true_and, Bool.false_and, Bool.and_true, Bool.and_false] at e
          have He := Lib.hid e
          clear e
          go_wp2_with (first
            | (go_at_call 44; refine IsValidRational_any.mono ?_; rintro e w1 ⟨rfl, hx1⟩; rw [HT1.out]; have P1 : BoxAt w1 wr.heap.size #[.int .i64 x, .int .i64 z] := (by repeat (with_reducible (first | assumption | exact BoxAt.new _ _ _ | apply BoxAt.set2 | refine BoxAt.set2' ?_ (by omega) | apply BoxAt.setP0 | apply BoxAt.setP1 | refine BoxAt.setO ?_ (by omega) | refine BoxAt.alloc ?_ _ | refine BoxAt.drew ?_ | refine BoxAt.toExt ?_ (by assumption)))); obtain ⟨_, l1, k1, k1', f1⟩ := box2 P1)
            | (go_at_call 41; refine (within_any _ _ _ _).mono ?_; rintro e w' ⟨rfl, rfl⟩; rw [HT2.out]))
          first
            | exact ⟨⟨k + 1, by go_num, by omega, He.out, (by refine Chg.isExt (F := []) ?_ (refl_ext _) (by simp); repeat (with_reducible (first | exact Chg.refl _ _ | exact Nat.le_refl _ | exact Chg.ofExt (by assumption) | refine Chg.trans0 ?_ (by assumption) | refine Chg.extS ?_ _ | refine Chg.alloc ?_ _ | refine Chg.drew ?_ | refine Chg.setCellE ?_ ?_ _ | refine le_addk ?_ _ | refine le_ext ?_ | refine le_alloc ?_ _ | refine le_setC ?_ _ _ | refine le_drew ?_ | assumption | (refine Nat.le_of_lt ?_; omega) | omega)))⟩, by simp [intOf]; omega⟩
            | (go_ret; exact ⟨by rw [← He.out]; rfl, (by refine Chg.isExt (F := []) ?_ (refl_ext _) (by simp); repeat (with_reducible (first | exact Chg.refl _ _ | exact Nat.le_refl _ | exact Chg.ofExt (by assumption) | refine Chg.trans0 ?_ (by assumption) | refine Chg.extS ?_ _ | refine Chg.alloc ?_ _ | refine Chg.drew ?_ | refine Chg.setCellE ?_ ?_ _ | refine le_addk ?_ _ | refine le_ext ?_ | refine le_alloc ?_ _ | refine le_setC ?_ _ _ | refine le_drew ?_ | assumption | (refine Nat.le_of_lt ?_; omega) | omega)))⟩)
    · have e := Hj.out
      rw [allW_end hlt] at e
      have He := Lib.hid e
      clear e
      go_wp2
      go_ret
      exact ⟨by rw [← He.out]; rfl, hy⟩
set_option maxHeartbeats 4000000 in
theorem l12Small_any {A : Option Addr} {c n : Nat} {xs : List (Int × Int)} {w : World} (hx : xs.length ≤ 1000000000) (_hn : n ≤ 1000000000) (h1 : RR w A xs) :
    Calls Tryd.prog 18 #[.slice A xs.length c, .int .i64 n] w fun e w' => e = .returned (.bool (xs.all admR && decide (xs.length = n))) ∧ ∃ y, w' = ext w y := by
  have HL := Lib.hid (show ((xs.length : Int) == (n : Int)) = decide (xs.length = n) by rw [Bool.eq_iff_iff]; simp; omega)
  go_enter Tryd.func18, Tryd.ntmps18
  go_wp2
  go_loopw [5] (fun i wr => ∃ k : Nat, i = .int .i64 k ∧ k ≤ xs.length ∧ (xs.drop k).all admR = xs.all admR ∧ ∃ y, wr = ext w y) (fun i _ => xs.length - (intOf i).toNat)
  case atStart => exact ⟨0, rfl, by omega, by simp, refl_ext w⟩
  case round =>
    obtain ⟨k, rfl, hk, hj, hy⟩ := hrel
    have Hj := Lib.hid hj
    clear hj
    by_cases hlt : k < xs.length
    · obtain ⟨b, o, rfl, hb, hc, hd⟩ := (h1.toExt hy).atR hlt
      have e := Hj.out
      rw [allW_step hlt] at e
      obtain ⟨p, hp⟩ : ∃ p, xs[k] = p := ⟨_, rfl⟩
      rw [hp] at e hc hd
      obtain ⟨x, z⟩ := p
      dsimp only at hc hd
      obtain ⟨t1, ht1⟩ : ∃ t, isVR (x, z) = t := ⟨_, rfl⟩
      have HT1 := Lib.hid ht1
      rw [show admR (x, z) = (t1 && decide (0 ≤ x ∧ x ≤ 1000) && decide (z ≤ 1000)) by unfold admR inB; rw [ht1]] at e
      clear hp ht1
      by_cases hz : z ≤ 1000 <;> by_cases hx0 : 0 ≤ x <;> by_cases hx1 : x ≤ 1000 <;> try (exfalso; omega)
      all_goals
        cases t1
        all_goals
          first
            | rw [decide_eq_true hz] at e
            | rw [decide_eq_false hz] at e
          first
            | rw [decide_eq_true (show 0 ≤ x ∧ x ≤ 1000 from ⟨hx0, hx1⟩)] at e
            | rw [decide_eq_false (show ¬ (0 ≤ x ∧ x ≤ 1000) from fun h => hx0 h.1)] at e
            | rw [decide_eq_false (show ¬ (0 ≤ x ∧ x ≤ 1000) from fun h => hx1 h.2)] at e
          simp only [Bool.true_and, Bool.false_and, Bool.and_true, Bool.and_false] at e
          have He := Lib.hid e
          clear e
          go_wp2_with (go_at_call 38; refine specIsValidRational_any.mono ?_; rintro e w1 ⟨rfl, y1, rfl⟩; rw [HT1.out])
          first
            | exact ⟨⟨k + 1, by go_num, by omega, He.out, (by refine Chg.isExt (F := []) ?_ (refl_ext _) (by simp); repeat (with_reducible (first | exact Chg.refl _ _ | exact Nat.le_refl _ | exact Chg.ofExt (by assumption) | refine Chg.trans0 ?_ (by assumption) | refine Chg.extS ?_ _ | refine Chg.alloc ?_ _ | refine Chg.drew ?_ | refine Chg.setCellE ?_ ?_ _ | refine le_addk ?_ _ | refine le_ext ?_ | refine le_alloc ?_ _ | refine le_setC ?_ _ _ | refine le_drew ?_ | assumption | (refine Nat.le_of_lt ?_; omega) | omega)))⟩, by simp [intOf]; omega⟩
            | (go_ret; exact ⟨by rw [← He.out]; rfl, (by refine Chg.isExt (F := []) ?_ (refl_ext _) (by simp); repeat (with_reducible (first | exact Chg.refl _ _ | exact Nat.le_refl _ | exact Chg.ofExt (by assumption) | refine Chg.trans0 ?_ (by assumption) | refine Chg.extS ?_ _ | refine Chg.alloc ?_ _ | refine Chg.drew ?_ | refine Chg.setCellE ?_ ?_ _ | refine le_addk ?_ _ | refine le_ext ?_ | refine le_alloc ?_ _ | refine le_setC ?_ _ _ | refine le_drew ?_ | assumption | (refine Nat.le_of_lt ?_; omega) | omega)))⟩)
    · have e := Hj.out
      rw [allW_end hlt] at e
      have He := Lib.hid e
      clear e
      go_wp2
      go_ret
      exact ⟨by rw [← He.out, Bool.true_and, ← HL.out]; rfl, hy⟩
end Go.Proofs.YtgehnacmgofobaaDoor
