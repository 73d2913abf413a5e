/- Rational numbers as text; of the program and of the reference alike. -/
import Derived.Test.YthhdmdmjadpgjaaRatArith
import Derived.Test.YthhdmdmjadpgjaaFmt
namespace Go.Proofs.Ythhdmdmjadpgjaa
open Go.RowKit

def ratText (r : Int × Int) : ByteArray := if isVR r = true then (if r.2 = 1 then decI r.1 else decI r.1 ++ ⟨#[47]⟩ ++ decI r.2) else ⟨#[]⟩
theorem decI_pos_size (z : Int) : 1 ≤ (decI z).size := by
  have h : 1 ≤ (dec z.natAbs).length := List.length_pos_iff.2 (dec_ne _)
  unfold decI
  split <;> rw [bs_size] <;> simp <;> omega
theorem ratText_size {r : Int × Int} (h : isVR r = true) : 1 ≤ (ratText r).size ∧ (ratText r).size ≤ 41 := by
  obtain ⟨h1, h2, h3, h4, _⟩ := isVR_t h
  have a1 := decI_pos_size r.1
  have a2 := decI_size (z := r.1) (by omega) (by omega)
  have a3 := decI_pos_size r.2
  have a4 := decI_size (z := r.2) (by omega) (by omega)
  unfold ratText
  rw [if_pos h]
  split
  · omega
  · rw [ba_size, ba_size, show (ByteArray.mk #[47]).size = 1 from rfl]
    omega
set_option maxHeartbeats 1000000 in
theorem FormatRational_any {a b : Int} {w : World} :
    Calls Try.prog 7 #[.agg #[.int .i64 a, .int .i64 b]] w fun e w' => e = .returned (.string (ratText (a, b))) ∧ ∃ y, w' = ext w y := by
  by_cases hv : isVR (a, b) = true
  · have v := isVR_t hv
    dsimp only at v
    obtain ⟨p1, p2, p3, p4, _⟩ := v
    by_cases hb : b = 1
    · have hb1 : (b == 1) = true := by simp [hb]
      rw [show ratText (a, b) = decI a by unfold ratText; rw [if_pos hv, if_pos hb]]
      clear hb
      go_enter Try.func7, Try.ntmps7
      go_wp2_with (first | (go_at_call 23; refine IsValidRational_any.mono ?_; rintro e w1 ⟨rfl, y, rfl⟩; rw [hv]) | (go_at_call 24; refine (FormatInt_any (by omega) (by omega)).mono ?_; rintro e w1 ⟨rfl, hx1⟩))
      go_ret
      exact ⟨rfl, (by refine Chg.isExt (F := []) ?_ (refl_ext _) (by simp); repeat (with_reducible (first | exact Chg.refl _ _ | exact Nat.le_refl _ | exact Chg.ofExt (by assumption) | refine Chg.trans0 ?_ (by assumption) | refine Chg.extS ?_ _ | refine Chg.alloc ?_ _ | refine Chg.drew ?_ | refine Chg.setCellE ?_ ?_ _ | refine le_addk ?_ _ | refine le_ext ?_ | refine le_alloc ?_ _ | refine le_setC ?_ _ _ | refine le_drew ?_ | assumption | (refine Nat.le_of_lt ?_; omega) | omega)))⟩
    · have hb1 : (b == 1) = false := by simp [hb]
      have u1 := decI_size (z := a) (by omega) (by omega)
      have u2 := decI_size (z := b) (by omega) (by omega)
      rw [show ratText (a, b) = decI a ++ ⟨#[47]⟩ ++ decI b by unfold ratText; rw [if_pos hv, if_neg hb]]
      clear hb
      go_enter Try.func7, Try.ntmps7
      go_upto_region 1 with fail
      refine wp_name ?_
      intro W hW
      have xW : ∃ y, W = ext w y := by rw [hW.out]; exact (by refine Chg.isExt (F := []) ?_ (refl_ext _) (by simp); repeat (with_reducible (first | exact Chg.refl _ _ | exact Nat.le_refl _ | exact Chg.ofExt (by assumption) | refine Chg.trans0 ?_ (by assumption) | refine Chg.extS ?_ _ | refine Chg.alloc ?_ _ | refine Chg.drew ?_ | refine Chg.setCellE ?_ ?_ _ | refine le_addk ?_ _ | refine le_ext ?_ | refine le_alloc ?_ _ | refine le_setC ?_ _ _ | refine le_drew ?_ | assumption | (refine Nat.le_of_lt ?_; omega) | omega)))
      have BW0 : BoxAt W (w.heap.size) #[.int .i64 a, .int .i64 b] := by rw [hW.out]; refine ⟨?_, fun j => ?_, fun j => ?_⟩ <;> go_simp
      obtain ⟨lW0, bW0, fW0⟩ := BW0
      have cW0_0 : W.cell? ⟨w.heap.size, 0, none⟩ = some (.int .i64 a) := bW0 0
      have cW0_1 : W.cell? ⟨w.heap.size, 1, none⟩ = some (.int .i64 b) := bW0 1
      clear hW
      go_wp2_with (first | (go_at_call 23; refine IsValidRational_any.mono ?_; rintro e w1 ⟨rfl, y, rfl⟩; rw [hv]))
      refine wp_region_ext (by kernel_rfl) (by kernel_rfl) ?_
      repeat (go_big_quiet_step ((go_at_call 24; exact quietE (FormatInt_any (by omega) (by omega)))))
      refine wpQuiet_nil ?_
      rintro _ ⟨z, rfl⟩
      go_wp2
      go_ret
      exact ⟨rfl, (by refine Chg.isExt (F := []) ?_ (refl_ext _) (by simp); repeat (with_reducible (first | exact Chg.refl _ _ | exact Nat.le_refl _ | exact Chg.ofExt (by assumption) | refine Chg.trans0 ?_ (by assumption) | refine Chg.extS ?_ _ | refine Chg.alloc ?_ _ | refine Chg.drew ?_ | refine Chg.setCellE ?_ ?_ _ | refine le_addk ?_ _ | refine le_ext ?_ | refine le_alloc ?_ _ | refine le_setC ?_ _ _ | refine le_drew ?_ | assumption | (refine Nat.le_of_lt ?_; omega) | omega)))⟩
  · have hv : isVR (a, b) = false := by simpa using hv
    rw [show ratText (a, b) = ⟨#[]⟩ by unfold ratText; rw [if_neg (by simp [hv])]]
    go_enter Try.func7, Try.ntmps7
    go_wp2_with (first | (go_at_call 23; refine IsValidRational_any.mono ?_; rintro e w1 ⟨rfl, y, rfl⟩; rw [hv]))
    go_ret
    exact ⟨rfl, (by refine Chg.isExt (F := []) ?_ (refl_ext _) (by simp); repeat (with_reducible (first | exact Chg.refl _ _ | exact Nat.le_refl _ | exact Chg.ofExt (by assumption) | refine Chg.trans0 ?_ (by assumption) | refine Chg.extS ?_ _ | refine Chg.alloc ?_ _ | refine Chg.drew ?_ | refine Chg.setCellE ?_ ?_ _ | refine le_addk ?_ _ | refine le_ext ?_ | refine le_alloc ?_ _ | refine le_setC ?_ _ _ | refine le_drew ?_ | assumption | (refine Nat.le_of_lt ?_; omega) | omega)))⟩
theorem l2Dec_all {z : Int} {w : World} (h1 : -9223372036854775808 ≤ z) (h2 : z ≤ 9223372036854775807) :
    Calls Try.prog 42 #[.int .i64 z] w fun e w' => e = .returned (.string (decI z)) ∧ ∃ y, w' = ext w y := l2Dec_any (z.natAbs + 1) (Nat.lt_succ_self _) h1 h2
set_option maxHeartbeats 1000000 in
theorem specFormatRational_any {a b : Int} {w : World} :
    Calls Try.prog 25 #[.agg #[.int .i64 a, .int .i64 b]] w fun e w' => e = .returned (.string (ratText (a, b))) ∧ ∃ y, w' = ext w y := by
  by_cases hv : isVR (a, b) = true
  · have v := isVR_t hv
    dsimp only at v
    obtain ⟨p1, p2, p3, p4, _⟩ := v
    by_cases hb : b = 1
    · have hb1 : (b == 1) = true := by simp [hb]
      rw [show ratText (a, b) = decI a by unfold ratText; rw [if_pos hv, if_pos hb]]
      clear hb
      go_enter Try.func25, Try.ntmps25
      go_wp2_with (first | (go_at_call 15; refine specIsValidRational_any.mono ?_; rintro e w1 ⟨rfl, y, rfl⟩; rw [hv]) | (go_at_call 42; refine (l2Dec_all (by omega) (by omega)).mono ?_; rintro e w1 ⟨rfl, hx1⟩))
      go_ret
      exact ⟨rfl, (by refine Chg.isExt (F := []) ?_ (refl_ext _) (by simp); repeat (with_reducible (first | exact Chg.refl _ _ | exact Nat.le_refl _ | exact Chg.ofExt (by assumption) | refine Chg.trans0 ?_ (by assumption) | refine Chg.extS ?_ _ | refine Chg.alloc ?_ _ | refine Chg.drew ?_ | refine Chg.setCellE ?_ ?_ _ | refine le_addk ?_ _ | refine le_ext ?_ | refine le_alloc ?_ _ | refine le_setC ?_ _ _ | refine le_drew ?_ | assumption | (refine Nat.le_of_lt ?_; omega) | omega)))⟩
    · have hb1 : (b == 1) = false := by simp [hb]
      have u1 := decI_size (z := a) (by omega) (by omega)
      have u2 := decI_size (z := b) (by omega) (by omega)
      rw [show ratText (a, b) = decI a ++ ⟨#[47]⟩ ++ decI b by unfold ratText; rw [if_pos hv, if_neg hb]]
      clear hb
      go_enter Try.func25, Try.ntmps25
      go_upto_region 1 with fail
      refine wp_name ?_
      intro W hW
      have xW : ∃ y, W = ext w y := by rw [hW.out]; exact (by refine Chg.isExt (F := []) ?_ (refl_ext _) (by simp); repeat (with_reducible (first | exact Chg.refl _ _ | exact Nat.le_refl _ | exact Chg.ofExt (by assumption) | refine Chg.trans0 ?_ (by assumption) | refine Chg.extS ?_ _ | refine Chg.alloc ?_ _ | refine Chg.drew ?_ | refine Chg.setCellE ?_ ?_ _ | refine le_addk ?_ _ | refine le_ext ?_ | refine le_alloc ?_ _ | refine le_setC ?_ _ _ | refine le_drew ?_ | assumption | (refine Nat.le_of_lt ?_; omega) | omega)))
      have BW0 : BoxAt W (w.heap.size) #[.int .i64 a, .int .i64 b] := by rw [hW.out]; refine ⟨?_, fun j => ?_, fun j => ?_⟩ <;> go_simp
      obtain ⟨lW0, bW0, fW0⟩ := BW0
      have cW0_0 : W.cell? ⟨w.heap.size, 0, none⟩ = some (.int .i64 a) := bW0 0
      have cW0_1 : W.cell? ⟨w.heap.size, 1, none⟩ = some (.int .i64 b) := bW0 1
      clear hW
      go_wp2_with (first | (go_at_call 15; refine specIsValidRational_any.mono ?_; rintro e w1 ⟨rfl, y, rfl⟩; rw [hv]))
      refine wp_region_ext (by kernel_rfl) (by kernel_rfl) ?_
      repeat (go_big_quiet_step ((go_at_call 42; exact quietE (l2Dec_all (by omega) (by omega)))))
      refine wpQuiet_nil ?_
      rintro _ ⟨z, rfl⟩
      go_wp2
      go_ret
      exact ⟨rfl, (by refine Chg.isExt (F := []) ?_ (refl_ext _) (by simp); repeat (with_reducible (first | exact Chg.refl _ _ | exact Nat.le_refl _ | exact Chg.ofExt (by assumption) | refine Chg.trans0 ?_ (by assumption) | refine Chg.extS ?_ _ | refine Chg.alloc ?_ _ | refine Chg.drew ?_ | refine Chg.setCellE ?_ ?_ _ | refine le_addk ?_ _ | refine le_ext ?_ | refine le_alloc ?_ _ | refine le_setC ?_ _ _ | refine le_drew ?_ | assumption | (refine Nat.le_of_lt ?_; omega) | omega)))⟩
  · have hv : isVR (a, b) = false := by simpa using hv
    rw [show ratText (a, b) = ⟨#[]⟩ by unfold ratText; rw [if_neg (by simp [hv])]]
    go_enter Try.func25, Try.ntmps25
    go_wp2_with (first | (go_at_call 15; refine specIsValidRational_any.mono ?_; rintro e w1 ⟨rfl, y, rfl⟩; rw [hv]))
    go_ret
    exact ⟨rfl, (by refine Chg.isExt (F := []) ?_ (refl_ext _) (by simp); repeat (with_reducible (first | exact Chg.refl _ _ | exact Nat.le_refl _ | exact Chg.ofExt (by assumption) | refine Chg.trans0 ?_ (by assumption) | refine Chg.extS ?_ _ | refine Chg.alloc ?_ _ | refine Chg.drew ?_ | refine Chg.setCellE ?_ ?_ _ | refine le_addk ?_ _ | refine le_ext ?_ | refine le_alloc ?_ _ | refine le_setC ?_ _ _ | refine le_drew ?_ | assumption | (refine Nat.le_of_lt ?_; omega) | omega)))⟩
end Go.Proofs.Ythhdmdmjadpgjaa
