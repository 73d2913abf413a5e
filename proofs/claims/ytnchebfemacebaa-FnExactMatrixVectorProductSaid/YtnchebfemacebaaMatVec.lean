/- A matrix times a vector: the program's way and the reference's. -/
import Derived.Test.YtnchebfemacebaaRatDot
import Derived.Test.YtnchebfemacebaaRowsN
namespace Go.Proofs.Ytnchebfemacebaa
open Go.RowKit

def mvG : List (Int × Int) → List (List (Int × Int)) → List (Int × Int) → Option (List (Int × Int))
  | acc, [], _ => some acc
  | acc, x :: xs, y => match dotR x y with
    | none => none
    | some r => mvG (acc ++ [r]) xs y
theorem mvG_some {acc : List (Int × Int)} {xs : List (List (Int × Int))} {y : List (Int × Int)} {k : Nat} {r : Int × Int} (h : k < xs.length) (e : dotR xs[k] y = some r) : mvG acc (xs.drop k) y = mvG (acc ++ [r]) (xs.drop (k + 1)) y := by
  rw [List.drop_eq_getElem_cons h, mvG, e]
theorem mvG_none {acc : List (Int × Int)} {xs : List (List (Int × Int))} {y : List (Int × Int)} {k : Nat} (h : k < xs.length) (e : dotR xs[k] y = none) : mvG acc (xs.drop k) y = none := by
  rw [List.drop_eq_getElem_cons h, mvG, e]
theorem mvG_end {acc : List (Int × Int)} {xs : List (List (Int × Int))} {y : List (Int × Int)} {k : Nat} (h : ¬ k < xs.length) : mvG acc (xs.drop k) y = some acc := by
  rw [List.drop_eq_nil_of_le (by omega), mvG]
theorem mvG_length : ∀ (xs : List (List (Int × Int))) (y acc l : List (Int × Int)), mvG acc xs y = some l → l.length = acc.length + xs.length
  | [], y, acc, l, h => by injection h with h; simp [h]
  | x :: xs, y, acc, l, h => by
    rw [mvG] at h
    split at h
    · cases h
    · rw [mvG_length xs _ _ _ h]
      simp; omega
theorem mv_len (xs : List (List (Int × Int))) (y : List (Int × Int)) : ((mvG [] xs y).getD []).length ≤ xs.length := by
  cases h : mvG [] xs y with
  | none => simp
  | some l => have := mvG_length _ _ _ _ h; simp at this; simp; omega
/-- what both hand back: the numbers, or none -/
def MvRes (xs : List (List (Int × Int))) (y : List (Int × Int)) (w : World) (e : Ending) (w' : World) : Prop := ∃ v F, e = .returned (.tuple #[v, .bool (mvG [] xs y).isSome]) ∧ (∃ y, w' = ext w y) ∧ SV 25 2 sR w' v ((mvG [] xs y).getD []) F ∧ ∀ b ∈ F, w.heap.size ≤ b
set_option maxHeartbeats 1000000 in
theorem MatrixVectorProduct_any {A A' : Option Addr} {c c' : Nat} {xs : List (List (Int × Int))} {ys : List (Int × Int)} {w : World} (hx : xs.length ≤ 1000000000) (h1 : RRR w A xs) (hxl : ∀ x ∈ xs, x.length ≤ 1000000000) (hy : ys.length ≤ 1000000000) (h2 : RR w A' ys) :
    Calls Try.prog 47 #[.slice A xs.length c, .slice A' ys.length c'] w (MvRes xs ys w) := by
  have Hxl := Lib.hid hxl
  clear hxl
  go_enter Try.func47, Try.ntmps47
  go_wp2
  go_loopw [6, 13] (fun v i wr => ∃ (k : Nat) (ds : List (Int × Int)) (F : List Nat), i = .int .i64 k ∧ k ≤ xs.length ∧ SV 25 2 sR wr v ds F ∧ (∀ b ∈ F, w.heap.size ≤ b) ∧ (∃ y, wr = ext w y) ∧ ds.length = k ∧ mvG ds (xs.drop k) ys = mvG [] xs ys) (fun _ i _ => xs.length - (intOf i).toNat)
  case atStart => exact ⟨0, [], [], rfl, by omega, SV.nil, by simp, refl_ext _, rfl, by simp⟩
  case round =>
    obtain ⟨k, ds, F, rfl, hk, hS, hF, hw, hl, hj⟩ := hrel
    have Hj := Lib.hid hj
    have HF := Lib.hid hF
    have Hl := Lib.hid hl
    have hl1 : ds.length ≤ k := by omega
    clear hj hF hl
    have h1' := h1.toExt hw
    have h2' := h2.toExt hw
    by_cases hlt : k < xs.length
    · obtain ⟨b, o, A1, c1, rfl, hb, hc, hv⟩ := h1'.atV hlt
      have hle := Hxl.out xs[k] (List.getElem_mem hlt)
      cases hr : dotR xs[k] ys with
      | some r =>
        have HE := Lib.hid ((mvG_some hlt hr).symm.trans Hj.out)
        have Hr := Lib.hid hr
        clear hr
        go_wp2_with (first
          | (go_at_call 30; refine (DotProduct_any hle hv hy h2').mono ?_; rintro e w2 ⟨rfl, hx2⟩; rw [Hr.out])
          | (at_builtin; refine wpList_app1 (E := sR) (d := r) rfl _ _ _ rfl tR rfl rfl rfl (by simp) (fun _ => ⟨rfl, rfl⟩) rfl (by simp [Value.oneCell']) (hS.toExt (by refine Chg.isExt (F := []) ?_ (refl_ext _) (by simp); repeat (with_reducible (first | exact Chg.refl _ _ | exact Nat.le_refl _ | exact Chg.ofExt (by assumption) | refine Chg.trans0 ?_ (by assumption) | refine Chg.extS ?_ _ | refine Chg.alloc ?_ _ | refine Chg.drew ?_ | refine Chg.setCellE ?_ ?_ _ | refine le_addk ?_ _ | refine le_ext ?_ | refine le_alloc ?_ _ | refine le_setC ?_ _ _ | refine le_drew ?_ | assumption | (refine Nat.le_of_lt ?_; omega) | omega)))) (by omega) (by omega) ?_; intro v' w' F' hS' hC' hF'))
        exact ⟨⟨k + 1, ds ++ [r], F', by go_num, by omega, hS', newer HF.out (size_of_ext (by refine Chg.isExt (F := []) ?_ (refl_ext _) (by simp); repeat (with_reducible (first | exact Chg.refl _ _ | exact Nat.le_refl _ | exact Chg.ofExt (by assumption) | refine Chg.trans0 ?_ (by assumption) | refine Chg.extS ?_ _ | refine Chg.alloc ?_ _ | refine Chg.drew ?_ | refine Chg.setCellE ?_ ?_ _ | refine le_addk ?_ _ | refine le_ext ?_ | refine le_alloc ?_ _ | refine le_setC ?_ _ _ | refine le_drew ?_ | assumption | (refine Nat.le_of_lt ?_; omega) | omega)))) hF', hC'.isExt (by refine Chg.isExt (F := []) ?_ (refl_ext _) (by simp); repeat (with_reducible (first | exact Chg.refl _ _ | exact Nat.le_refl _ | exact Chg.ofExt (by assumption) | refine Chg.trans0 ?_ (by assumption) | refine Chg.extS ?_ _ | refine Chg.alloc ?_ _ | refine Chg.drew ?_ | refine Chg.setCellE ?_ ?_ _ | refine le_addk ?_ _ | refine le_ext ?_ | refine le_alloc ?_ _ | refine le_setC ?_ _ _ | refine le_drew ?_ | assumption | (refine Nat.le_of_lt ?_; omega) | omega))) HF.out, by simp [Hl.out], HE.out⟩, by simp [intOf]; omega⟩
      | none =>
        have HE := Lib.hid (show mvG [] xs ys = none by rw [← Hj.out, mvG_none hlt hr])
        have Hr := Lib.hid hr
        clear hr
        go_wp2_with (first
          | (go_at_call 30; refine (DotProduct_any hle hv hy h2').mono ?_; rintro e w2 ⟨rfl, hx2⟩; rw [Hr.out]))
        go_ret2
        exact ⟨_, [], by rw [HE.out]; rfl, (by refine Chg.isExt (F := []) ?_ (refl_ext _) (by simp); repeat (with_reducible (first | exact Chg.refl _ _ | exact Nat.le_refl _ | exact Chg.ofExt (by assumption) | refine Chg.trans0 ?_ (by assumption) | refine Chg.extS ?_ _ | refine Chg.alloc ?_ _ | refine Chg.drew ?_ | refine Chg.setCellE ?_ ?_ _ | refine le_addk ?_ _ | refine le_ext ?_ | refine le_alloc ?_ _ | refine le_setC ?_ _ _ | refine le_drew ?_ | assumption | (refine Nat.le_of_lt ?_; omega) | omega))), by rw [HE.out]; exact SV.nil, by simp⟩
    · have e := Hj.out
      rw [mvG_end (by omega)] at e
      have HE := Lib.hid e.symm
      clear e
      go_wp2
      go_ret2
      exact ⟨_, F, by rw [HE.out]; rfl, hw, by rw [HE.out]; exact hS, HF.out⟩
set_option maxHeartbeats 1000000 in
theorem specMatrixVectorProduct_any {A A' : Option Addr} {c c' : Nat} {xs : List (List (Int × Int))} {ys : List (Int × Int)} {w : World} (hx : xs.length ≤ 1000000000) (h1 : RRR w A xs) (hxl : ∀ x ∈ xs, x.length ≤ 1000000000) (hy : ys.length ≤ 1000000000) (h2 : RR w A' ys) :
    Calls Try.prog 46 #[.slice A xs.length c, .slice A' ys.length c'] w (MvRes xs ys w) := by
  have Hxl := Lib.hid hxl
  clear hxl
  go_enter Try.func46, Try.ntmps46
  go_wp2
  go_loopw [6, 7] (fun v i wr => ∃ (k : Nat) (ds : List (Int × Int)) (F : List Nat), i = .int .i64 k ∧ k ≤ xs.length ∧ SV 25 2 sR wr v ds F ∧ (∀ b ∈ F, w.heap.size ≤ b) ∧ (∃ y, wr = ext w y) ∧ ds.length = k ∧ mvG ds (xs.drop k) ys = mvG [] xs ys) (fun _ i _ => xs.length - (intOf i).toNat)
  case atStart => exact ⟨0, [], [w.heap.size], rfl, by omega, SV.empty w, by simp, alloc_ext _ _, rfl, by simp⟩
  case round =>
    obtain ⟨k, ds, F, rfl, hk, hS, hF, hw, hl, hj⟩ := hrel
    have Hj := Lib.hid hj
    have HF := Lib.hid hF
    have Hl := Lib.hid hl
    have hl1 : ds.length ≤ k := by omega
    clear hj hF hl
    have h1' := h1.toExt hw
    have h2' := h2.toExt hw
    by_cases hlt : k < xs.length
    · obtain ⟨b, o, A1, c1, rfl, hb, hc, hv⟩ := h1'.atV hlt
      have hle := Hxl.out xs[k] (List.getElem_mem hlt)
      cases hr : dotR xs[k] ys with
      | some r =>
        have HE := Lib.hid ((mvG_some hlt hr).symm.trans Hj.out)
        have Hr := Lib.hid hr
        clear hr
        go_wp2_with (first
          | (go_at_call 29; refine (specDotProduct_any hle hv hy h2').mono ?_; rintro e w2 ⟨rfl, hx2⟩; rw [Hr.out])
          | (at_builtin; refine wpList_app1 (E := sR) (d := r) rfl _ _ _ rfl tR rfl rfl rfl (by simp) (fun _ => ⟨rfl, rfl⟩) rfl (by simp [Value.oneCell']) (hS.toExt (by refine Chg.isExt (F := []) ?_ (refl_ext _) (by simp); repeat (with_reducible (first | exact Chg.refl _ _ | exact Nat.le_refl _ | exact Chg.ofExt (by assumption) | refine Chg.trans0 ?_ (by assumption) | refine Chg.extS ?_ _ | refine Chg.alloc ?_ _ | refine Chg.drew ?_ | refine Chg.setCellE ?_ ?_ _ | refine le_addk ?_ _ | refine le_ext ?_ | refine le_alloc ?_ _ | refine le_setC ?_ _ _ | refine le_drew ?_ | assumption | (refine Nat.le_of_lt ?_; omega) | omega)))) (by omega) (by omega) ?_; intro v' w' F' hS' hC' hF'))
        exact ⟨⟨k + 1, ds ++ [r], F', by go_num, by omega, hS', newer HF.out (size_of_ext (by refine Chg.isExt (F := []) ?_ (refl_ext _) (by simp); repeat (with_reducible (first | exact Chg.refl _ _ | exact Nat.le_refl _ | exact Chg.ofExt (by assumption) | refine Chg.trans0 ?_ (by assumption) | refine Chg.extS ?_ _ | refine Chg.alloc ?_ _ | refine Chg.drew ?_ | refine Chg.setCellE ?_ ?_ _ | refine le_addk ?_ _ | refine le_ext ?_ | refine le_alloc ?_ _ | refine le_setC ?_ _ _ | refine le_drew ?_ | assumption | (refine Nat.le_of_lt ?_; omega) | omega)))) hF', hC'.isExt (by refine Chg.isExt (F := []) ?_ (refl_ext _) (by simp); repeat (with_reducible (first | exact Chg.refl _ _ | exact Nat.le_refl _ | exact Chg.ofExt (by assumption) | refine Chg.trans0 ?_ (by assumption) | refine Chg.extS ?_ _ | refine Chg.alloc ?_ _ | refine Chg.drew ?_ | refine Chg.setCellE ?_ ?_ _ | refine le_addk ?_ _ | refine le_ext ?_ | refine le_alloc ?_ _ | refine le_setC ?_ _ _ | refine le_drew ?_ | assumption | (refine Nat.le_of_lt ?_; omega) | omega))) HF.out, by simp [Hl.out], HE.out⟩, by simp [intOf]; omega⟩
      | none =>
        have HE := Lib.hid (show mvG [] xs ys = none by rw [← Hj.out, mvG_none hlt hr])
        have Hr := Lib.hid hr
        clear hr
        go_wp2_with (first
          | (go_at_call 29; refine (specDotProduct_any hle hv hy h2').mono ?_; rintro e w2 ⟨rfl, hx2⟩; rw [Hr.out]))
        go_ret2
        have h5 := SV.empty (te := 25) (size := 2) (E := sR) (w2.alloc (.cells #[.int .i64 0, .int .i64 0] 25))
        have h4 := size_of_ext (w0 := w) (w := w2) (by refine Chg.isExt (F := []) ?_ (refl_ext _) (by simp); repeat (with_reducible (first | exact Chg.refl _ _ | exact Nat.le_refl _ | exact Chg.ofExt (by assumption) | refine Chg.trans0 ?_ (by assumption) | refine Chg.extS ?_ _ | refine Chg.alloc ?_ _ | refine Chg.drew ?_ | refine Chg.setCellE ?_ ?_ _ | refine le_addk ?_ _ | refine le_ext ?_ | refine le_alloc ?_ _ | refine le_setC ?_ _ _ | refine le_drew ?_ | assumption | (refine Nat.le_of_lt ?_; omega) | omega)))
        exact ⟨_, [w2.heap.size + 1], by rw [HE.out]; rfl, (by refine Chg.isExt (F := []) ?_ (refl_ext _) (by simp); repeat (with_reducible (first | exact Chg.refl _ _ | exact Nat.le_refl _ | exact Chg.ofExt (by assumption) | refine Chg.trans0 ?_ (by assumption) | refine Chg.extS ?_ _ | refine Chg.alloc ?_ _ | refine Chg.drew ?_ | refine Chg.setCellE ?_ ?_ _ | refine le_addk ?_ _ | refine le_ext ?_ | refine le_alloc ?_ _ | refine le_setC ?_ _ _ | refine le_drew ?_ | assumption | (refine Nat.le_of_lt ?_; omega) | omega))), by rw [HE.out]; simpa using h5, fun b hb => by
          rw [List.mem_singleton.1 hb]; omega⟩
    · have e := Hj.out
      rw [mvG_end (by omega)] at e
      have HE := Lib.hid e.symm
      clear e
      go_wp2
      go_ret2
      exact ⟨_, F, by rw [HE.out]; rfl, hw, by rw [HE.out]; exact hS, HF.out⟩
end Go.Proofs.Ytnchebfemacebaa
