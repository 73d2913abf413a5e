/- Contracts of the laws' helpers on []int: its size, a copy, equality, marks written and looked for. -/
import Derived.Test.YthhdmdmjadpgjaaRows
import Derived.Test.YthhdmdmjadpgjaaOwn
namespace Go.Proofs.Ythhdmdmjadpgjaa
open Go.RowKit

theorem tI : SlT Try.prog 56 3 1 8 (.int .i64 0) := ⟨Try.underlying56, by kernel_rfl, rfl, by omega⟩

theorem take_snoc_eq {α : Type} {xs ys : List α} {k : Nat} (h1 : k < xs.length) (h2 : k < ys.length) (h : xs.take k = ys.take k) (he : xs[k] = ys[k]) : xs.take (k + 1) = ys.take (k + 1) := by
  rw [List.take_succ_eq_append_getElem h1, List.take_succ_eq_append_getElem h2, h, he]
theorem ne_of_at {α : Type} {xs ys : List α} {k : Nat} (h1 : k < xs.length) (h2 : k < ys.length) (he : ¬ xs[k] = ys[k]) : xs ≠ ys := by
  rintro rfl
  exact he rfl
theorem all_eq {α : Type} {xs ys : List α} {k : Nat} (hl : xs.length = ys.length) (hk : ¬ k < xs.length) (h : xs.take k = ys.take k) : xs = ys := by
  rwa [List.take_of_length_le (by omega), List.take_of_length_le (by omega)] at h

theorem le_maxLen {n : Nat} (h : n ≤ maxLen) : n ≤ 9223372036854775807 := by simp only [maxLen] at h; omega
theorem set_fill {α : Type} {xs : List α} {k : Nat} {z : α} (h : k < xs.length) : (xs.take k ++ List.replicate (xs.length - k) z).set k xs[k] = xs.take (k + 1) ++ List.replicate (xs.length - (k + 1)) z := by
  rw [List.set_append_right _ _ (by simp; omega), List.length_take, Nat.min_eq_left (by omega), Nat.sub_self, show xs.length - k = (xs.length - (k + 1)) + 1 by omega, List.replicate_succ, List.set_cons_zero, List.take_succ_eq_append_getElem h, List.append_assoc]
  rfl
theorem set_step {α : Type} {xs ys : List α} {k : Nat} {x : α} (hl : ys.length = xs.length) (h : k < xs.length) (hx : ys[k]'(by omega) = x) : (ys.take k ++ xs.drop k).set k x = ys.take (k + 1) ++ xs.drop (k + 1) := by
  rw [List.set_append_right _ _ (by simp; omega), List.length_take, Nat.min_eq_left (by omega), Nat.sub_self, List.drop_eq_getElem_cons h, List.set_cons_zero, List.take_succ_eq_append_getElem (by omega), hx]
  simp

/-- what the size functions return: -1 where the purse is empty -/
def szL (left : Int) (n : Nat) : Int := if left - n < 0 then -1 else left - n
theorem szL_le {left : Int} {n : Nat} (h : 0 ≤ szL left n) : szL left n ≤ left := by unfold szL at h ⊢; split <;> simp_all <;> omega
theorem szL_small {left : Int} {n : Nat} (h : 0 ≤ szL left n) : (n : Int) ≤ left := by unfold szL at h; split at h <;> omega
def marks (k : Int) (n : Nat) : List Int := (List.range n).map fun (i : Nat) => k + (i : Int)
@[simp] theorem marks_length (k : Int) (n : Nat) : (marks k n).length = n := by simp [marks]
theorem marks_get {k : Int} {n j : Nat} (h : j < (marks k n).length) : (marks k n)[j] = k + (j : Int) := by simp [marks]

end Go.Proofs.Ythhdmdmjadpgjaa
