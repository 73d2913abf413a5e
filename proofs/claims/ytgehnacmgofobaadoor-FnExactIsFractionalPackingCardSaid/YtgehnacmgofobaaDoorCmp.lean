/- Lists of numbers compared: equality and order; the program's way and the reference's. -/
import Derived.Test.YtgehnacmgofobaaDoorInts
namespace Go.Proofs.YtgehnacmgofobaaDoor
open Go.RowKit

def cmpI (a b : Int) : Int := if a < b then -1 else if b < a then 1 else 0
def cmpL : List Int → List Int → Int
  | [], [] => 0
  | [], _ :: _ => -1
  | _ :: _, [] => 1
  | x :: xs, y :: ys => if x = y then cmpL xs ys else cmpI x y
theorem cmpI_zero {a b : Int} : cmpI a b = 0 ↔ a = b := by unfold cmpI; split <;> (try split) <;> omega
theorem cmpL_zero : ∀ {xs ys : List Int}, cmpL xs ys = 0 ↔ xs = ys
  | [], [] => by simp [cmpL]
  | [], _ :: _ => by simp [cmpL]
  | _ :: _, [] => by simp [cmpL]
  | x :: xs, y :: ys => by
    rw [cmpL]
    split
    · rename_i h
      subst h
      rw [cmpL_zero]
      simp
    · rename_i h
      rw [cmpI_zero]
      simp [h]
theorem cmpL_bd : ∀ (xs ys : List Int), -1 ≤ cmpL xs ys ∧ cmpL xs ys ≤ 1
  | [], [] => by simp [cmpL]
  | [], _ :: _ => by simp [cmpL]
  | _ :: _, [] => by simp [cmpL]
  | x :: xs, y :: ys => by
    rw [cmpL]
    split
    · exact cmpL_bd xs ys
    · unfold cmpI; split <;> (try split) <;> omega
theorem cmpL_step {xs ys : List Int} {k : Nat} (h : k < xs.length) (h' : k < ys.length) (e : xs[k] = ys[k]) : cmpL (xs.drop k) (ys.drop k) = cmpL (xs.drop (k + 1)) (ys.drop (k + 1)) := by
  rw [List.drop_eq_getElem_cons h, List.drop_eq_getElem_cons h', cmpL, if_pos e]
theorem cmpL_stop {xs ys : List Int} {k : Nat} (h : k < xs.length) (h' : k < ys.length) (e : ¬ xs[k] = ys[k]) : cmpL (xs.drop k) (ys.drop k) = cmpI xs[k] ys[k] := by
  rw [List.drop_eq_getElem_cons h, List.drop_eq_getElem_cons h', cmpL, if_neg e]
theorem cmpL_end {xs ys : List Int} {k : Nat} (hx : k ≤ xs.length) (hy : k ≤ ys.length) (h : ¬ (k < xs.length ∧ k < ys.length)) : cmpL (xs.drop k) (ys.drop k) = cmpI xs.length ys.length := by
  by_cases h1 : k < xs.length
  · have h2 : ys.length ≤ k := by omega
    rw [List.drop_eq_getElem_cons h1, List.drop_eq_nil_of_le h2, cmpL]
    unfold cmpI
    rw [if_neg (by omega), if_pos (by omega)]
  · rw [List.drop_eq_nil_of_le (show xs.length ≤ k by omega)]
    by_cases h2 : k < ys.length
    · rw [List.drop_eq_getElem_cons h2, cmpL]
      unfold cmpI
      rw [if_pos (by omega)]
    · rw [List.drop_eq_nil_of_le (show ys.length ≤ k by omega), cmpL]
      unfold cmpI
      rw [if_neg (by omega), if_neg (by omega)]
end Go.Proofs.YtgehnacmgofobaaDoor
