/- Contracts of the smallest functions: a number within bounds, a variable's name. -/
import Derived.Test.YtedkmccfibaboaaRows
import Derived.Test.YtedkmccfibaboaaLib
namespace Go.Proofs.Ytedkmccfibaboaa
open Go.ChangeShapes Go.WideShapes Go.ChangeAt Go.RowKit

def inB (x a b : Int) : Bool := decide (a ≤ x ∧ x ≤ b)
theorem inB_t {x a b : Int} (h : inB x a b = true) : a ≤ x ∧ x ≤ b := by simpa [inB] using h
theorem inB_f {x a b : Int} (h : inB x a b = false) : x < a ∨ b < x := by simp [inB] at h; omega

theorem within_any (x a b : Int) (w : World) : Calls Try.prog 45 #[.int .i64 x, .int .i64 a, .int .i64 b] w fun e w' => e = .returned (.bool (inB x a b)) ∧ w = w' := by
  unfold inB
  by_cases h1 : a ≤ x <;> by_cases h2 : x ≤ b <;> (go_enter Try.func45, Try.ntmps45; go_wp2; go_ret; exact ⟨by simp [h1, h2], rfl⟩)
theorem l1In_any (x a b : Int) (w : World) : Calls Try.prog 41 #[.int .i64 x, .int .i64 a, .int .i64 b] w fun e w' => e = .returned (.bool (inB x a b)) ∧ w = w' := by
  unfold inB
  by_cases h1 : a ≤ x <;> by_cases h2 : x ≤ b <;> (go_enter Try.func41, Try.ntmps41; go_wp2; go_ret; exact ⟨by simp [h1, h2], rfl⟩)

def vname (v : Int) : ByteArray := if inB v 0 4 = true then (⟨#[88, 89, 90, 85, 86]⟩ : ByteArray).extract v.toNat (v.toNat + 1) else ⟨#[]⟩

theorem VariableName_any (x : Int) (w : World) : Calls Try.prog 51 #[.int .i64 x] w fun e w' => e = .returned (.string (vname x)) ∧ w = w' := by
  unfold vname
  by_cases h : inB x 0 4 = true
  · rw [if_pos h]
    obtain ⟨h3, h4⟩ := inB_t h
    go_enter Try.func51, Try.ntmps51
    go_wp2_with (go_at_call 45; refine (within_any _ _ _ _).mono ?_; rintro e w' ⟨rfl, rfl⟩)
    go_ret
    exact ⟨by rw [show (x + 1).toNat = x.toNat + 1 by omega]; rfl, rfl⟩
  · rw [if_neg h]
    have h : inB x 0 4 = false := by simpa using h
    go_enter Try.func51, Try.ntmps51
    go_wp2_with (go_at_call 45; refine (within_any _ _ _ _).mono ?_; rintro e w' ⟨rfl, rfl⟩)
    go_ret
    exact ⟨rfl, rfl⟩
theorem specVariableName_any (x : Int) (w : World) : Calls Try.prog 21 #[.int .i64 x] w fun e w' => e = .returned (.string (vname x)) ∧ w = w' := by
  unfold vname
  by_cases h : inB x 0 4 = true
  · rw [if_pos h]
    obtain ⟨h3, h4⟩ := inB_t h
    go_enter Try.func21, Try.ntmps21
    go_wp2_with (go_at_call 41; refine (l1In_any _ _ _ _).mono ?_; rintro e w' ⟨rfl, rfl⟩)
    go_ret
    exact ⟨by rw [show (x + 1).toNat = x.toNat + 1 by omega]; rfl, rfl⟩
  · rw [if_neg h]
    have h : inB x 0 4 = false := by simpa using h
    go_enter Try.func21, Try.ntmps21
    go_wp2_with (go_at_call 41; refine (l1In_any _ _ _ _).mono ?_; rintro e w' ⟨rfl, rfl⟩)
    go_ret
    exact ⟨rfl, rfl⟩
end Go.Proofs.Ytedkmccfibaboaa
