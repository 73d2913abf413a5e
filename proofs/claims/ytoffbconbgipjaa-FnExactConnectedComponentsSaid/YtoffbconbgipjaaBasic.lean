/- Contracts of the smallest functions: a number within bounds, a variable's name. -/
import Derived.Test.YtoffbconbgipjaaRows
import Derived.Test.YtoffbconbgipjaaLib
namespace Go.Proofs.Ytoffbconbgipjaa
open Go.ChangeShapes Go.WideShapes Go.ChangeAt Go.RowKit

def inB (x a b : Int) : Bool := decide (a ≤ x ∧ x ≤ b)
theorem inB_t {x a b : Int} (h : inB x a b = true) : a ≤ x ∧ x ≤ b := by simpa [inB] using h
theorem inB_f {x a b : Int} (h : inB x a b = false) : x < a ∨ b < x := by simp [inB] at h; omega

theorem within_any (x a b : Int) (w : World) : Calls Try.prog 65 #[.int .i64 x, .int .i64 a, .int .i64 b] w fun e w' => e = .returned (.bool (inB x a b)) ∧ w = w' := by
  unfold inB
  by_cases h1 : a ≤ x <;> by_cases h2 : x ≤ b <;> (go_enter Try.func65, Try.ntmps65; go_wp2; go_ret; exact ⟨by simp [h1, h2], rfl⟩)
theorem l1In_any (x a b : Int) (w : World) : Calls Try.prog 62 #[.int .i64 x, .int .i64 a, .int .i64 b] w fun e w' => e = .returned (.bool (inB x a b)) ∧ w = w' := by
  unfold inB
  by_cases h1 : a ≤ x <;> by_cases h2 : x ≤ b <;> (go_enter Try.func62, Try.ntmps62; go_wp2; go_ret; exact ⟨by simp [h1, h2], rfl⟩)

def vname (v : Int) : ByteArray := if inB v 0 4 = true then (⟨#[88, 89, 90, 85, 86]⟩ : ByteArray).extract v.toNat (v.toNat + 1) else ⟨#[]⟩

theorem VariableName_any (x : Int) (w : World) : Calls Try.prog 85 #[.int .i64 x] w fun e w' => e = .returned (.string (vname x)) ∧ w = w' := by
  unfold vname
  by_cases h : inB x 0 4 = true
  · rw [if_pos h]
    obtain ⟨h3, h4⟩ := inB_t h
    go_enter Try.func85, Try.ntmps85
    go_wp2_with (go_at_call 65; refine (within_any _ _ _ _).mono ?_; rintro e w' ⟨rfl, rfl⟩)
    go_ret
    exact ⟨by rw [show (x + 1).toNat = x.toNat + 1 by omega]; rfl, rfl⟩
  · rw [if_neg h]
    have h : inB x 0 4 = false := by simpa using h
    go_enter Try.func85, Try.ntmps85
    go_wp2_with (go_at_call 65; refine (within_any _ _ _ _).mono ?_; rintro e w' ⟨rfl, rfl⟩)
    go_ret
    exact ⟨rfl, rfl⟩
theorem specVariableName_any (x : Int) (w : World) : Calls Try.prog 84 #[.int .i64 x] w fun e w' => e = .returned (.string (vname x)) ∧ w = w' := by
  unfold vname
  by_cases h : inB x 0 4 = true
  · rw [if_pos h]
    obtain ⟨h3, h4⟩ := inB_t h
    go_enter Try.func84, Try.ntmps84
    go_wp2_with (go_at_call 62; refine (l1In_any _ _ _ _).mono ?_; rintro e w' ⟨rfl, rfl⟩)
    go_ret
    exact ⟨by rw [show (x + 1).toNat = x.toNat + 1 by omega]; rfl, rfl⟩
  · rw [if_neg h]
    have h : inB x 0 4 = false := by simpa using h
    go_enter Try.func84, Try.ntmps84
    go_wp2_with (go_at_call 62; refine (l1In_any _ _ _ _).mono ?_; rintro e w' ⟨rfl, rfl⟩)
    go_ret
    exact ⟨rfl, rfl⟩
end Go.Proofs.Ytoffbconbgipjaa
