/- Contracts of the smallest functions: a number within bounds, a variable's name. -/
import Derived.Test.YtgehnacmgofobaaDoorRows
import Derived.Test.YtgehnacmgofobaaDoorLib
namespace Go.Proofs.YtgehnacmgofobaaDoor
open Go.ChangeShapes Go.WideShapes Go.ChangeAt Go.RowKit

def inB (x a b : Int) : Bool := decide (a ≤ x ∧ x ≤ b)
theorem inB_t {x a b : Int} (h : inB x a b = true) : a ≤ x ∧ x ≤ b := by simpa [inB] using h
theorem inB_f {x a b : Int} (h : inB x a b = false) : x < a ∨ b < x := by simp [inB] at h; omega

theorem within_any (x a b : Int) (w : World) : Calls Tryd.prog 41 #[.int .i64 x, .int .i64 a, .int .i64 b] w fun e w' => e = .returned (.bool (inB x a b)) ∧ w = w' := by
  unfold inB
  by_cases h1 : a ≤ x <;> by_cases h2 : x ≤ b <;> (go_enter Tryd.func41, Tryd.ntmps41; go_wp2; go_ret; exact ⟨by simp [h1, h2], rfl⟩)
theorem l1In_any (x a b : Int) (w : World) : Calls Tryd.prog 35 #[.int .i64 x, .int .i64 a, .int .i64 b] w fun e w' => e = .returned (.bool (inB x a b)) ∧ w = w' := by
  unfold inB
  by_cases h1 : a ≤ x <;> by_cases h2 : x ≤ b <;> (go_enter Tryd.func35, Tryd.ntmps35; go_wp2; go_ret; exact ⟨by simp [h1, h2], rfl⟩)

def vname (v : Int) : ByteArray := if inB v 0 4 = true then (⟨#[88, 89, 90, 85, 86]⟩ : ByteArray).extract v.toNat (v.toNat + 1) else ⟨#[]⟩

end Go.Proofs.YtgehnacmgofobaaDoor
