/- What the seat's argument types read as. -/
import Derived.Test.YtedkmccfibaboaaWrap
import Derived.Test.YtedkmccfibaboaaOpen
namespace Go.Proofs.Ytedkmccfibaboaa
open Go.ChangeShapes Go.WideShapes Go.ChangeAt Go.RowKit

theorem oInt : OpenE Try.prog 3 1 vI I64 := openInt Try.underlying3 (by kernel_rfl)
theorem oStr : OpenE Try.prog 9 1 vS (fun s => s.size ≤ maxLen) := openStr Try.underlying9 (by kernel_rfl)
abbrev QInts (l : List Int) : Prop := l.length ≤ maxLen ∧ ∀ x ∈ l, I64 x
theorem oInts : OpenE Try.prog 23 1 (vSl 1 vI) QInts := openSl Try.underlying23 (by kernel_rfl) (by omega) oInt

theorem agg1 {cs : Array Value} {v : Value} (h : (Value.agg cs).cells.toList = [v]) : cs = #[v] := by
  cases cs; simp [Value.cells] at h; rw [h]
theorem one1 {v u : Value} (h : v.cells.toList = [u]) (hv : ∃ A n c, v = .slice A n c) : v = u := by
  obtain ⟨A, n, c, rfl⟩ := hv
  simpa [Value.cells] using h
theorem agg2 {cs : Array Value} {v u : Value} (h : (Value.agg cs).cells.toList = [v, u]) : cs = #[v, u] := by
  cases cs; simp [Value.cells] at h; rw [h]
theorem agg3 {cs : Array Value} {v u x : Value} (h : (Value.agg cs).cells.toList = [v, u, x]) : cs = #[v, u, x] := by
  cases cs; simp [Value.cells] at h; rw [h]
end Go.Proofs.Ytedkmccfibaboaa
