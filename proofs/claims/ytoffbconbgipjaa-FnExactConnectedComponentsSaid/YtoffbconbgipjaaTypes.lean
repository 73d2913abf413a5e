/- What the seat's argument types read as. -/
import Derived.Test.YtoffbconbgipjaaWrap
import Derived.Test.YtoffbconbgipjaaOpen
namespace Go.Proofs.Ytoffbconbgipjaa
open Go.ChangeShapes Go.WideShapes Go.ChangeAt Go.RowKit

theorem oInt : OpenE Try.prog 3 1 vI I64 := openInt Try.underlying3 (by kernel_rfl)
theorem oStr : OpenE Try.prog 9 1 vS (fun s => s.size ≤ maxLen) := openStr Try.underlying9 (by kernel_rfl)
abbrev QInts (l : List Int) : Prop := l.length ≤ maxLen ∧ ∀ x ∈ l, I64 x
theorem oInts : OpenE Try.prog 22 1 (vSl 1 vI) QInts := openSl Try.underlying22 (by kernel_rfl) (by omega) oInt
theorem oForest : OpenE Try.prog 57 1 (vSl 1 vI) QInts := openStruct1 Try.underlying57 rfl oInts (by kernel_rfl)
theorem oAtom : OpenE Try.prog 24 (1 + 1) (vP 1 vS (vSl 1 vI)) (fun d => d.1.size ≤ maxLen ∧ QInts d.2) := openStruct2 Try.underlying24 rfl rfl oStr oInts (by kernel_rfl)
theorem oAtoms : OpenE Try.prog 34 1 (vSl 2 (vP 1 vS (vSl 1 vI))) (fun d => d.length ≤ maxLen ∧ ∀ x ∈ d, x.1.size ≤ maxLen ∧ x.2.length ≤ maxLen) := ⟨(openSl Try.underlying34 (by kernel_rfl) (by omega) oAtom).1, fun H enc w base spare held n c y h => by
  obtain ⟨d, h1, h2, h3⟩ := (openSl Try.underlying34 (by kernel_rfl) (by omega) oAtom).2 H enc w base spare held n c y h
  exact ⟨d, h1, h2, fun x hx => ⟨(h3 x hx).1, (h3 x hx).2.1⟩⟩⟩
theorem oQ : OpenE Try.prog 36 (1 + (1 + 1)) (vP 1 vI (vP 1 (vSl 2 (vP 1 vS (vSl 1 vI))) (vSl 1 vI))) (fun d => I64 d.1 ∧ (d.2.1.length ≤ maxLen ∧ ∀ x ∈ d.2.1, x.1.size ≤ maxLen ∧ x.2.length ≤ maxLen) ∧ d.2.2.length ≤ maxLen) := ⟨(openStruct3 Try.underlying36 rfl rfl rfl oInt oAtoms oInts (by kernel_rfl)).1, fun H enc w base spare held n c y h => by
  obtain ⟨d, h1, h2, h3, h4⟩ := (openStruct3 Try.underlying36 rfl rfl rfl oInt oAtoms oInts (by kernel_rfl)).2 H enc w base spare held n c y h
  exact ⟨d, h1, h2, h3, h4.1⟩⟩

theorem agg1 {cs : Array Value} {v : Value} (h : (Value.agg cs).cells.toList = [v]) : cs = #[v] := by
  cases cs; simp [Value.cells] at h; rw [h]
theorem one1 {v u : Value} (h : v.cells.toList = [u]) (hv : ∃ A n c, v = .slice A n c) : v = u := by
  obtain ⟨A, n, c, rfl⟩ := hv
  simpa [Value.cells] using h
theorem agg2 {cs : Array Value} {v u : Value} (h : (Value.agg cs).cells.toList = [v, u]) : cs = #[v, u] := by
  cases cs; simp [Value.cells] at h; rw [h]
theorem agg3 {cs : Array Value} {v u x : Value} (h : (Value.agg cs).cells.toList = [v, u, x]) : cs = #[v, u, x] := by
  cases cs; simp [Value.cells] at h; rw [h]
end Go.Proofs.Ytoffbconbgipjaa
