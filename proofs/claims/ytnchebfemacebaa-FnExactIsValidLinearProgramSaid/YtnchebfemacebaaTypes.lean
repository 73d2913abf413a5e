/- What the seat's argument types read as. -/
import Derived.Test.YtnchebfemacebaaWrap
import Derived.Test.YtnchebfemacebaaOpen
namespace Go.Proofs.Ytnchebfemacebaa
open Go.ChangeShapes Go.WideShapes Go.ChangeAt Go.RowKit

theorem oInt : OpenE Try.prog 3 1 vI I64 := openInt Try.underlying3 (by kernel_rfl)
theorem oStr : OpenE Try.prog 9 1 vS (fun s => s.size ≤ maxLen) := openStr Try.underlying9 (by kernel_rfl)
abbrev QInts (l : List Int) : Prop := l.length ≤ maxLen ∧ ∀ x ∈ l, I64 x
theorem oInts : OpenE Try.prog 33 1 (vSl 1 vI) QInts := openSl Try.underlying33 (by kernel_rfl) (by omega) oInt
abbrev QRat (d : Int × Int) : Prop := I64 d.1 ∧ I64 d.2
theorem oRat : OpenE Try.prog 76 (1 + 1) (vP 1 vI vI) (fun d => I64 d.1 ∧ I64 d.2) := openStruct2 Try.underlying76 rfl rfl oInt oInt (by kernel_rfl)
theorem oRat' : OpenE Try.prog 76 2 vR QRat := ⟨oRat.1, fun H enc w base spare held n c y h => by
  obtain ⟨d, ⟨c0, c1, rfl, _, h1, h2⟩, hq⟩ := oRat.2 H enc w base spare held n c y h
  simp only [vI] at h1 h2
  subst h1 h2
  exact ⟨d, rfl, hq⟩⟩
theorem oRats : OpenE Try.prog 22 1 (vSl 2 vR) (fun l => l.length ≤ maxLen ∧ ∀ x ∈ l, QRat x) := openSl Try.underlying22 (by kernel_rfl) (by omega) oRat'
theorem oRatss : OpenE Try.prog 42 1 (vSl 1 (vSl 2 vR)) (fun d => d.length ≤ maxLen ∧ ∀ x ∈ d, x.length ≤ maxLen) := ⟨(openSl Try.underlying42 (by kernel_rfl) (by omega) oRats).1, fun H enc w base spare held n c y h => by
  obtain ⟨d, h1, h2, h3⟩ := (openSl Try.underlying42 (by kernel_rfl) (by omega) oRats).2 H enc w base spare held n c y h
  exact ⟨d, h1, h2, fun x hx => (h3 x hx).1⟩⟩
theorem oLP : OpenE Try.prog 44 (1 + (1 + 1)) (vP 1 (vSl 1 (vSl 2 vR)) (vP 1 (vSl 2 vR) (vSl 2 vR))) (fun d => (d.1.length ≤ maxLen ∧ ∀ x ∈ d.1, x.length ≤ maxLen) ∧ d.2.1.length ≤ maxLen ∧ d.2.2.length ≤ maxLen) := ⟨(openStruct3 Try.underlying44 rfl rfl rfl oRatss oRats oRats (by kernel_rfl)).1, fun H enc w base spare held n c y h => by
  obtain ⟨d, h1, h2, h3, h4⟩ := (openStruct3 Try.underlying44 rfl rfl rfl oRatss oRats oRats (by kernel_rfl)).2 H enc w base spare held n c y h
  exact ⟨d, h1, h2, h3.1, h4.1⟩⟩

theorem agg1 {cs : Array Value} {v : Value} (h : (Value.agg cs).cells.toList = [v]) : cs = #[v] := by
  cases cs; simp [Value.cells] at h; rw [h]
theorem one1 {v u : Value} (h : v.cells.toList = [u]) (hv : ∃ A n c, v = .slice A n c) : v = u := by
  obtain ⟨A, n, c, rfl⟩ := hv
  simpa [Value.cells] using h
theorem agg2 {cs : Array Value} {v u : Value} (h : (Value.agg cs).cells.toList = [v, u]) : cs = #[v, u] := by
  cases cs; simp [Value.cells] at h; rw [h]
theorem agg3 {cs : Array Value} {v u x : Value} (h : (Value.agg cs).cells.toList = [v, u, x]) : cs = #[v, u, x] := by
  cases cs; simp [Value.cells] at h; rw [h]
end Go.Proofs.Ytnchebfemacebaa
