/- What the seat's argument types read as. -/
import Derived.Test.YtgehnacmgofobaaDoorWrap
import Derived.Test.YtgehnacmgofobaaDoorOpen
namespace Go.Proofs.YtgehnacmgofobaaDoor
open Go.ChangeShapes Go.WideShapes Go.ChangeAt Go.RowKit

theorem oInt : OpenE Tryd.prog 3 1 vI I64 := openInt Tryd.underlying3 (by kernel_rfl)
theorem oStr : OpenE Tryd.prog 9 1 vS (fun s => s.size ≤ maxLen) := openStr Tryd.underlying9 (by kernel_rfl)
abbrev QInts (l : List Int) : Prop := l.length ≤ maxLen ∧ ∀ x ∈ l, I64 x
theorem oInts : OpenE Tryd.prog 23 1 (vSl 1 vI) QInts := openSl Tryd.underlying23 (by kernel_rfl) (by omega) oInt
abbrev QRat (d : Int × Int) : Prop := I64 d.1 ∧ I64 d.2
theorem oRat : OpenE Tryd.prog 54 (1 + 1) (vP 1 vI vI) (fun d => I64 d.1 ∧ I64 d.2) := openStruct2 Tryd.underlying54 rfl rfl oInt oInt (by kernel_rfl)
theorem oRat' : OpenE Tryd.prog 54 2 vR QRat := ⟨oRat.1, fun H enc w base spare held n c y h => by
  obtain ⟨d, ⟨c0, c1, rfl, _, h1, h2⟩, hq⟩ := oRat.2 H enc w base spare held n c y h
  simp only [vI] at h1 h2
  subst h1 h2
  exact ⟨d, rfl, hq⟩⟩
theorem oRats : OpenE Tryd.prog 26 1 (vSl 2 vR) (fun l => l.length ≤ maxLen ∧ ∀ x ∈ l, QRat x) := openSl Tryd.underlying26 (by kernel_rfl) (by omega) oRat'
theorem oAtom : OpenE Tryd.prog 61 (1 + 1) (vP 1 vS (vSl 1 vI)) (fun d => d.1.size ≤ maxLen ∧ QInts d.2) := openStruct2 Tryd.underlying61 rfl rfl oStr oInts (by kernel_rfl)
theorem oAtoms : OpenE Tryd.prog 22 1 (vSl 2 (vP 1 vS (vSl 1 vI))) (fun d => d.length ≤ maxLen ∧ ∀ x ∈ d, x.1.size ≤ maxLen ∧ x.2.length ≤ maxLen) := ⟨(openSl Tryd.underlying22 (by kernel_rfl) (by omega) oAtom).1, fun H enc w base spare held n c y h => by
  obtain ⟨d, h1, h2, h3⟩ := (openSl Tryd.underlying22 (by kernel_rfl) (by omega) oAtom).2 H enc w base spare held n c y h
  exact ⟨d, h1, h2, fun x hx => ⟨(h3 x hx).1, (h3 x hx).2.1⟩⟩⟩
theorem oQ : OpenE Tryd.prog 25 (1 + (1 + 1)) (vP 1 vI (vP 1 (vSl 2 (vP 1 vS (vSl 1 vI))) (vSl 1 vI))) (fun d => I64 d.1 ∧ (d.2.1.length ≤ maxLen ∧ ∀ x ∈ d.2.1, x.1.size ≤ maxLen ∧ x.2.length ≤ maxLen) ∧ d.2.2.length ≤ maxLen) := ⟨(openStruct3 Tryd.underlying25 rfl rfl rfl oInt oAtoms oInts (by kernel_rfl)).1, fun H enc w base spare held n c y h => by
  obtain ⟨d, h1, h2, h3, h4⟩ := (openStruct3 Tryd.underlying25 rfl rfl rfl oInt oAtoms oInts (by kernel_rfl)).2 H enc w base spare held n c y h
  exact ⟨d, h1, h2, h3, h4.1⟩⟩

theorem agg1 {cs : Array Value} {v : Value} (h : (Value.agg cs).cells.toList = [v]) : cs = #[v] := by
  cases cs; simp [Value.cells] at h; rw [h]
theorem one1 {v u : Value} (h : v.cells.toList = [u]) (hv : ∃ A n c, v = .slice A n c) : v = u := by
  obtain ⟨A, n, c, rfl⟩ := hv
  simpa [Value.cells] using h
theorem agg2 {cs : Array Value} {v u : Value} (h : (Value.agg cs).cells.toList = [v, u]) : cs = #[v, u] := by
  cases cs; simp [Value.cells] at h; rw [h]
theorem agg3 {cs : Array Value} {v u x : Value} (h : (Value.agg cs).cells.toList = [v, u, x]) : cs = #[v, u, x] := by
  cases cs; simp [Value.cells] at h; rw [h]
end Go.Proofs.YtgehnacmgofobaaDoor
