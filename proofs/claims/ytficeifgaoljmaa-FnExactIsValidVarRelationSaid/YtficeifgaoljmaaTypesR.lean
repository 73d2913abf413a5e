/- What relations' argument types read as. -/
import Derived.Test.YtficeifgaoljmaaTypes
namespace Go.Proofs.Ytficeifgaoljmaa
open Go.ChangeShapes Go.WideShapes Go.ChangeAt Go.RowKit
theorem oIntss : OpenE Try.prog 23 1 (vSl 1 (vSl 1 vI)) (fun d => d.length ≤ maxLen ∧ ∀ x ∈ d, x.length ≤ maxLen) := ⟨(openSl Try.underlying23 (by kernel_rfl) (by omega) oInts).1, fun H enc w base spare held n c y h => by
  obtain ⟨d, h1, h2, h3⟩ := (openSl Try.underlying23 (by kernel_rfl) (by omega) oInts).2 H enc w base spare held n c y h
  exact ⟨d, h1, h2, fun x hx => (h3 x hx).1⟩⟩
theorem oRel : OpenE Try.prog 25 (1 + 1) (vP 1 vI (vSl 1 (vSl 1 vI))) (fun d => I64 d.1 ∧ d.2.length ≤ maxLen ∧ ∀ x ∈ d.2, x.length ≤ maxLen) := openStruct2 Try.underlying25 rfl rfl oInt oIntss (by kernel_rfl)
theorem oVR : OpenE Try.prog 27 (1 + (1 + 1)) (vP 1 (vSl 1 vI) (vP 1 vI (vSl 1 (vSl 1 vI)))) (fun d => d.1.length ≤ maxLen ∧ I64 d.2.1 ∧ d.2.2.length ≤ maxLen ∧ ∀ x ∈ d.2.2, x.length ≤ maxLen) := ⟨(openStruct2 Try.underlying27 rfl rfl oInts oRel (by kernel_rfl)).1, fun H enc w base spare held n c y h => by
  obtain ⟨d, h1, h2, h3⟩ := (openStruct2 Try.underlying27 rfl rfl oInts oRel (by kernel_rfl)).2 H enc w base spare held n c y h
  exact ⟨d, h1, h2.1, h3⟩⟩
end Go.Proofs.Ytficeifgaoljmaa
