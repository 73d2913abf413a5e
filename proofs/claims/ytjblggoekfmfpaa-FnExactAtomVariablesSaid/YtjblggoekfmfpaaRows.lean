/-
  No cell of these rows narrows 'for every input' (looked for: loops, veiled, ifaces, maps, wideKeys, modest, calm, conditions, laid).
  DERIVED. THE GIVEN ROWS OF THIS SEAT. 7 by the template 'for every input the law returns true; each argument reads behind the call as it read before'; 0 by the template 'total and deterministic' (their statements: YtjblggoekfmfpaaTotals.lean).
  GIVEN WITH THE SEED: the statements are not yours to turn. If you find one false, say at which input.
  Laid BY PROGRAM, IN A SANDBOX (cutbox-rows.mjs): the forced cells as the released guide's own fill.sh prints them over the translation bb3af5dfd7f78a62… (all of the seat's roots in one cut). By AI agents, Wed Nov 11 2026. No macro, syntax, notation, axiom, sorry.
-/
import Derived.Test.YtjblggoekfmfpaaChecked
import GoSem.Claim
import GoSem.ClaimJoined
import GoSem.ClaimMapViews
import Derived.JoinedTies
import Derived.KernelRfl
namespace Go.Proofs.Ytjblggoekfmfpaa
/- THE CELL 'sum', in the pinned program and in every row, IS THE sha256 OF THE DUMP (.gsa) THAT YtjblggoekfmfpaaProg.lean LOADS. Nothing in Lean hashes anything: it is a label: what it is worth is what the hold of that sum in a sandbox is worth. -/
noncomputable def Try.pinned : Pinned := { name := "ytjblggoekfmfpaa", sum := "bb3af5dfd7f78a6296979718f5500eede236e95be50a9b6b73b2de500c82adc5", checked := Try.checked }
namespace Rows
def none {H : Type} : Left H := { results := [], args := [] }

/-- 'laws.FnExactVariableName': WHATEVER THE INPUT: true; the input reads as it did. -/
def fnExactVariableNameSpec : ChangeSpec := { name := "fnExactVariableName", fn := fun _ => fun
  | [d] => { results := [.lit (.bool true)], args := [d] }
  | _ => none }
def fnExactVariableNameRow : OpenClaim := { program := "ytjblggoekfmfpaa", sum := "bb3af5dfd7f78a6296979718f5500eede236e95be50a9b6b73b2de500c82adc5", func := "loop.example/g01917/laws.FnExactVariableName", spec := "fnExactVariableName", apart := false }
def FnExactVariableNameSaid : Prop := fnExactVariableNameRow.holds Try.pinned (OpenSpec.ofChange fnExactVariableNameSpec)

/-- ITS FALSE NEIGHBOUR: 'it returns false'. Refute it at one input. -/
def fnExactVariableNameWrong : ChangeSpec := { name := "fnExactVariableName", fn := fun _ => fun
  | [d] => { results := [.lit (.bool false)], args := [d] }
  | _ => none }
def FnExactVariableNameWrongFalsely : Prop := fnExactVariableNameRow.holds Try.pinned (OpenSpec.ofChange fnExactVariableNameWrong)

/-- 'laws.FnExactEqualRationals': WHATEVER THE INPUT: true; the input reads as it did. -/
def fnExactEqualRationalsSpec : ChangeSpec := { name := "fnExactEqualRationals", fn := fun _ => fun
  | [d1, d2] => { results := [.lit (.bool true)], args := [d1, d2] }
  | _ => none }
def fnExactEqualRationalsRow : OpenClaim := { program := "ytjblggoekfmfpaa", sum := "bb3af5dfd7f78a6296979718f5500eede236e95be50a9b6b73b2de500c82adc5", func := "loop.example/g01917/laws.FnExactEqualRationals", spec := "fnExactEqualRationals", apart := false }
def FnExactEqualRationalsSaid : Prop := fnExactEqualRationalsRow.holds Try.pinned (OpenSpec.ofChange fnExactEqualRationalsSpec)

/-- ITS FALSE NEIGHBOUR: 'it returns false'. Refute it at one input. -/
def fnExactEqualRationalsWrong : ChangeSpec := { name := "fnExactEqualRationals", fn := fun _ => fun
  | [d1, d2] => { results := [.lit (.bool false)], args := [d1, d2] }
  | _ => none }
def FnExactEqualRationalsWrongFalsely : Prop := fnExactEqualRationalsRow.holds Try.pinned (OpenSpec.ofChange fnExactEqualRationalsWrong)

/-- 'laws.FnExactJoinTreeRoot': WHATEVER THE INPUT: true; the input reads as it did. -/
def fnExactJoinTreeRootSpec : ChangeSpec := { name := "fnExactJoinTreeRoot", fn := fun _ => fun
  | [d] => { results := [.lit (.bool true)], args := [d] }
  | _ => none }
def fnExactJoinTreeRootRow : OpenClaim := { program := "ytjblggoekfmfpaa", sum := "bb3af5dfd7f78a6296979718f5500eede236e95be50a9b6b73b2de500c82adc5", func := "loop.example/g01917/laws.FnExactJoinTreeRoot", spec := "fnExactJoinTreeRoot", apart := false }
def FnExactJoinTreeRootSaid : Prop := fnExactJoinTreeRootRow.holds Try.pinned (OpenSpec.ofChange fnExactJoinTreeRootSpec)

/-- ITS FALSE NEIGHBOUR: 'it returns false'. Refute it at one input. -/
def fnExactJoinTreeRootWrong : ChangeSpec := { name := "fnExactJoinTreeRoot", fn := fun _ => fun
  | [d] => { results := [.lit (.bool false)], args := [d] }
  | _ => none }
def FnExactJoinTreeRootWrongFalsely : Prop := fnExactJoinTreeRootRow.holds Try.pinned (OpenSpec.ofChange fnExactJoinTreeRootWrong)

/-- 'laws.FnExactContainsVariable': WHATEVER THE INPUT: true; the input reads as it did. -/
def fnExactContainsVariableSpec : ChangeSpec := { name := "fnExactContainsVariable", fn := fun _ => fun
  | [d1, d2] => { results := [.lit (.bool true)], args := [d1, d2] }
  | _ => none }
def fnExactContainsVariableRow : OpenClaim := { program := "ytjblggoekfmfpaa", sum := "bb3af5dfd7f78a6296979718f5500eede236e95be50a9b6b73b2de500c82adc5", func := "loop.example/g01917/laws.FnExactContainsVariable", spec := "fnExactContainsVariable", apart := false }
def FnExactContainsVariableSaid : Prop := fnExactContainsVariableRow.holds Try.pinned (OpenSpec.ofChange fnExactContainsVariableSpec)

/-- ITS FALSE NEIGHBOUR: 'it returns false'. Refute it at one input. -/
def fnExactContainsVariableWrong : ChangeSpec := { name := "fnExactContainsVariable", fn := fun _ => fun
  | [d1, d2] => { results := [.lit (.bool false)], args := [d1, d2] }
  | _ => none }
def FnExactContainsVariableWrongFalsely : Prop := fnExactContainsVariableRow.holds Try.pinned (OpenSpec.ofChange fnExactContainsVariableWrong)

/-- 'laws.FnExactJoinTreeChildren': WHATEVER THE INPUT: true; the input reads as it did. -/
def fnExactJoinTreeChildrenSpec : ChangeSpec := { name := "fnExactJoinTreeChildren", fn := fun _ => fun
  | [d1, d2] => { results := [.lit (.bool true)], args := [d1, d2] }
  | _ => none }
def fnExactJoinTreeChildrenRow : OpenClaim := { program := "ytjblggoekfmfpaa", sum := "bb3af5dfd7f78a6296979718f5500eede236e95be50a9b6b73b2de500c82adc5", func := "loop.example/g01917/laws.FnExactJoinTreeChildren", spec := "fnExactJoinTreeChildren", apart := false }
def FnExactJoinTreeChildrenSaid : Prop := fnExactJoinTreeChildrenRow.holds Try.pinned (OpenSpec.ofChange fnExactJoinTreeChildrenSpec)

/-- ITS FALSE NEIGHBOUR: 'it returns false'. Refute it at one input. -/
def fnExactJoinTreeChildrenWrong : ChangeSpec := { name := "fnExactJoinTreeChildren", fn := fun _ => fun
  | [d1, d2] => { results := [.lit (.bool false)], args := [d1, d2] }
  | _ => none }
def FnExactJoinTreeChildrenWrongFalsely : Prop := fnExactJoinTreeChildrenRow.holds Try.pinned (OpenSpec.ofChange fnExactJoinTreeChildrenWrong)

/-- 'laws.FnExactIsAtomSubset': WHATEVER THE INPUT: true; the input reads as it did. -/
def fnExactIsAtomSubsetSpec : ChangeSpec := { name := "fnExactIsAtomSubset", fn := fun _ => fun
  | [d1, d2] => { results := [.lit (.bool true)], args := [d1, d2] }
  | _ => none }
def fnExactIsAtomSubsetRow : OpenClaim := { program := "ytjblggoekfmfpaa", sum := "bb3af5dfd7f78a6296979718f5500eede236e95be50a9b6b73b2de500c82adc5", func := "loop.example/g01917/laws.FnExactIsAtomSubset", spec := "fnExactIsAtomSubset", apart := false }
def FnExactIsAtomSubsetSaid : Prop := fnExactIsAtomSubsetRow.holds Try.pinned (OpenSpec.ofChange fnExactIsAtomSubsetSpec)

/-- ITS FALSE NEIGHBOUR: 'it returns false'. Refute it at one input. -/
def fnExactIsAtomSubsetWrong : ChangeSpec := { name := "fnExactIsAtomSubset", fn := fun _ => fun
  | [d1, d2] => { results := [.lit (.bool false)], args := [d1, d2] }
  | _ => none }
def FnExactIsAtomSubsetWrongFalsely : Prop := fnExactIsAtomSubsetRow.holds Try.pinned (OpenSpec.ofChange fnExactIsAtomSubsetWrong)

/-- 'laws.FnExactAtomVariables': WHATEVER THE INPUT: true; the input reads as it did. -/
def fnExactAtomVariablesSpec : ChangeSpec := { name := "fnExactAtomVariables", fn := fun _ => fun
  | [d] => { results := [.lit (.bool true)], args := [d] }
  | _ => none }
def fnExactAtomVariablesRow : OpenClaim := { program := "ytjblggoekfmfpaa", sum := "bb3af5dfd7f78a6296979718f5500eede236e95be50a9b6b73b2de500c82adc5", func := "loop.example/g01917/laws.FnExactAtomVariables", spec := "fnExactAtomVariables", apart := false }
def FnExactAtomVariablesSaid : Prop := fnExactAtomVariablesRow.holds Try.pinned (OpenSpec.ofChange fnExactAtomVariablesSpec)

/-- ITS FALSE NEIGHBOUR: 'it returns false'. Refute it at one input. -/
def fnExactAtomVariablesWrong : ChangeSpec := { name := "fnExactAtomVariables", fn := fun _ => fun
  | [d] => { results := [.lit (.bool false)], args := [d] }
  | _ => none }
def FnExactAtomVariablesWrongFalsely : Prop := fnExactAtomVariablesRow.holds Try.pinned (OpenSpec.ofChange fnExactAtomVariablesWrong)

/- THE SECOND FORM. 'bulk': how many values and letters a reading holds, each counted each time it is reached (what is shared counts as often as it is met; a slice's spare places count too). A statement '..UptoSaid' is the law's where the arguments, and the package variables that the reading takes, are together of bulk at most 1048576: NARROWER than '..Said'. Prove '..Said' where nothing that the law and all that it calls make is longer than what came in: it says more and counts as full. Else prove '..UptoSaid'. A law counts once. -/
mutual
def uptoBulk {H : Type} : DataW H → Nat
  | .lit (.string bytes) => bytes.length + 1
  | .lit _ => 1
  | .nil => 1
  | .ptr d => uptoBulk d + 1
  | .slice elems spare => uptoBulkAll elems + uptoBulkAll spare + 1
  | .agg parts => uptoBulkAll parts + 1
  | .iface _ d => uptoBulk d + 1
  | .map entries => uptoBulkEntries entries + 1
  | .held _ => 1
def uptoBulkAll {H : Type} : List (DataW H) → Nat
  | [] => 0
  | d :: r => uptoBulk d + uptoBulkAll r
def uptoBulkEntries {H : Type} : List (Lit × DataW H) → Nat
  | [] => 0
  | x :: r => uptoBulkEntry x + uptoBulkEntries r
def uptoBulkEntry {H : Type} : Lit × DataW H → Nat
  | (.string bytes, d) => bytes.length + uptoBulk d + 1
  | (_, d) => uptoBulk d + 1
 end
def uptoSmall : (H : Type) → List (DataW H) → Bool := fun _ ds => decide (uptoBulkAll ds ≤ 1048576)
def OpenSpec.upto (s : _root_.Go.ChangeSpec) : _root_.Go.OpenSpec := { _root_.Go.OpenSpec.ofChange s with cond := some uptoSmall }

/-- 'laws.FnExactVariableName', WHERE WHAT IT READS IS OF BULK AT MOST 1048576: true; the input reads as it did. -/
def fnExactVariableNameUptoRow : OpenClaim := { program := "ytjblggoekfmfpaa", sum := "bb3af5dfd7f78a6296979718f5500eede236e95be50a9b6b73b2de500c82adc5", func := "loop.example/g01917/laws.FnExactVariableName", spec := "fnExactVariableName", apart := false, narrowed := true }
def FnExactVariableNameUptoSaid : Prop := fnExactVariableNameUptoRow.holds Try.pinned (OpenSpec.upto fnExactVariableNameSpec)

/-- 'laws.FnExactEqualRationals', WHERE WHAT IT READS IS OF BULK AT MOST 1048576: true; the input reads as it did. -/
def fnExactEqualRationalsUptoRow : OpenClaim := { program := "ytjblggoekfmfpaa", sum := "bb3af5dfd7f78a6296979718f5500eede236e95be50a9b6b73b2de500c82adc5", func := "loop.example/g01917/laws.FnExactEqualRationals", spec := "fnExactEqualRationals", apart := false, narrowed := true }
def FnExactEqualRationalsUptoSaid : Prop := fnExactEqualRationalsUptoRow.holds Try.pinned (OpenSpec.upto fnExactEqualRationalsSpec)

/-- 'laws.FnExactJoinTreeRoot', WHERE WHAT IT READS IS OF BULK AT MOST 1048576: true; the input reads as it did. -/
def fnExactJoinTreeRootUptoRow : OpenClaim := { program := "ytjblggoekfmfpaa", sum := "bb3af5dfd7f78a6296979718f5500eede236e95be50a9b6b73b2de500c82adc5", func := "loop.example/g01917/laws.FnExactJoinTreeRoot", spec := "fnExactJoinTreeRoot", apart := false, narrowed := true }
def FnExactJoinTreeRootUptoSaid : Prop := fnExactJoinTreeRootUptoRow.holds Try.pinned (OpenSpec.upto fnExactJoinTreeRootSpec)

/-- 'laws.FnExactContainsVariable', WHERE WHAT IT READS IS OF BULK AT MOST 1048576: true; the input reads as it did. -/
def fnExactContainsVariableUptoRow : OpenClaim := { program := "ytjblggoekfmfpaa", sum := "bb3af5dfd7f78a6296979718f5500eede236e95be50a9b6b73b2de500c82adc5", func := "loop.example/g01917/laws.FnExactContainsVariable", spec := "fnExactContainsVariable", apart := false, narrowed := true }
def FnExactContainsVariableUptoSaid : Prop := fnExactContainsVariableUptoRow.holds Try.pinned (OpenSpec.upto fnExactContainsVariableSpec)

/-- 'laws.FnExactJoinTreeChildren', WHERE WHAT IT READS IS OF BULK AT MOST 1048576: true; the input reads as it did. -/
def fnExactJoinTreeChildrenUptoRow : OpenClaim := { program := "ytjblggoekfmfpaa", sum := "bb3af5dfd7f78a6296979718f5500eede236e95be50a9b6b73b2de500c82adc5", func := "loop.example/g01917/laws.FnExactJoinTreeChildren", spec := "fnExactJoinTreeChildren", apart := false, narrowed := true }
def FnExactJoinTreeChildrenUptoSaid : Prop := fnExactJoinTreeChildrenUptoRow.holds Try.pinned (OpenSpec.upto fnExactJoinTreeChildrenSpec)

/-- 'laws.FnExactIsAtomSubset', WHERE WHAT IT READS IS OF BULK AT MOST 1048576: true; the input reads as it did. -/
def fnExactIsAtomSubsetUptoRow : OpenClaim := { program := "ytjblggoekfmfpaa", sum := "bb3af5dfd7f78a6296979718f5500eede236e95be50a9b6b73b2de500c82adc5", func := "loop.example/g01917/laws.FnExactIsAtomSubset", spec := "fnExactIsAtomSubset", apart := false, narrowed := true }
def FnExactIsAtomSubsetUptoSaid : Prop := fnExactIsAtomSubsetUptoRow.holds Try.pinned (OpenSpec.upto fnExactIsAtomSubsetSpec)

/-- 'laws.FnExactAtomVariables', WHERE WHAT IT READS IS OF BULK AT MOST 1048576: true; the input reads as it did. -/
def fnExactAtomVariablesUptoRow : OpenClaim := { program := "ytjblggoekfmfpaa", sum := "bb3af5dfd7f78a6296979718f5500eede236e95be50a9b6b73b2de500c82adc5", func := "loop.example/g01917/laws.FnExactAtomVariables", spec := "fnExactAtomVariables", apart := false, narrowed := true }
def FnExactAtomVariablesUptoSaid : Prop := fnExactAtomVariablesUptoRow.holds Try.pinned (OpenSpec.upto fnExactAtomVariablesSpec)

end Rows
end Go.Proofs.Ytjblggoekfmfpaa
