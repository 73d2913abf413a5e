/-
  No cell of these rows narrows 'for every input' (looked for: loops, veiled, ifaces, maps, wideKeys, modest, calm, conditions, laid).
  DERIVED. THE GIVEN ROWS OF THIS SEAT. 10 by the template 'for every input the law returns true; each argument reads behind the call as it read before'; 0 by the template 'total and deterministic' (their statements: YtoffbconbgipjaaTotals.lean).
  GIVEN WITH THE SEED: the statements are not yours to turn. If you find one false, say at which input.
  Laid BY PROGRAM, IN A SANDBOX (cutbox-rows.mjs): the forced cells as the released guide's own fill.sh prints them over the translation a5d83a26d8e875e9… (all of the seat's roots in one cut). By AI agents, Wed Nov 11 2026. No macro, syntax, notation, axiom, sorry.
-/
import Derived.Test.YtoffbconbgipjaaChecked
import GoSem.Claim
import GoSem.ClaimJoined
import GoSem.ClaimMapViews
import Derived.JoinedTies
import Derived.KernelRfl
namespace Go.Proofs.Ytoffbconbgipjaa
/- THE CELL 'sum', in the pinned program and in every row, IS THE sha256 OF THE DUMP (.gsa) THAT YtoffbconbgipjaaProg.lean LOADS. Nothing in Lean hashes anything: it is a label: what it is worth is what the hold of that sum in a sandbox is worth. -/
noncomputable def Try.pinned : Pinned := { name := "ytoffbconbgipjaa", sum := "a5d83a26d8e875e9479c0e873ab505ccc06278cfd83fd83628bab4b4ca9f16f8", checked := Try.checked }
namespace Rows
def none {H : Type} : Left H := { results := [], args := [] }

/-- 'laws.FnExactCommonVariables': WHATEVER THE INPUT: true; the input reads as it did. -/
def fnExactCommonVariablesSpec : ChangeSpec := { name := "fnExactCommonVariables", fn := fun _ => fun
  | [d1, d2] => { results := [.lit (.bool true)], args := [d1, d2] }
  | _ => none }
def fnExactCommonVariablesRow : OpenClaim := { program := "ytoffbconbgipjaa", sum := "a5d83a26d8e875e9479c0e873ab505ccc06278cfd83fd83628bab4b4ca9f16f8", func := "loop.example/g01917/laws.FnExactCommonVariables", spec := "fnExactCommonVariables", apart := false }
def FnExactCommonVariablesSaid : Prop := fnExactCommonVariablesRow.holds Try.pinned (OpenSpec.ofChange fnExactCommonVariablesSpec)

/-- ITS FALSE NEIGHBOUR: 'it returns false'. Refute it at one input. -/
def fnExactCommonVariablesWrong : ChangeSpec := { name := "fnExactCommonVariables", fn := fun _ => fun
  | [d1, d2] => { results := [.lit (.bool false)], args := [d1, d2] }
  | _ => none }
def FnExactCommonVariablesWrongFalsely : Prop := fnExactCommonVariablesRow.holds Try.pinned (OpenSpec.ofChange fnExactCommonVariablesWrong)

/-- 'laws.FnExactEqualQueries': WHATEVER THE INPUT: true; the input reads as it did. -/
def fnExactEqualQueriesSpec : ChangeSpec := { name := "fnExactEqualQueries", fn := fun _ => fun
  | [d1, d2] => { results := [.lit (.bool true)], args := [d1, d2] }
  | _ => none }
def fnExactEqualQueriesRow : OpenClaim := { program := "ytoffbconbgipjaa", sum := "a5d83a26d8e875e9479c0e873ab505ccc06278cfd83fd83628bab4b4ca9f16f8", func := "loop.example/g01917/laws.FnExactEqualQueries", spec := "fnExactEqualQueries", apart := false }
def FnExactEqualQueriesSaid : Prop := fnExactEqualQueriesRow.holds Try.pinned (OpenSpec.ofChange fnExactEqualQueriesSpec)

/-- ITS FALSE NEIGHBOUR: 'it returns false'. Refute it at one input. -/
def fnExactEqualQueriesWrong : ChangeSpec := { name := "fnExactEqualQueries", fn := fun _ => fun
  | [d1, d2] => { results := [.lit (.bool false)], args := [d1, d2] }
  | _ => none }
def FnExactEqualQueriesWrongFalsely : Prop := fnExactEqualQueriesRow.holds Try.pinned (OpenSpec.ofChange fnExactEqualQueriesWrong)

/-- 'laws.FnExactIsValidQuery': WHATEVER THE INPUT: true; the input reads as it did. -/
def fnExactIsValidQuerySpec : ChangeSpec := { name := "fnExactIsValidQuery", fn := fun _ => fun
  | [d] => { results := [.lit (.bool true)], args := [d] }
  | _ => none }
def fnExactIsValidQueryRow : OpenClaim := { program := "ytoffbconbgipjaa", sum := "a5d83a26d8e875e9479c0e873ab505ccc06278cfd83fd83628bab4b4ca9f16f8", func := "loop.example/g01917/laws.FnExactIsValidQuery", spec := "fnExactIsValidQuery", apart := false }
def FnExactIsValidQuerySaid : Prop := fnExactIsValidQueryRow.holds Try.pinned (OpenSpec.ofChange fnExactIsValidQuerySpec)

/-- ITS FALSE NEIGHBOUR: 'it returns false'. Refute it at one input. -/
def fnExactIsValidQueryWrong : ChangeSpec := { name := "fnExactIsValidQuery", fn := fun _ => fun
  | [d] => { results := [.lit (.bool false)], args := [d] }
  | _ => none }
def FnExactIsValidQueryWrongFalsely : Prop := fnExactIsValidQueryRow.holds Try.pinned (OpenSpec.ofChange fnExactIsValidQueryWrong)

/-- 'laws.FnExactFormatQuery': WHATEVER THE INPUT: true; the input reads as it did. -/
def fnExactFormatQuerySpec : ChangeSpec := { name := "fnExactFormatQuery", fn := fun _ => fun
  | [d] => { results := [.lit (.bool true)], args := [d] }
  | _ => none }
def fnExactFormatQueryRow : OpenClaim := { program := "ytoffbconbgipjaa", sum := "a5d83a26d8e875e9479c0e873ab505ccc06278cfd83fd83628bab4b4ca9f16f8", func := "loop.example/g01917/laws.FnExactFormatQuery", spec := "fnExactFormatQuery", apart := false }
def FnExactFormatQuerySaid : Prop := fnExactFormatQueryRow.holds Try.pinned (OpenSpec.ofChange fnExactFormatQuerySpec)

/-- ITS FALSE NEIGHBOUR: 'it returns false'. Refute it at one input. -/
def fnExactFormatQueryWrong : ChangeSpec := { name := "fnExactFormatQuery", fn := fun _ => fun
  | [d] => { results := [.lit (.bool false)], args := [d] }
  | _ => none }
def FnExactFormatQueryWrongFalsely : Prop := fnExactFormatQueryRow.holds Try.pinned (OpenSpec.ofChange fnExactFormatQueryWrong)

/-- 'laws.FnExactNeighbors': WHATEVER THE INPUT: true; the input reads as it did. -/
def fnExactNeighborsSpec : ChangeSpec := { name := "fnExactNeighbors", fn := fun _ => fun
  | [d1, d2] => { results := [.lit (.bool true)], args := [d1, d2] }
  | _ => none }
def fnExactNeighborsRow : OpenClaim := { program := "ytoffbconbgipjaa", sum := "a5d83a26d8e875e9479c0e873ab505ccc06278cfd83fd83628bab4b4ca9f16f8", func := "loop.example/g01917/laws.FnExactNeighbors", spec := "fnExactNeighbors", apart := false }
def FnExactNeighborsSaid : Prop := fnExactNeighborsRow.holds Try.pinned (OpenSpec.ofChange fnExactNeighborsSpec)

/-- ITS FALSE NEIGHBOUR: 'it returns false'. Refute it at one input. -/
def fnExactNeighborsWrong : ChangeSpec := { name := "fnExactNeighbors", fn := fun _ => fun
  | [d1, d2] => { results := [.lit (.bool false)], args := [d1, d2] }
  | _ => none }
def FnExactNeighborsWrongFalsely : Prop := fnExactNeighborsRow.holds Try.pinned (OpenSpec.ofChange fnExactNeighborsWrong)

/-- 'laws.FnExactIsAcyclic': WHATEVER THE INPUT: true; the input reads as it did. -/
def fnExactIsAcyclicSpec : ChangeSpec := { name := "fnExactIsAcyclic", fn := fun _ => fun
  | [d] => { results := [.lit (.bool true)], args := [d] }
  | _ => none }
def fnExactIsAcyclicRow : OpenClaim := { program := "ytoffbconbgipjaa", sum := "a5d83a26d8e875e9479c0e873ab505ccc06278cfd83fd83628bab4b4ca9f16f8", func := "loop.example/g01917/laws.FnExactIsAcyclic", spec := "fnExactIsAcyclic", unfollowed := true, recurses := true, apart := false }
def FnExactIsAcyclicSaid : Prop := fnExactIsAcyclicRow.holds Try.pinned (OpenSpec.ofChange fnExactIsAcyclicSpec)

/-- ITS FALSE NEIGHBOUR: 'it returns false'. Refute it at one input. -/
def fnExactIsAcyclicWrong : ChangeSpec := { name := "fnExactIsAcyclic", fn := fun _ => fun
  | [d] => { results := [.lit (.bool false)], args := [d] }
  | _ => none }
def FnExactIsAcyclicWrongFalsely : Prop := fnExactIsAcyclicRow.holds Try.pinned (OpenSpec.ofChange fnExactIsAcyclicWrong)

/-- 'laws.FnExactRemovableAtoms': WHATEVER THE INPUT: true; the input reads as it did. -/
def fnExactRemovableAtomsSpec : ChangeSpec := { name := "fnExactRemovableAtoms", fn := fun _ => fun
  | [d] => { results := [.lit (.bool true)], args := [d] }
  | _ => none }
def fnExactRemovableAtomsRow : OpenClaim := { program := "ytoffbconbgipjaa", sum := "a5d83a26d8e875e9479c0e873ab505ccc06278cfd83fd83628bab4b4ca9f16f8", func := "loop.example/g01917/laws.FnExactRemovableAtoms", spec := "fnExactRemovableAtoms", unfollowed := true, recurses := true, apart := false }
def FnExactRemovableAtomsSaid : Prop := fnExactRemovableAtomsRow.holds Try.pinned (OpenSpec.ofChange fnExactRemovableAtomsSpec)

/-- ITS FALSE NEIGHBOUR: 'it returns false'. Refute it at one input. -/
def fnExactRemovableAtomsWrong : ChangeSpec := { name := "fnExactRemovableAtoms", fn := fun _ => fun
  | [d] => { results := [.lit (.bool false)], args := [d] }
  | _ => none }
def FnExactRemovableAtomsWrongFalsely : Prop := fnExactRemovableAtomsRow.holds Try.pinned (OpenSpec.ofChange fnExactRemovableAtomsWrong)

/-- 'laws.FnExactBuildJoinTree': WHATEVER THE INPUT: true; the input reads as it did. -/
def fnExactBuildJoinTreeSpec : ChangeSpec := { name := "fnExactBuildJoinTree", fn := fun _ => fun
  | [d] => { results := [.lit (.bool true)], args := [d] }
  | _ => none }
def fnExactBuildJoinTreeRow : OpenClaim := { program := "ytoffbconbgipjaa", sum := "a5d83a26d8e875e9479c0e873ab505ccc06278cfd83fd83628bab4b4ca9f16f8", func := "loop.example/g01917/laws.FnExactBuildJoinTree", spec := "fnExactBuildJoinTree", unfollowed := true, recurses := true, apart := false }
def FnExactBuildJoinTreeSaid : Prop := fnExactBuildJoinTreeRow.holds Try.pinned (OpenSpec.ofChange fnExactBuildJoinTreeSpec)

/-- ITS FALSE NEIGHBOUR: 'it returns false'. Refute it at one input. -/
def fnExactBuildJoinTreeWrong : ChangeSpec := { name := "fnExactBuildJoinTree", fn := fun _ => fun
  | [d] => { results := [.lit (.bool false)], args := [d] }
  | _ => none }
def FnExactBuildJoinTreeWrongFalsely : Prop := fnExactBuildJoinTreeRow.holds Try.pinned (OpenSpec.ofChange fnExactBuildJoinTreeWrong)

/-- 'laws.FnExactIsValidJoinTree': WHATEVER THE INPUT: true; the input reads as it did. -/
def fnExactIsValidJoinTreeSpec : ChangeSpec := { name := "fnExactIsValidJoinTree", fn := fun _ => fun
  | [d1, d2] => { results := [.lit (.bool true)], args := [d1, d2] }
  | _ => none }
def fnExactIsValidJoinTreeRow : OpenClaim := { program := "ytoffbconbgipjaa", sum := "a5d83a26d8e875e9479c0e873ab505ccc06278cfd83fd83628bab4b4ca9f16f8", func := "loop.example/g01917/laws.FnExactIsValidJoinTree", spec := "fnExactIsValidJoinTree", apart := false }
def FnExactIsValidJoinTreeSaid : Prop := fnExactIsValidJoinTreeRow.holds Try.pinned (OpenSpec.ofChange fnExactIsValidJoinTreeSpec)

/-- ITS FALSE NEIGHBOUR: 'it returns false'. Refute it at one input. -/
def fnExactIsValidJoinTreeWrong : ChangeSpec := { name := "fnExactIsValidJoinTree", fn := fun _ => fun
  | [d1, d2] => { results := [.lit (.bool false)], args := [d1, d2] }
  | _ => none }
def FnExactIsValidJoinTreeWrongFalsely : Prop := fnExactIsValidJoinTreeRow.holds Try.pinned (OpenSpec.ofChange fnExactIsValidJoinTreeWrong)

/-- 'laws.FnExactConnectedComponents': WHATEVER THE INPUT: true; the input reads as it did. -/
def fnExactConnectedComponentsSpec : ChangeSpec := { name := "fnExactConnectedComponents", fn := fun _ => fun
  | [d] => { results := [.lit (.bool true)], args := [d] }
  | _ => none }
def fnExactConnectedComponentsRow : OpenClaim := { program := "ytoffbconbgipjaa", sum := "a5d83a26d8e875e9479c0e873ab505ccc06278cfd83fd83628bab4b4ca9f16f8", func := "loop.example/g01917/laws.FnExactConnectedComponents", spec := "fnExactConnectedComponents", apart := false }
def FnExactConnectedComponentsSaid : Prop := fnExactConnectedComponentsRow.holds Try.pinned (OpenSpec.ofChange fnExactConnectedComponentsSpec)

/-- ITS FALSE NEIGHBOUR: 'it returns false'. Refute it at one input. -/
def fnExactConnectedComponentsWrong : ChangeSpec := { name := "fnExactConnectedComponents", fn := fun _ => fun
  | [d] => { results := [.lit (.bool false)], args := [d] }
  | _ => none }
def FnExactConnectedComponentsWrongFalsely : Prop := fnExactConnectedComponentsRow.holds Try.pinned (OpenSpec.ofChange fnExactConnectedComponentsWrong)

/- THE SECOND FORM. 'bulk': how many values and letters a reading holds, each counted each time it is reached (what is shared counts as often as it is met; a slice's spare places count too). A statement '..UptoSaid' is the law's where the arguments, and the package variables that the reading takes, are together of bulk at most 1048576: NARROWER than '..Said'. Prove '..Said' where nothing that the law and all that it calls make is longer than what came in: it says more and counts as full. Else prove '..UptoSaid'. A law counts once. -/
mutual
def uptoBulk {H : Type} : DataW H → Nat
  | .lit (.string bytes) => bytes.length + 1
  | .lit _ => 1
  | .nil => 1
  | .ptr d => uptoBulk d + 1
  | .slice elems spare => uptoBulkAll elems + uptoBulkAll spare + 1
  | .agg parts => uptoBulkAll parts + 1
  | .iface _ d => uptoBulk d + 1
  | .map entries => uptoBulkEntries entries + 1
  | .held _ => 1
def uptoBulkAll {H : Type} : List (DataW H) → Nat
  | [] => 0
  | d :: r => uptoBulk d + uptoBulkAll r
def uptoBulkEntries {H : Type} : List (Lit × DataW H) → Nat
  | [] => 0
  | x :: r => uptoBulkEntry x + uptoBulkEntries r
def uptoBulkEntry {H : Type} : Lit × DataW H → Nat
  | (.string bytes, d) => bytes.length + uptoBulk d + 1
  | (_, d) => uptoBulk d + 1
 end
def uptoSmall : (H : Type) → List (DataW H) → Bool := fun _ ds => decide (uptoBulkAll ds ≤ 1048576)
def OpenSpec.upto (s : _root_.Go.ChangeSpec) : _root_.Go.OpenSpec := { _root_.Go.OpenSpec.ofChange s with cond := some uptoSmall }

/-- 'laws.FnExactCommonVariables', WHERE WHAT IT READS IS OF BULK AT MOST 1048576: true; the input reads as it did. -/
def fnExactCommonVariablesUptoRow : OpenClaim := { program := "ytoffbconbgipjaa", sum := "a5d83a26d8e875e9479c0e873ab505ccc06278cfd83fd83628bab4b4ca9f16f8", func := "loop.example/g01917/laws.FnExactCommonVariables", spec := "fnExactCommonVariables", apart := false, narrowed := true }
def FnExactCommonVariablesUptoSaid : Prop := fnExactCommonVariablesUptoRow.holds Try.pinned (OpenSpec.upto fnExactCommonVariablesSpec)

/-- 'laws.FnExactEqualQueries', WHERE WHAT IT READS IS OF BULK AT MOST 1048576: true; the input reads as it did. -/
def fnExactEqualQueriesUptoRow : OpenClaim := { program := "ytoffbconbgipjaa", sum := "a5d83a26d8e875e9479c0e873ab505ccc06278cfd83fd83628bab4b4ca9f16f8", func := "loop.example/g01917/laws.FnExactEqualQueries", spec := "fnExactEqualQueries", apart := false, narrowed := true }
def FnExactEqualQueriesUptoSaid : Prop := fnExactEqualQueriesUptoRow.holds Try.pinned (OpenSpec.upto fnExactEqualQueriesSpec)

/-- 'laws.FnExactIsValidQuery', WHERE WHAT IT READS IS OF BULK AT MOST 1048576: true; the input reads as it did. -/
def fnExactIsValidQueryUptoRow : OpenClaim := { program := "ytoffbconbgipjaa", sum := "a5d83a26d8e875e9479c0e873ab505ccc06278cfd83fd83628bab4b4ca9f16f8", func := "loop.example/g01917/laws.FnExactIsValidQuery", spec := "fnExactIsValidQuery", apart := false, narrowed := true }
def FnExactIsValidQueryUptoSaid : Prop := fnExactIsValidQueryUptoRow.holds Try.pinned (OpenSpec.upto fnExactIsValidQuerySpec)

/-- 'laws.FnExactFormatQuery', WHERE WHAT IT READS IS OF BULK AT MOST 1048576: true; the input reads as it did. -/
def fnExactFormatQueryUptoRow : OpenClaim := { program := "ytoffbconbgipjaa", sum := "a5d83a26d8e875e9479c0e873ab505ccc06278cfd83fd83628bab4b4ca9f16f8", func := "loop.example/g01917/laws.FnExactFormatQuery", spec := "fnExactFormatQuery", apart := false, narrowed := true }
def FnExactFormatQueryUptoSaid : Prop := fnExactFormatQueryUptoRow.holds Try.pinned (OpenSpec.upto fnExactFormatQuerySpec)

/-- 'laws.FnExactNeighbors', WHERE WHAT IT READS IS OF BULK AT MOST 1048576: true; the input reads as it did. -/
def fnExactNeighborsUptoRow : OpenClaim := { program := "ytoffbconbgipjaa", sum := "a5d83a26d8e875e9479c0e873ab505ccc06278cfd83fd83628bab4b4ca9f16f8", func := "loop.example/g01917/laws.FnExactNeighbors", spec := "fnExactNeighbors", apart := false, narrowed := true }
def FnExactNeighborsUptoSaid : Prop := fnExactNeighborsUptoRow.holds Try.pinned (OpenSpec.upto fnExactNeighborsSpec)

/-- 'laws.FnExactIsAcyclic', WHERE WHAT IT READS IS OF BULK AT MOST 1048576: true; the input reads as it did. -/
def fnExactIsAcyclicUptoRow : OpenClaim := { program := "ytoffbconbgipjaa", sum := "a5d83a26d8e875e9479c0e873ab505ccc06278cfd83fd83628bab4b4ca9f16f8", func := "loop.example/g01917/laws.FnExactIsAcyclic", spec := "fnExactIsAcyclic", unfollowed := true, recurses := true, apart := false, narrowed := true }
def FnExactIsAcyclicUptoSaid : Prop := fnExactIsAcyclicUptoRow.holds Try.pinned (OpenSpec.upto fnExactIsAcyclicSpec)

/-- 'laws.FnExactRemovableAtoms', WHERE WHAT IT READS IS OF BULK AT MOST 1048576: true; the input reads as it did. -/
def fnExactRemovableAtomsUptoRow : OpenClaim := { program := "ytoffbconbgipjaa", sum := "a5d83a26d8e875e9479c0e873ab505ccc06278cfd83fd83628bab4b4ca9f16f8", func := "loop.example/g01917/laws.FnExactRemovableAtoms", spec := "fnExactRemovableAtoms", unfollowed := true, recurses := true, apart := false, narrowed := true }
def FnExactRemovableAtomsUptoSaid : Prop := fnExactRemovableAtomsUptoRow.holds Try.pinned (OpenSpec.upto fnExactRemovableAtomsSpec)

/-- 'laws.FnExactBuildJoinTree', WHERE WHAT IT READS IS OF BULK AT MOST 1048576: true; the input reads as it did. -/
def fnExactBuildJoinTreeUptoRow : OpenClaim := { program := "ytoffbconbgipjaa", sum := "a5d83a26d8e875e9479c0e873ab505ccc06278cfd83fd83628bab4b4ca9f16f8", func := "loop.example/g01917/laws.FnExactBuildJoinTree", spec := "fnExactBuildJoinTree", unfollowed := true, recurses := true, apart := false, narrowed := true }
def FnExactBuildJoinTreeUptoSaid : Prop := fnExactBuildJoinTreeUptoRow.holds Try.pinned (OpenSpec.upto fnExactBuildJoinTreeSpec)

/-- 'laws.FnExactIsValidJoinTree', WHERE WHAT IT READS IS OF BULK AT MOST 1048576: true; the input reads as it did. -/
def fnExactIsValidJoinTreeUptoRow : OpenClaim := { program := "ytoffbconbgipjaa", sum := "a5d83a26d8e875e9479c0e873ab505ccc06278cfd83fd83628bab4b4ca9f16f8", func := "loop.example/g01917/laws.FnExactIsValidJoinTree", spec := "fnExactIsValidJoinTree", apart := false, narrowed := true }
def FnExactIsValidJoinTreeUptoSaid : Prop := fnExactIsValidJoinTreeUptoRow.holds Try.pinned (OpenSpec.upto fnExactIsValidJoinTreeSpec)

/-- 'laws.FnExactConnectedComponents', WHERE WHAT IT READS IS OF BULK AT MOST 1048576: true; the input reads as it did. -/
def fnExactConnectedComponentsUptoRow : OpenClaim := { program := "ytoffbconbgipjaa", sum := "a5d83a26d8e875e9479c0e873ab505ccc06278cfd83fd83628bab4b4ca9f16f8", func := "loop.example/g01917/laws.FnExactConnectedComponents", spec := "fnExactConnectedComponents", apart := false, narrowed := true }
def FnExactConnectedComponentsUptoSaid : Prop := fnExactConnectedComponentsUptoRow.holds Try.pinned (OpenSpec.upto fnExactConnectedComponentsSpec)

end Rows
end Go.Proofs.Ytoffbconbgipjaa
