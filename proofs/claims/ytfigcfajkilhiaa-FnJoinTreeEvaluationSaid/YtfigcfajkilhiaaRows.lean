/-
  No cell of these rows narrows 'for every input' (looked for: loops, veiled, ifaces, maps, wideKeys, modest, calm, conditions, laid).
  DERIVED. THE GIVEN ROWS OF THIS SEAT. 12 by the template 'for every input the law returns true; each argument reads behind the call as it read before'; 0 by the template 'total and deterministic' (their statements: YtfigcfajkilhiaaTotals.lean).
  GIVEN WITH THE SEED: the statements are not yours to turn. If you find one false, say at which input.
  Laid BY PROGRAM, IN A SANDBOX (cutbox-rows.mjs): the forced cells as the released guide's own fill.sh prints them over the translation 5646727dd505e48d… (all of the seat's roots in one cut). By AI agents, Wed Nov 11 2026. No macro, syntax, notation, axiom, sorry.
-/
import Derived.Test.YtfigcfajkilhiaaChecked
import GoSem.Claim
import GoSem.ClaimJoined
import GoSem.ClaimMapViews
import Derived.JoinedTies
import Derived.KernelRfl
namespace Go.Proofs.Ytfigcfajkilhiaa
/- THE CELL 'sum', in the pinned program and in every row, IS THE sha256 OF THE DUMP (.gsa) THAT YtfigcfajkilhiaaProg.lean LOADS. Nothing in Lean hashes anything: it is a label: what it is worth is what the hold of that sum in a sandbox is worth. -/
noncomputable def Try.pinned : Pinned := { name := "ytfigcfajkilhiaa", sum := "5646727dd505e48deedc199e2e90b234e944f36d212c9b17f9a00136cf808269", checked := Try.checked }
namespace Rows
def none {H : Type} : Left H := { results := [], args := [] }

/-- 'laws.FnExactFormatDatabase': WHATEVER THE INPUT: true; the input reads as it did. -/
def fnExactFormatDatabaseSpec : ChangeSpec := { name := "fnExactFormatDatabase", fn := fun _ => fun
  | [d] => { results := [.lit (.bool true)], args := [d] }
  | _ => none }
def fnExactFormatDatabaseRow : OpenClaim := { program := "ytfigcfajkilhiaa", sum := "5646727dd505e48deedc199e2e90b234e944f36d212c9b17f9a00136cf808269", func := "loop.example/g01917/laws.FnExactFormatDatabase", spec := "fnExactFormatDatabase", apart := false }
def FnExactFormatDatabaseSaid : Prop := fnExactFormatDatabaseRow.holds Try.pinned (OpenSpec.ofChange fnExactFormatDatabaseSpec)

/-- ITS FALSE NEIGHBOUR: 'it returns false'. Refute it at one input. -/
def fnExactFormatDatabaseWrong : ChangeSpec := { name := "fnExactFormatDatabase", fn := fun _ => fun
  | [d] => { results := [.lit (.bool false)], args := [d] }
  | _ => none }
def FnExactFormatDatabaseWrongFalsely : Prop := fnExactFormatDatabaseRow.holds Try.pinned (OpenSpec.ofChange fnExactFormatDatabaseWrong)

/-- 'laws.FnExactSetRelation': WHATEVER THE INPUT: true; the input reads as it did. -/
def fnExactSetRelationSpec : ChangeSpec := { name := "fnExactSetRelation", fn := fun _ => fun
  | [d1, d2, d3] => { results := [.lit (.bool true)], args := [d1, d2, d3] }
  | _ => none }
def fnExactSetRelationRow : OpenClaim := { program := "ytfigcfajkilhiaa", sum := "5646727dd505e48deedc199e2e90b234e944f36d212c9b17f9a00136cf808269", func := "loop.example/g01917/laws.FnExactSetRelation", spec := "fnExactSetRelation", apart := false }
def FnExactSetRelationSaid : Prop := fnExactSetRelationRow.holds Try.pinned (OpenSpec.ofChange fnExactSetRelationSpec)

/-- ITS FALSE NEIGHBOUR: 'it returns false'. Refute it at one input. -/
def fnExactSetRelationWrong : ChangeSpec := { name := "fnExactSetRelation", fn := fun _ => fun
  | [d1, d2, d3] => { results := [.lit (.bool false)], args := [d1, d2, d3] }
  | _ => none }
def FnExactSetRelationWrongFalsely : Prop := fnExactSetRelationRow.holds Try.pinned (OpenSpec.ofChange fnExactSetRelationWrong)

/-- 'laws.FnExactParseDatabase': WHATEVER THE INPUT: true; the input reads as it did. -/
def fnExactParseDatabaseSpec : ChangeSpec := { name := "fnExactParseDatabase", fn := fun _ => fun
  | [d] => { results := [.lit (.bool true)], args := [d] }
  | _ => none }
def fnExactParseDatabaseRow : OpenClaim := { program := "ytfigcfajkilhiaa", sum := "5646727dd505e48deedc199e2e90b234e944f36d212c9b17f9a00136cf808269", func := "loop.example/g01917/laws.FnExactParseDatabase", spec := "fnExactParseDatabase", apart := false }
def FnExactParseDatabaseSaid : Prop := fnExactParseDatabaseRow.holds Try.pinned (OpenSpec.ofChange fnExactParseDatabaseSpec)

/-- ITS FALSE NEIGHBOUR: 'it returns false'. Refute it at one input. -/
def fnExactParseDatabaseWrong : ChangeSpec := { name := "fnExactParseDatabase", fn := fun _ => fun
  | [d] => { results := [.lit (.bool false)], args := [d] }
  | _ => none }
def FnExactParseDatabaseWrongFalsely : Prop := fnExactParseDatabaseRow.holds Try.pinned (OpenSpec.ofChange fnExactParseDatabaseWrong)

/-- 'laws.FnExactAllBindings': WHATEVER THE INPUT: true; the input reads as it did. -/
def fnExactAllBindingsSpec : ChangeSpec := { name := "fnExactAllBindings", fn := fun _ => fun
  | [d1, d2] => { results := [.lit (.bool true)], args := [d1, d2] }
  | _ => none }
def fnExactAllBindingsRow : OpenClaim := { program := "ytfigcfajkilhiaa", sum := "5646727dd505e48deedc199e2e90b234e944f36d212c9b17f9a00136cf808269", func := "loop.example/g01917/laws.FnExactAllBindings", spec := "fnExactAllBindings", recurses := true, apart := false }
def FnExactAllBindingsSaid : Prop := fnExactAllBindingsRow.holds Try.pinned (OpenSpec.ofChange fnExactAllBindingsSpec)

/-- ITS FALSE NEIGHBOUR: 'it returns false'. Refute it at one input. -/
def fnExactAllBindingsWrong : ChangeSpec := { name := "fnExactAllBindings", fn := fun _ => fun
  | [d1, d2] => { results := [.lit (.bool false)], args := [d1, d2] }
  | _ => none }
def FnExactAllBindingsWrongFalsely : Prop := fnExactAllBindingsRow.holds Try.pinned (OpenSpec.ofChange fnExactAllBindingsWrong)

/-- 'laws.FnExactEvaluateQuery': WHATEVER THE INPUT: true; the input reads as it did. -/
def fnExactEvaluateQuerySpec : ChangeSpec := { name := "fnExactEvaluateQuery", fn := fun _ => fun
  | [d1, d2] => { results := [.lit (.bool true)], args := [d1, d2] }
  | _ => none }
def fnExactEvaluateQueryRow : OpenClaim := { program := "ytfigcfajkilhiaa", sum := "5646727dd505e48deedc199e2e90b234e944f36d212c9b17f9a00136cf808269", func := "loop.example/g01917/laws.FnExactEvaluateQuery", spec := "fnExactEvaluateQuery", recurses := true, apart := false }
def FnExactEvaluateQuerySaid : Prop := fnExactEvaluateQueryRow.holds Try.pinned (OpenSpec.ofChange fnExactEvaluateQuerySpec)

/-- ITS FALSE NEIGHBOUR: 'it returns false'. Refute it at one input. -/
def fnExactEvaluateQueryWrong : ChangeSpec := { name := "fnExactEvaluateQuery", fn := fun _ => fun
  | [d1, d2] => { results := [.lit (.bool false)], args := [d1, d2] }
  | _ => none }
def FnExactEvaluateQueryWrongFalsely : Prop := fnExactEvaluateQueryRow.holds Try.pinned (OpenSpec.ofChange fnExactEvaluateQueryWrong)

/-- 'laws.FnSemiJoin': WHATEVER THE INPUT: true; the input reads as it did. -/
def fnSemiJoinSpec : ChangeSpec := { name := "fnSemiJoin", fn := fun _ => fun
  | [d] => { results := [.lit (.bool true)], args := [d] }
  | _ => none }
def fnSemiJoinRow : OpenClaim := { program := "ytfigcfajkilhiaa", sum := "5646727dd505e48deedc199e2e90b234e944f36d212c9b17f9a00136cf808269", func := "loop.example/g01917/laws.FnSemiJoin", spec := "fnSemiJoin", recurses := true, apart := false }
def FnSemiJoinSaid : Prop := fnSemiJoinRow.holds Try.pinned (OpenSpec.ofChange fnSemiJoinSpec)

/-- ITS FALSE NEIGHBOUR: 'it returns false'. Refute it at one input. -/
def fnSemiJoinWrong : ChangeSpec := { name := "fnSemiJoin", fn := fun _ => fun
  | [d] => { results := [.lit (.bool false)], args := [d] }
  | _ => none }
def FnSemiJoinWrongFalsely : Prop := fnSemiJoinRow.holds Try.pinned (OpenSpec.ofChange fnSemiJoinWrong)

/-- 'laws.FnNaturalJoin': WHATEVER THE INPUT: true; the input reads as it did. -/
def fnNaturalJoinSpec : ChangeSpec := { name := "fnNaturalJoin", fn := fun _ => fun
  | [d] => { results := [.lit (.bool true)], args := [d] }
  | _ => none }
def fnNaturalJoinRow : OpenClaim := { program := "ytfigcfajkilhiaa", sum := "5646727dd505e48deedc199e2e90b234e944f36d212c9b17f9a00136cf808269", func := "loop.example/g01917/laws.FnNaturalJoin", spec := "fnNaturalJoin", recurses := true, apart := false }
def FnNaturalJoinSaid : Prop := fnNaturalJoinRow.holds Try.pinned (OpenSpec.ofChange fnNaturalJoinSpec)

/-- ITS FALSE NEIGHBOUR: 'it returns false'. Refute it at one input. -/
def fnNaturalJoinWrong : ChangeSpec := { name := "fnNaturalJoin", fn := fun _ => fun
  | [d] => { results := [.lit (.bool false)], args := [d] }
  | _ => none }
def FnNaturalJoinWrongFalsely : Prop := fnNaturalJoinRow.holds Try.pinned (OpenSpec.ofChange fnNaturalJoinWrong)

/-- 'laws.FnRelationFormat': WHATEVER THE INPUT: true; the input reads as it did. -/
def fnRelationFormatSpec : ChangeSpec := { name := "fnRelationFormat", fn := fun _ => fun
  | [d] => { results := [.lit (.bool true)], args := [d] }
  | _ => none }
def fnRelationFormatRow : OpenClaim := { program := "ytfigcfajkilhiaa", sum := "5646727dd505e48deedc199e2e90b234e944f36d212c9b17f9a00136cf808269", func := "loop.example/g01917/laws.FnRelationFormat", spec := "fnRelationFormat", recurses := true, apart := false }
def FnRelationFormatSaid : Prop := fnRelationFormatRow.holds Try.pinned (OpenSpec.ofChange fnRelationFormatSpec)

/-- ITS FALSE NEIGHBOUR: 'it returns false'. Refute it at one input. -/
def fnRelationFormatWrong : ChangeSpec := { name := "fnRelationFormat", fn := fun _ => fun
  | [d] => { results := [.lit (.bool false)], args := [d] }
  | _ => none }
def FnRelationFormatWrongFalsely : Prop := fnRelationFormatRow.holds Try.pinned (OpenSpec.ofChange fnRelationFormatWrong)

/-- 'laws.FnAtomBindings': WHATEVER THE INPUT: true; the input reads as it did. -/
def fnAtomBindingsSpec : ChangeSpec := { name := "fnAtomBindings", fn := fun _ => fun
  | [d] => { results := [.lit (.bool true)], args := [d] }
  | _ => none }
def fnAtomBindingsRow : OpenClaim := { program := "ytfigcfajkilhiaa", sum := "5646727dd505e48deedc199e2e90b234e944f36d212c9b17f9a00136cf808269", func := "loop.example/g01917/laws.FnAtomBindings", spec := "fnAtomBindings", recurses := true, apart := false }
def FnAtomBindingsSaid : Prop := fnAtomBindingsRow.holds Try.pinned (OpenSpec.ofChange fnAtomBindingsSpec)

/-- ITS FALSE NEIGHBOUR: 'it returns false'. Refute it at one input. -/
def fnAtomBindingsWrong : ChangeSpec := { name := "fnAtomBindings", fn := fun _ => fun
  | [d] => { results := [.lit (.bool false)], args := [d] }
  | _ => none }
def FnAtomBindingsWrongFalsely : Prop := fnAtomBindingsRow.holds Try.pinned (OpenSpec.ofChange fnAtomBindingsWrong)

/-- 'laws.FnBindings': WHATEVER THE INPUT: true; the input reads as it did. -/
def fnBindingsSpec : ChangeSpec := { name := "fnBindings", fn := fun _ => fun
  | [d] => { results := [.lit (.bool true)], args := [d] }
  | _ => none }
def fnBindingsRow : OpenClaim := { program := "ytfigcfajkilhiaa", sum := "5646727dd505e48deedc199e2e90b234e944f36d212c9b17f9a00136cf808269", func := "loop.example/g01917/laws.FnBindings", spec := "fnBindings", recurses := true, apart := false }
def FnBindingsSaid : Prop := fnBindingsRow.holds Try.pinned (OpenSpec.ofChange fnBindingsSpec)

/-- ITS FALSE NEIGHBOUR: 'it returns false'. Refute it at one input. -/
def fnBindingsWrong : ChangeSpec := { name := "fnBindings", fn := fun _ => fun
  | [d] => { results := [.lit (.bool false)], args := [d] }
  | _ => none }
def FnBindingsWrongFalsely : Prop := fnBindingsRow.holds Try.pinned (OpenSpec.ofChange fnBindingsWrong)

/-- 'laws.FnReferenceEvaluation': WHATEVER THE INPUT: true; the input reads as it did. -/
def fnReferenceEvaluationSpec : ChangeSpec := { name := "fnReferenceEvaluation", fn := fun _ => fun
  | [d] => { results := [.lit (.bool true)], args := [d] }
  | _ => none }
def fnReferenceEvaluationRow : OpenClaim := { program := "ytfigcfajkilhiaa", sum := "5646727dd505e48deedc199e2e90b234e944f36d212c9b17f9a00136cf808269", func := "loop.example/g01917/laws.FnReferenceEvaluation", spec := "fnReferenceEvaluation", recurses := true, apart := false }
def FnReferenceEvaluationSaid : Prop := fnReferenceEvaluationRow.holds Try.pinned (OpenSpec.ofChange fnReferenceEvaluationSpec)

/-- ITS FALSE NEIGHBOUR: 'it returns false'. Refute it at one input. -/
def fnReferenceEvaluationWrong : ChangeSpec := { name := "fnReferenceEvaluation", fn := fun _ => fun
  | [d] => { results := [.lit (.bool false)], args := [d] }
  | _ => none }
def FnReferenceEvaluationWrongFalsely : Prop := fnReferenceEvaluationRow.holds Try.pinned (OpenSpec.ofChange fnReferenceEvaluationWrong)

/-- 'laws.FnJoinTreeEvaluation': WHATEVER THE INPUT: true; the input reads as it did. -/
def fnJoinTreeEvaluationSpec : ChangeSpec := { name := "fnJoinTreeEvaluation", fn := fun _ => fun
  | [d] => { results := [.lit (.bool true)], args := [d] }
  | _ => none }
def fnJoinTreeEvaluationRow : OpenClaim := { program := "ytfigcfajkilhiaa", sum := "5646727dd505e48deedc199e2e90b234e944f36d212c9b17f9a00136cf808269", func := "loop.example/g01917/laws.FnJoinTreeEvaluation", spec := "fnJoinTreeEvaluation", recurses := true, apart := false }
def FnJoinTreeEvaluationSaid : Prop := fnJoinTreeEvaluationRow.holds Try.pinned (OpenSpec.ofChange fnJoinTreeEvaluationSpec)

/-- ITS FALSE NEIGHBOUR: 'it returns false'. Refute it at one input. -/
def fnJoinTreeEvaluationWrong : ChangeSpec := { name := "fnJoinTreeEvaluation", fn := fun _ => fun
  | [d] => { results := [.lit (.bool false)], args := [d] }
  | _ => none }
def FnJoinTreeEvaluationWrongFalsely : Prop := fnJoinTreeEvaluationRow.holds Try.pinned (OpenSpec.ofChange fnJoinTreeEvaluationWrong)

/- THE SECOND FORM. 'bulk': how many values and letters a reading holds, each counted each time it is reached (what is shared counts as often as it is met; a slice's spare places count too). A statement '..UptoSaid' is the law's where the arguments, and the package variables that the reading takes, are together of bulk at most 1048576: NARROWER than '..Said'. Prove '..Said' where nothing that the law and all that it calls make is longer than what came in: it says more and counts as full. Else prove '..UptoSaid'. A law counts once. -/
mutual
def uptoBulk {H : Type} : DataW H → Nat
  | .lit (.string bytes) => bytes.length + 1
  | .lit _ => 1
  | .nil => 1
  | .ptr d => uptoBulk d + 1
  | .slice elems spare => uptoBulkAll elems + uptoBulkAll spare + 1
  | .agg parts => uptoBulkAll parts + 1
  | .iface _ d => uptoBulk d + 1
  | .map entries => uptoBulkEntries entries + 1
  | .held _ => 1
def uptoBulkAll {H : Type} : List (DataW H) → Nat
  | [] => 0
  | d :: r => uptoBulk d + uptoBulkAll r
def uptoBulkEntries {H : Type} : List (Lit × DataW H) → Nat
  | [] => 0
  | x :: r => uptoBulkEntry x + uptoBulkEntries r
def uptoBulkEntry {H : Type} : Lit × DataW H → Nat
  | (.string bytes, d) => bytes.length + uptoBulk d + 1
  | (_, d) => uptoBulk d + 1
 end
def uptoSmall : (H : Type) → List (DataW H) → Bool := fun _ ds => decide (uptoBulkAll ds ≤ 1048576)
def OpenSpec.upto (s : _root_.Go.ChangeSpec) : _root_.Go.OpenSpec := { _root_.Go.OpenSpec.ofChange s with cond := some uptoSmall }

/-- 'laws.FnExactFormatDatabase', WHERE WHAT IT READS IS OF BULK AT MOST 1048576: true; the input reads as it did. -/
def fnExactFormatDatabaseUptoRow : OpenClaim := { program := "ytfigcfajkilhiaa", sum := "5646727dd505e48deedc199e2e90b234e944f36d212c9b17f9a00136cf808269", func := "loop.example/g01917/laws.FnExactFormatDatabase", spec := "fnExactFormatDatabase", apart := false, narrowed := true }
def FnExactFormatDatabaseUptoSaid : Prop := fnExactFormatDatabaseUptoRow.holds Try.pinned (OpenSpec.upto fnExactFormatDatabaseSpec)

/-- 'laws.FnExactSetRelation', WHERE WHAT IT READS IS OF BULK AT MOST 1048576: true; the input reads as it did. -/
def fnExactSetRelationUptoRow : OpenClaim := { program := "ytfigcfajkilhiaa", sum := "5646727dd505e48deedc199e2e90b234e944f36d212c9b17f9a00136cf808269", func := "loop.example/g01917/laws.FnExactSetRelation", spec := "fnExactSetRelation", apart := false, narrowed := true }
def FnExactSetRelationUptoSaid : Prop := fnExactSetRelationUptoRow.holds Try.pinned (OpenSpec.upto fnExactSetRelationSpec)

/-- 'laws.FnExactParseDatabase', WHERE WHAT IT READS IS OF BULK AT MOST 1048576: true; the input reads as it did. -/
def fnExactParseDatabaseUptoRow : OpenClaim := { program := "ytfigcfajkilhiaa", sum := "5646727dd505e48deedc199e2e90b234e944f36d212c9b17f9a00136cf808269", func := "loop.example/g01917/laws.FnExactParseDatabase", spec := "fnExactParseDatabase", apart := false, narrowed := true }
def FnExactParseDatabaseUptoSaid : Prop := fnExactParseDatabaseUptoRow.holds Try.pinned (OpenSpec.upto fnExactParseDatabaseSpec)

/-- 'laws.FnExactAllBindings', WHERE WHAT IT READS IS OF BULK AT MOST 1048576: true; the input reads as it did. -/
def fnExactAllBindingsUptoRow : OpenClaim := { program := "ytfigcfajkilhiaa", sum := "5646727dd505e48deedc199e2e90b234e944f36d212c9b17f9a00136cf808269", func := "loop.example/g01917/laws.FnExactAllBindings", spec := "fnExactAllBindings", recurses := true, apart := false, narrowed := true }
def FnExactAllBindingsUptoSaid : Prop := fnExactAllBindingsUptoRow.holds Try.pinned (OpenSpec.upto fnExactAllBindingsSpec)

/-- 'laws.FnExactEvaluateQuery', WHERE WHAT IT READS IS OF BULK AT MOST 1048576: true; the input reads as it did. -/
def fnExactEvaluateQueryUptoRow : OpenClaim := { program := "ytfigcfajkilhiaa", sum := "5646727dd505e48deedc199e2e90b234e944f36d212c9b17f9a00136cf808269", func := "loop.example/g01917/laws.FnExactEvaluateQuery", spec := "fnExactEvaluateQuery", recurses := true, apart := false, narrowed := true }
def FnExactEvaluateQueryUptoSaid : Prop := fnExactEvaluateQueryUptoRow.holds Try.pinned (OpenSpec.upto fnExactEvaluateQuerySpec)

/-- 'laws.FnSemiJoin', WHERE WHAT IT READS IS OF BULK AT MOST 1048576: true; the input reads as it did. -/
def fnSemiJoinUptoRow : OpenClaim := { program := "ytfigcfajkilhiaa", sum := "5646727dd505e48deedc199e2e90b234e944f36d212c9b17f9a00136cf808269", func := "loop.example/g01917/laws.FnSemiJoin", spec := "fnSemiJoin", recurses := true, apart := false, narrowed := true }
def FnSemiJoinUptoSaid : Prop := fnSemiJoinUptoRow.holds Try.pinned (OpenSpec.upto fnSemiJoinSpec)

/-- 'laws.FnNaturalJoin', WHERE WHAT IT READS IS OF BULK AT MOST 1048576: true; the input reads as it did. -/
def fnNaturalJoinUptoRow : OpenClaim := { program := "ytfigcfajkilhiaa", sum := "5646727dd505e48deedc199e2e90b234e944f36d212c9b17f9a00136cf808269", func := "loop.example/g01917/laws.FnNaturalJoin", spec := "fnNaturalJoin", recurses := true, apart := false, narrowed := true }
def FnNaturalJoinUptoSaid : Prop := fnNaturalJoinUptoRow.holds Try.pinned (OpenSpec.upto fnNaturalJoinSpec)

/-- 'laws.FnRelationFormat', WHERE WHAT IT READS IS OF BULK AT MOST 1048576: true; the input reads as it did. -/
def fnRelationFormatUptoRow : OpenClaim := { program := "ytfigcfajkilhiaa", sum := "5646727dd505e48deedc199e2e90b234e944f36d212c9b17f9a00136cf808269", func := "loop.example/g01917/laws.FnRelationFormat", spec := "fnRelationFormat", recurses := true, apart := false, narrowed := true }
def FnRelationFormatUptoSaid : Prop := fnRelationFormatUptoRow.holds Try.pinned (OpenSpec.upto fnRelationFormatSpec)

/-- 'laws.FnAtomBindings', WHERE WHAT IT READS IS OF BULK AT MOST 1048576: true; the input reads as it did. -/
def fnAtomBindingsUptoRow : OpenClaim := { program := "ytfigcfajkilhiaa", sum := "5646727dd505e48deedc199e2e90b234e944f36d212c9b17f9a00136cf808269", func := "loop.example/g01917/laws.FnAtomBindings", spec := "fnAtomBindings", recurses := true, apart := false, narrowed := true }
def FnAtomBindingsUptoSaid : Prop := fnAtomBindingsUptoRow.holds Try.pinned (OpenSpec.upto fnAtomBindingsSpec)

/-- 'laws.FnBindings', WHERE WHAT IT READS IS OF BULK AT MOST 1048576: true; the input reads as it did. -/
def fnBindingsUptoRow : OpenClaim := { program := "ytfigcfajkilhiaa", sum := "5646727dd505e48deedc199e2e90b234e944f36d212c9b17f9a00136cf808269", func := "loop.example/g01917/laws.FnBindings", spec := "fnBindings", recurses := true, apart := false, narrowed := true }
def FnBindingsUptoSaid : Prop := fnBindingsUptoRow.holds Try.pinned (OpenSpec.upto fnBindingsSpec)

/-- 'laws.FnReferenceEvaluation', WHERE WHAT IT READS IS OF BULK AT MOST 1048576: true; the input reads as it did. -/
def fnReferenceEvaluationUptoRow : OpenClaim := { program := "ytfigcfajkilhiaa", sum := "5646727dd505e48deedc199e2e90b234e944f36d212c9b17f9a00136cf808269", func := "loop.example/g01917/laws.FnReferenceEvaluation", spec := "fnReferenceEvaluation", recurses := true, apart := false, narrowed := true }
def FnReferenceEvaluationUptoSaid : Prop := fnReferenceEvaluationUptoRow.holds Try.pinned (OpenSpec.upto fnReferenceEvaluationSpec)

/-- 'laws.FnJoinTreeEvaluation', WHERE WHAT IT READS IS OF BULK AT MOST 1048576: true; the input reads as it did. -/
def fnJoinTreeEvaluationUptoRow : OpenClaim := { program := "ytfigcfajkilhiaa", sum := "5646727dd505e48deedc199e2e90b234e944f36d212c9b17f9a00136cf808269", func := "loop.example/g01917/laws.FnJoinTreeEvaluation", spec := "fnJoinTreeEvaluation", recurses := true, apart := false, narrowed := true }
def FnJoinTreeEvaluationUptoSaid : Prop := fnJoinTreeEvaluationUptoRow.holds Try.pinned (OpenSpec.upto fnJoinTreeEvaluationSpec)

end Rows
end Go.Proofs.Ytfigcfajkilhiaa
