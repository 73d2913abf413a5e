/-
  No cell of these rows narrows 'for every input' (looked for: loops, veiled, ifaces, maps, wideKeys, modest, calm, conditions, laid).
  DERIVED. THE GIVEN ROWS OF THIS SEAT. 11 by the template 'for every input the law returns true; each argument reads behind the call as it read before'; 0 by the template 'total and deterministic' (their statements: YtgoleefkbjjidaaTotals.lean).
  GIVEN WITH THE SEED: the statements are not yours to turn. If you find one false, say at which input.
  Laid BY PROGRAM, IN A SANDBOX (cutbox-rows.mjs): the forced cells as the released guide's own fill.sh prints them over the translation f61423f98bf2d93d… (all of the seat's roots in one cut). By AI agents, Wed Nov 11 2026. No macro, syntax, notation, axiom, sorry.
-/
import Derived.Test.YtgoleefkbjjidaaChecked
import GoSem.Claim
import GoSem.ClaimJoined
import GoSem.ClaimMapViews
import Derived.JoinedTies
import Derived.KernelRfl
namespace Go.Proofs.Ytgoleefkbjjidaa
/- THE CELL 'sum', in the pinned program and in every row, IS THE sha256 OF THE DUMP (.gsa) THAT YtgoleefkbjjidaaProg.lean LOADS. Nothing in Lean hashes anything: it is a label: what it is worth is what the hold of that sum in a sandbox is worth. -/
noncomputable def Try.pinned : Pinned := { name := "ytgoleefkbjjidaa", sum := "f61423f98bf2d93da16670ef40810051884a91c76759ef39883548df2fbac610", checked := Try.checked }
namespace Rows
def none {H : Type} : Left H := { results := [], args := [] }

/-- 'laws.FnExactSemiJoin': WHATEVER THE INPUT: true; the input reads as it did. -/
def fnExactSemiJoinSpec : ChangeSpec := { name := "fnExactSemiJoin", fn := fun _ => fun
  | [d1, d2] => { results := [.lit (.bool true)], args := [d1, d2] }
  | _ => none }
def fnExactSemiJoinRow : OpenClaim := { program := "ytgoleefkbjjidaa", sum := "f61423f98bf2d93da16670ef40810051884a91c76759ef39883548df2fbac610", func := "loop.example/g01917/laws.FnExactSemiJoin", spec := "fnExactSemiJoin", recurses := true, apart := false }
def FnExactSemiJoinSaid : Prop := fnExactSemiJoinRow.holds Try.pinned (OpenSpec.ofChange fnExactSemiJoinSpec)

/-- ITS FALSE NEIGHBOUR: 'it returns false'. Refute it at one input. -/
def fnExactSemiJoinWrong : ChangeSpec := { name := "fnExactSemiJoin", fn := fun _ => fun
  | [d1, d2] => { results := [.lit (.bool false)], args := [d1, d2] }
  | _ => none }
def FnExactSemiJoinWrongFalsely : Prop := fnExactSemiJoinRow.holds Try.pinned (OpenSpec.ofChange fnExactSemiJoinWrong)

/-- 'laws.FnExactNaturalJoin': WHATEVER THE INPUT: true; the input reads as it did. -/
def fnExactNaturalJoinSpec : ChangeSpec := { name := "fnExactNaturalJoin", fn := fun _ => fun
  | [d1, d2] => { results := [.lit (.bool true)], args := [d1, d2] }
  | _ => none }
def fnExactNaturalJoinRow : OpenClaim := { program := "ytgoleefkbjjidaa", sum := "f61423f98bf2d93da16670ef40810051884a91c76759ef39883548df2fbac610", func := "loop.example/g01917/laws.FnExactNaturalJoin", spec := "fnExactNaturalJoin", recurses := true, apart := false }
def FnExactNaturalJoinSaid : Prop := fnExactNaturalJoinRow.holds Try.pinned (OpenSpec.ofChange fnExactNaturalJoinSpec)

/-- ITS FALSE NEIGHBOUR: 'it returns false'. Refute it at one input. -/
def fnExactNaturalJoinWrong : ChangeSpec := { name := "fnExactNaturalJoin", fn := fun _ => fun
  | [d1, d2] => { results := [.lit (.bool false)], args := [d1, d2] }
  | _ => none }
def FnExactNaturalJoinWrongFalsely : Prop := fnExactNaturalJoinRow.holds Try.pinned (OpenSpec.ofChange fnExactNaturalJoinWrong)

/-- 'laws.FnExactFormatDatabase': WHATEVER THE INPUT: true; the input reads as it did. -/
def fnExactFormatDatabaseSpec : ChangeSpec := { name := "fnExactFormatDatabase", fn := fun _ => fun
  | [d] => { results := [.lit (.bool true)], args := [d] }
  | _ => none }
def fnExactFormatDatabaseRow : OpenClaim := { program := "ytgoleefkbjjidaa", sum := "f61423f98bf2d93da16670ef40810051884a91c76759ef39883548df2fbac610", func := "loop.example/g01917/laws.FnExactFormatDatabase", spec := "fnExactFormatDatabase", apart := false }
def FnExactFormatDatabaseSaid : Prop := fnExactFormatDatabaseRow.holds Try.pinned (OpenSpec.ofChange fnExactFormatDatabaseSpec)

/-- ITS FALSE NEIGHBOUR: 'it returns false'. Refute it at one input. -/
def fnExactFormatDatabaseWrong : ChangeSpec := { name := "fnExactFormatDatabase", fn := fun _ => fun
  | [d] => { results := [.lit (.bool false)], args := [d] }
  | _ => none }
def FnExactFormatDatabaseWrongFalsely : Prop := fnExactFormatDatabaseRow.holds Try.pinned (OpenSpec.ofChange fnExactFormatDatabaseWrong)

/-- 'laws.FnExactSetRelation': WHATEVER THE INPUT: true; the input reads as it did. -/
def fnExactSetRelationSpec : ChangeSpec := { name := "fnExactSetRelation", fn := fun _ => fun
  | [d1, d2, d3] => { results := [.lit (.bool true)], args := [d1, d2, d3] }
  | _ => none }
def fnExactSetRelationRow : OpenClaim := { program := "ytgoleefkbjjidaa", sum := "f61423f98bf2d93da16670ef40810051884a91c76759ef39883548df2fbac610", func := "loop.example/g01917/laws.FnExactSetRelation", spec := "fnExactSetRelation", apart := false }
def FnExactSetRelationSaid : Prop := fnExactSetRelationRow.holds Try.pinned (OpenSpec.ofChange fnExactSetRelationSpec)

/-- ITS FALSE NEIGHBOUR: 'it returns false'. Refute it at one input. -/
def fnExactSetRelationWrong : ChangeSpec := { name := "fnExactSetRelation", fn := fun _ => fun
  | [d1, d2, d3] => { results := [.lit (.bool false)], args := [d1, d2, d3] }
  | _ => none }
def FnExactSetRelationWrongFalsely : Prop := fnExactSetRelationRow.holds Try.pinned (OpenSpec.ofChange fnExactSetRelationWrong)

/-- 'laws.FnExactParseDatabase': WHATEVER THE INPUT: true; the input reads as it did. -/
def fnExactParseDatabaseSpec : ChangeSpec := { name := "fnExactParseDatabase", fn := fun _ => fun
  | [d] => { results := [.lit (.bool true)], args := [d] }
  | _ => none }
def fnExactParseDatabaseRow : OpenClaim := { program := "ytgoleefkbjjidaa", sum := "f61423f98bf2d93da16670ef40810051884a91c76759ef39883548df2fbac610", func := "loop.example/g01917/laws.FnExactParseDatabase", spec := "fnExactParseDatabase", apart := false }
def FnExactParseDatabaseSaid : Prop := fnExactParseDatabaseRow.holds Try.pinned (OpenSpec.ofChange fnExactParseDatabaseSpec)

/-- ITS FALSE NEIGHBOUR: 'it returns false'. Refute it at one input. -/
def fnExactParseDatabaseWrong : ChangeSpec := { name := "fnExactParseDatabase", fn := fun _ => fun
  | [d] => { results := [.lit (.bool false)], args := [d] }
  | _ => none }
def FnExactParseDatabaseWrongFalsely : Prop := fnExactParseDatabaseRow.holds Try.pinned (OpenSpec.ofChange fnExactParseDatabaseWrong)

/-- 'laws.FnExactIsQueryFor': WHATEVER THE INPUT: true; the input reads as it did. -/
def fnExactIsQueryForSpec : ChangeSpec := { name := "fnExactIsQueryFor", fn := fun _ => fun
  | [d1, d2] => { results := [.lit (.bool true)], args := [d1, d2] }
  | _ => none }
def fnExactIsQueryForRow : OpenClaim := { program := "ytgoleefkbjjidaa", sum := "f61423f98bf2d93da16670ef40810051884a91c76759ef39883548df2fbac610", func := "loop.example/g01917/laws.FnExactIsQueryFor", spec := "fnExactIsQueryFor", apart := false }
def FnExactIsQueryForSaid : Prop := fnExactIsQueryForRow.holds Try.pinned (OpenSpec.ofChange fnExactIsQueryForSpec)

/-- ITS FALSE NEIGHBOUR: 'it returns false'. Refute it at one input. -/
def fnExactIsQueryForWrong : ChangeSpec := { name := "fnExactIsQueryFor", fn := fun _ => fun
  | [d1, d2] => { results := [.lit (.bool false)], args := [d1, d2] }
  | _ => none }
def FnExactIsQueryForWrongFalsely : Prop := fnExactIsQueryForRow.holds Try.pinned (OpenSpec.ofChange fnExactIsQueryForWrong)

/-- 'laws.FnExactIsBinding': WHATEVER THE INPUT: true; the input reads as it did. -/
def fnExactIsBindingSpec : ChangeSpec := { name := "fnExactIsBinding", fn := fun _ => fun
  | [d1, d2, d3] => { results := [.lit (.bool true)], args := [d1, d2, d3] }
  | _ => none }
def fnExactIsBindingRow : OpenClaim := { program := "ytgoleefkbjjidaa", sum := "f61423f98bf2d93da16670ef40810051884a91c76759ef39883548df2fbac610", func := "loop.example/g01917/laws.FnExactIsBinding", spec := "fnExactIsBinding", apart := false }
def FnExactIsBindingSaid : Prop := fnExactIsBindingRow.holds Try.pinned (OpenSpec.ofChange fnExactIsBindingSpec)

/-- ITS FALSE NEIGHBOUR: 'it returns false'. Refute it at one input. -/
def fnExactIsBindingWrong : ChangeSpec := { name := "fnExactIsBinding", fn := fun _ => fun
  | [d1, d2, d3] => { results := [.lit (.bool false)], args := [d1, d2, d3] }
  | _ => none }
def FnExactIsBindingWrongFalsely : Prop := fnExactIsBindingRow.holds Try.pinned (OpenSpec.ofChange fnExactIsBindingWrong)

/-- 'laws.FnExactAtomBindings': WHATEVER THE INPUT: true; the input reads as it did. -/
def fnExactAtomBindingsSpec : ChangeSpec := { name := "fnExactAtomBindings", fn := fun _ => fun
  | [d1, d2] => { results := [.lit (.bool true)], args := [d1, d2] }
  | _ => none }
def fnExactAtomBindingsRow : OpenClaim := { program := "ytgoleefkbjjidaa", sum := "f61423f98bf2d93da16670ef40810051884a91c76759ef39883548df2fbac610", func := "loop.example/g01917/laws.FnExactAtomBindings", spec := "fnExactAtomBindings", recurses := true, apart := false }
def FnExactAtomBindingsSaid : Prop := fnExactAtomBindingsRow.holds Try.pinned (OpenSpec.ofChange fnExactAtomBindingsSpec)

/-- ITS FALSE NEIGHBOUR: 'it returns false'. Refute it at one input. -/
def fnExactAtomBindingsWrong : ChangeSpec := { name := "fnExactAtomBindings", fn := fun _ => fun
  | [d1, d2] => { results := [.lit (.bool false)], args := [d1, d2] }
  | _ => none }
def FnExactAtomBindingsWrongFalsely : Prop := fnExactAtomBindingsRow.holds Try.pinned (OpenSpec.ofChange fnExactAtomBindingsWrong)

/-- 'laws.FnExactAtomRelation': WHATEVER THE INPUT: true; the input reads as it did. -/
def fnExactAtomRelationSpec : ChangeSpec := { name := "fnExactAtomRelation", fn := fun _ => fun
  | [d1, d2] => { results := [.lit (.bool true)], args := [d1, d2] }
  | _ => none }
def fnExactAtomRelationRow : OpenClaim := { program := "ytgoleefkbjjidaa", sum := "f61423f98bf2d93da16670ef40810051884a91c76759ef39883548df2fbac610", func := "loop.example/g01917/laws.FnExactAtomRelation", spec := "fnExactAtomRelation", recurses := true, apart := false }
def FnExactAtomRelationSaid : Prop := fnExactAtomRelationRow.holds Try.pinned (OpenSpec.ofChange fnExactAtomRelationSpec)

/-- ITS FALSE NEIGHBOUR: 'it returns false'. Refute it at one input. -/
def fnExactAtomRelationWrong : ChangeSpec := { name := "fnExactAtomRelation", fn := fun _ => fun
  | [d1, d2] => { results := [.lit (.bool false)], args := [d1, d2] }
  | _ => none }
def FnExactAtomRelationWrongFalsely : Prop := fnExactAtomRelationRow.holds Try.pinned (OpenSpec.ofChange fnExactAtomRelationWrong)

/-- 'laws.FnExactAllBindings': WHATEVER THE INPUT: true; the input reads as it did. -/
def fnExactAllBindingsSpec : ChangeSpec := { name := "fnExactAllBindings", fn := fun _ => fun
  | [d1, d2] => { results := [.lit (.bool true)], args := [d1, d2] }
  | _ => none }
def fnExactAllBindingsRow : OpenClaim := { program := "ytgoleefkbjjidaa", sum := "f61423f98bf2d93da16670ef40810051884a91c76759ef39883548df2fbac610", func := "loop.example/g01917/laws.FnExactAllBindings", spec := "fnExactAllBindings", recurses := true, apart := false }
def FnExactAllBindingsSaid : Prop := fnExactAllBindingsRow.holds Try.pinned (OpenSpec.ofChange fnExactAllBindingsSpec)

/-- ITS FALSE NEIGHBOUR: 'it returns false'. Refute it at one input. -/
def fnExactAllBindingsWrong : ChangeSpec := { name := "fnExactAllBindings", fn := fun _ => fun
  | [d1, d2] => { results := [.lit (.bool false)], args := [d1, d2] }
  | _ => none }
def FnExactAllBindingsWrongFalsely : Prop := fnExactAllBindingsRow.holds Try.pinned (OpenSpec.ofChange fnExactAllBindingsWrong)

/-- 'laws.FnExactEvaluateQuery': WHATEVER THE INPUT: true; the input reads as it did. -/
def fnExactEvaluateQuerySpec : ChangeSpec := { name := "fnExactEvaluateQuery", fn := fun _ => fun
  | [d1, d2] => { results := [.lit (.bool true)], args := [d1, d2] }
  | _ => none }
def fnExactEvaluateQueryRow : OpenClaim := { program := "ytgoleefkbjjidaa", sum := "f61423f98bf2d93da16670ef40810051884a91c76759ef39883548df2fbac610", func := "loop.example/g01917/laws.FnExactEvaluateQuery", spec := "fnExactEvaluateQuery", recurses := true, apart := false }
def FnExactEvaluateQuerySaid : Prop := fnExactEvaluateQueryRow.holds Try.pinned (OpenSpec.ofChange fnExactEvaluateQuerySpec)

/-- ITS FALSE NEIGHBOUR: 'it returns false'. Refute it at one input. -/
def fnExactEvaluateQueryWrong : ChangeSpec := { name := "fnExactEvaluateQuery", fn := fun _ => fun
  | [d1, d2] => { results := [.lit (.bool false)], args := [d1, d2] }
  | _ => none }
def FnExactEvaluateQueryWrongFalsely : Prop := fnExactEvaluateQueryRow.holds Try.pinned (OpenSpec.ofChange fnExactEvaluateQueryWrong)

/- THE SECOND FORM. 'bulk': how many values and letters a reading holds, each counted each time it is reached (what is shared counts as often as it is met; a slice's spare places count too). A statement '..UptoSaid' is the law's where the arguments, and the package variables that the reading takes, are together of bulk at most 1048576: NARROWER than '..Said'. Prove '..Said' where nothing that the law and all that it calls make is longer than what came in: it says more and counts as full. Else prove '..UptoSaid'. A law counts once. -/
mutual
def uptoBulk {H : Type} : DataW H → Nat
  | .lit (.string bytes) => bytes.length + 1
  | .lit _ => 1
  | .nil => 1
  | .ptr d => uptoBulk d + 1
  | .slice elems spare => uptoBulkAll elems + uptoBulkAll spare + 1
  | .agg parts => uptoBulkAll parts + 1
  | .iface _ d => uptoBulk d + 1
  | .map entries => uptoBulkEntries entries + 1
  | .held _ => 1
def uptoBulkAll {H : Type} : List (DataW H) → Nat
  | [] => 0
  | d :: r => uptoBulk d + uptoBulkAll r
def uptoBulkEntries {H : Type} : List (Lit × DataW H) → Nat
  | [] => 0
  | x :: r => uptoBulkEntry x + uptoBulkEntries r
def uptoBulkEntry {H : Type} : Lit × DataW H → Nat
  | (.string bytes, d) => bytes.length + uptoBulk d + 1
  | (_, d) => uptoBulk d + 1
 end
def uptoSmall : (H : Type) → List (DataW H) → Bool := fun _ ds => decide (uptoBulkAll ds ≤ 1048576)
def OpenSpec.upto (s : _root_.Go.ChangeSpec) : _root_.Go.OpenSpec := { _root_.Go.OpenSpec.ofChange s with cond := some uptoSmall }

/-- 'laws.FnExactSemiJoin', WHERE WHAT IT READS IS OF BULK AT MOST 1048576: true; the input reads as it did. -/
def fnExactSemiJoinUptoRow : OpenClaim := { program := "ytgoleefkbjjidaa", sum := "f61423f98bf2d93da16670ef40810051884a91c76759ef39883548df2fbac610", func := "loop.example/g01917/laws.FnExactSemiJoin", spec := "fnExactSemiJoin", recurses := true, apart := false, narrowed := true }
def FnExactSemiJoinUptoSaid : Prop := fnExactSemiJoinUptoRow.holds Try.pinned (OpenSpec.upto fnExactSemiJoinSpec)

/-- 'laws.FnExactNaturalJoin', WHERE WHAT IT READS IS OF BULK AT MOST 1048576: true; the input reads as it did. -/
def fnExactNaturalJoinUptoRow : OpenClaim := { program := "ytgoleefkbjjidaa", sum := "f61423f98bf2d93da16670ef40810051884a91c76759ef39883548df2fbac610", func := "loop.example/g01917/laws.FnExactNaturalJoin", spec := "fnExactNaturalJoin", recurses := true, apart := false, narrowed := true }
def FnExactNaturalJoinUptoSaid : Prop := fnExactNaturalJoinUptoRow.holds Try.pinned (OpenSpec.upto fnExactNaturalJoinSpec)

/-- 'laws.FnExactFormatDatabase', WHERE WHAT IT READS IS OF BULK AT MOST 1048576: true; the input reads as it did. -/
def fnExactFormatDatabaseUptoRow : OpenClaim := { program := "ytgoleefkbjjidaa", sum := "f61423f98bf2d93da16670ef40810051884a91c76759ef39883548df2fbac610", func := "loop.example/g01917/laws.FnExactFormatDatabase", spec := "fnExactFormatDatabase", apart := false, narrowed := true }
def FnExactFormatDatabaseUptoSaid : Prop := fnExactFormatDatabaseUptoRow.holds Try.pinned (OpenSpec.upto fnExactFormatDatabaseSpec)

/-- 'laws.FnExactSetRelation', WHERE WHAT IT READS IS OF BULK AT MOST 1048576: true; the input reads as it did. -/
def fnExactSetRelationUptoRow : OpenClaim := { program := "ytgoleefkbjjidaa", sum := "f61423f98bf2d93da16670ef40810051884a91c76759ef39883548df2fbac610", func := "loop.example/g01917/laws.FnExactSetRelation", spec := "fnExactSetRelation", apart := false, narrowed := true }
def FnExactSetRelationUptoSaid : Prop := fnExactSetRelationUptoRow.holds Try.pinned (OpenSpec.upto fnExactSetRelationSpec)

/-- 'laws.FnExactParseDatabase', WHERE WHAT IT READS IS OF BULK AT MOST 1048576: true; the input reads as it did. -/
def fnExactParseDatabaseUptoRow : OpenClaim := { program := "ytgoleefkbjjidaa", sum := "f61423f98bf2d93da16670ef40810051884a91c76759ef39883548df2fbac610", func := "loop.example/g01917/laws.FnExactParseDatabase", spec := "fnExactParseDatabase", apart := false, narrowed := true }
def FnExactParseDatabaseUptoSaid : Prop := fnExactParseDatabaseUptoRow.holds Try.pinned (OpenSpec.upto fnExactParseDatabaseSpec)

/-- 'laws.FnExactIsQueryFor', WHERE WHAT IT READS IS OF BULK AT MOST 1048576: true; the input reads as it did. -/
def fnExactIsQueryForUptoRow : OpenClaim := { program := "ytgoleefkbjjidaa", sum := "f61423f98bf2d93da16670ef40810051884a91c76759ef39883548df2fbac610", func := "loop.example/g01917/laws.FnExactIsQueryFor", spec := "fnExactIsQueryFor", apart := false, narrowed := true }
def FnExactIsQueryForUptoSaid : Prop := fnExactIsQueryForUptoRow.holds Try.pinned (OpenSpec.upto fnExactIsQueryForSpec)

/-- 'laws.FnExactIsBinding', WHERE WHAT IT READS IS OF BULK AT MOST 1048576: true; the input reads as it did. -/
def fnExactIsBindingUptoRow : OpenClaim := { program := "ytgoleefkbjjidaa", sum := "f61423f98bf2d93da16670ef40810051884a91c76759ef39883548df2fbac610", func := "loop.example/g01917/laws.FnExactIsBinding", spec := "fnExactIsBinding", apart := false, narrowed := true }
def FnExactIsBindingUptoSaid : Prop := fnExactIsBindingUptoRow.holds Try.pinned (OpenSpec.upto fnExactIsBindingSpec)

/-- 'laws.FnExactAtomBindings', WHERE WHAT IT READS IS OF BULK AT MOST 1048576: true; the input reads as it did. -/
def fnExactAtomBindingsUptoRow : OpenClaim := { program := "ytgoleefkbjjidaa", sum := "f61423f98bf2d93da16670ef40810051884a91c76759ef39883548df2fbac610", func := "loop.example/g01917/laws.FnExactAtomBindings", spec := "fnExactAtomBindings", recurses := true, apart := false, narrowed := true }
def FnExactAtomBindingsUptoSaid : Prop := fnExactAtomBindingsUptoRow.holds Try.pinned (OpenSpec.upto fnExactAtomBindingsSpec)

/-- 'laws.FnExactAtomRelation', WHERE WHAT IT READS IS OF BULK AT MOST 1048576: true; the input reads as it did. -/
def fnExactAtomRelationUptoRow : OpenClaim := { program := "ytgoleefkbjjidaa", sum := "f61423f98bf2d93da16670ef40810051884a91c76759ef39883548df2fbac610", func := "loop.example/g01917/laws.FnExactAtomRelation", spec := "fnExactAtomRelation", recurses := true, apart := false, narrowed := true }
def FnExactAtomRelationUptoSaid : Prop := fnExactAtomRelationUptoRow.holds Try.pinned (OpenSpec.upto fnExactAtomRelationSpec)

/-- 'laws.FnExactAllBindings', WHERE WHAT IT READS IS OF BULK AT MOST 1048576: true; the input reads as it did. -/
def fnExactAllBindingsUptoRow : OpenClaim := { program := "ytgoleefkbjjidaa", sum := "f61423f98bf2d93da16670ef40810051884a91c76759ef39883548df2fbac610", func := "loop.example/g01917/laws.FnExactAllBindings", spec := "fnExactAllBindings", recurses := true, apart := false, narrowed := true }
def FnExactAllBindingsUptoSaid : Prop := fnExactAllBindingsUptoRow.holds Try.pinned (OpenSpec.upto fnExactAllBindingsSpec)

/-- 'laws.FnExactEvaluateQuery', WHERE WHAT IT READS IS OF BULK AT MOST 1048576: true; the input reads as it did. -/
def fnExactEvaluateQueryUptoRow : OpenClaim := { program := "ytgoleefkbjjidaa", sum := "f61423f98bf2d93da16670ef40810051884a91c76759ef39883548df2fbac610", func := "loop.example/g01917/laws.FnExactEvaluateQuery", spec := "fnExactEvaluateQuery", recurses := true, apart := false, narrowed := true }
def FnExactEvaluateQueryUptoSaid : Prop := fnExactEvaluateQueryUptoRow.holds Try.pinned (OpenSpec.upto fnExactEvaluateQuerySpec)

end Rows
end Go.Proofs.Ytgoleefkbjjidaa
