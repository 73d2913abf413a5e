/-
  No cell of these rows narrows 'for every input' (looked for: loops, veiled, ifaces, maps, wideKeys, modest, calm, conditions, laid).
  DERIVED. THE GIVEN ROWS OF THIS SEAT. 4 by the template 'for every input the law returns true; each argument reads behind the call as it read before'; 0 by the template 'total and deterministic' (their statements: YtbjpkfgkmilkdaaTotals.lean).
  GIVEN WITH THE SEED: the statements are not yours to turn. If you find one false, say at which input.
  Laid BY PROGRAM, IN A SANDBOX (cutbox-rows.mjs): the forced cells as the released guide's own fill.sh prints them over the translation 86cfeb7fb058ba3a… (all of the seat's roots in one cut). By AI agents, Wed Nov 11 2026. No macro, syntax, notation, axiom, sorry.
-/
import Derived.Test.YtbjpkfgkmilkdaaChecked
import GoSem.Claim
import GoSem.ClaimJoined
import GoSem.ClaimMapViews
import Derived.JoinedTies
import Derived.KernelRfl
namespace Go.Proofs.Ytbjpkfgkmilkdaa
/- THE CELL 'sum', in the pinned program and in every row, IS THE sha256 OF THE DUMP (.gsa) THAT YtbjpkfgkmilkdaaProg.lean LOADS. Nothing in Lean hashes anything: it is a label: what it is worth is what the hold of that sum in a sandbox is worth. -/
noncomputable def Try.pinned : Pinned := { name := "ytbjpkfgkmilkdaa", sum := "86cfeb7fb058ba3afd0072fc8e3d371328bc45270c544556af3431c8774f8297", checked := Try.checked }
namespace Rows
def none {H : Type} : Left H := { results := [], args := [] }

/-- 'laws.FnExactSolveLinearSystem': WHATEVER THE INPUT: true; the input reads as it did. -/
def fnExactSolveLinearSystemSpec : ChangeSpec := { name := "fnExactSolveLinearSystem", fn := fun _ => fun
  | [d1, d2] => { results := [.lit (.bool true)], args := [d1, d2] }
  | _ => none }
def fnExactSolveLinearSystemRow : OpenClaim := { program := "ytbjpkfgkmilkdaa", sum := "86cfeb7fb058ba3afd0072fc8e3d371328bc45270c544556af3431c8774f8297", func := "loop.example/g01917/laws.FnExactSolveLinearSystem", spec := "fnExactSolveLinearSystem", apart := false }
def FnExactSolveLinearSystemSaid : Prop := fnExactSolveLinearSystemRow.holds Try.pinned (OpenSpec.ofChange fnExactSolveLinearSystemSpec)

/-- ITS FALSE NEIGHBOUR: 'it returns false'. Refute it at one input. -/
def fnExactSolveLinearSystemWrong : ChangeSpec := { name := "fnExactSolveLinearSystem", fn := fun _ => fun
  | [d1, d2] => { results := [.lit (.bool false)], args := [d1, d2] }
  | _ => none }
def FnExactSolveLinearSystemWrongFalsely : Prop := fnExactSolveLinearSystemRow.holds Try.pinned (OpenSpec.ofChange fnExactSolveLinearSystemWrong)

/-- 'laws.FnLinearSystem': WHATEVER THE INPUT: true; the input reads as it did. -/
def fnLinearSystemSpec : ChangeSpec := { name := "fnLinearSystem", fn := fun _ => fun
  | [d] => { results := [.lit (.bool true)], args := [d] }
  | _ => none }
def fnLinearSystemRow : OpenClaim := { program := "ytbjpkfgkmilkdaa", sum := "86cfeb7fb058ba3afd0072fc8e3d371328bc45270c544556af3431c8774f8297", func := "loop.example/g01917/laws.FnLinearSystem", spec := "fnLinearSystem", apart := false }
def FnLinearSystemSaid : Prop := fnLinearSystemRow.holds Try.pinned (OpenSpec.ofChange fnLinearSystemSpec)

/-- ITS FALSE NEIGHBOUR: 'it returns false'. Refute it at one input. -/
def fnLinearSystemWrong : ChangeSpec := { name := "fnLinearSystem", fn := fun _ => fun
  | [d] => { results := [.lit (.bool false)], args := [d] }
  | _ => none }
def FnLinearSystemWrongFalsely : Prop := fnLinearSystemRow.holds Try.pinned (OpenSpec.ofChange fnLinearSystemWrong)

/-- 'laws.FnQueryFormat': WHATEVER THE INPUT: true; the input reads as it did. -/
def fnQueryFormatSpec : ChangeSpec := { name := "fnQueryFormat", fn := fun _ => fun
  | [d] => { results := [.lit (.bool true)], args := [d] }
  | _ => none }
def fnQueryFormatRow : OpenClaim := { program := "ytbjpkfgkmilkdaa", sum := "86cfeb7fb058ba3afd0072fc8e3d371328bc45270c544556af3431c8774f8297", func := "loop.example/g01917/laws.FnQueryFormat", spec := "fnQueryFormat", apart := false }
def FnQueryFormatSaid : Prop := fnQueryFormatRow.holds Try.pinned (OpenSpec.ofChange fnQueryFormatSpec)

/-- ITS FALSE NEIGHBOUR: 'it returns false'. Refute it at one input. -/
def fnQueryFormatWrong : ChangeSpec := { name := "fnQueryFormat", fn := fun _ => fun
  | [d] => { results := [.lit (.bool false)], args := [d] }
  | _ => none }
def FnQueryFormatWrongFalsely : Prop := fnQueryFormatRow.holds Try.pinned (OpenSpec.ofChange fnQueryFormatWrong)

/-- 'laws.FnJoinTree': WHATEVER THE INPUT: true; the input reads as it did. -/
def fnJoinTreeSpec : ChangeSpec := { name := "fnJoinTree", fn := fun _ => fun
  | [d] => { results := [.lit (.bool true)], args := [d] }
  | _ => none }
def fnJoinTreeRow : OpenClaim := { program := "ytbjpkfgkmilkdaa", sum := "86cfeb7fb058ba3afd0072fc8e3d371328bc45270c544556af3431c8774f8297", func := "loop.example/g01917/laws.FnJoinTree", spec := "fnJoinTree", unfollowed := true, recurses := true, apart := false }
def FnJoinTreeSaid : Prop := fnJoinTreeRow.holds Try.pinned (OpenSpec.ofChange fnJoinTreeSpec)

/-- ITS FALSE NEIGHBOUR: 'it returns false'. Refute it at one input. -/
def fnJoinTreeWrong : ChangeSpec := { name := "fnJoinTree", fn := fun _ => fun
  | [d] => { results := [.lit (.bool false)], args := [d] }
  | _ => none }
def FnJoinTreeWrongFalsely : Prop := fnJoinTreeRow.holds Try.pinned (OpenSpec.ofChange fnJoinTreeWrong)

/- THE SECOND FORM. 'bulk': how many values and letters a reading holds, each counted each time it is reached (what is shared counts as often as it is met; a slice's spare places count too). A statement '..UptoSaid' is the law's where the arguments, and the package variables that the reading takes, are together of bulk at most 1048576: NARROWER than '..Said'. Prove '..Said' where nothing that the law and all that it calls make is longer than what came in: it says more and counts as full. Else prove '..UptoSaid'. A law counts once. -/
mutual
def uptoBulk {H : Type} : DataW H → Nat
  | .lit (.string bytes) => bytes.length + 1
  | .lit _ => 1
  | .nil => 1
  | .ptr d => uptoBulk d + 1
  | .slice elems spare => uptoBulkAll elems + uptoBulkAll spare + 1
  | .agg parts => uptoBulkAll parts + 1
  | .iface _ d => uptoBulk d + 1
  | .map entries => uptoBulkEntries entries + 1
  | .held _ => 1
def uptoBulkAll {H : Type} : List (DataW H) → Nat
  | [] => 0
  | d :: r => uptoBulk d + uptoBulkAll r
def uptoBulkEntries {H : Type} : List (Lit × DataW H) → Nat
  | [] => 0
  | x :: r => uptoBulkEntry x + uptoBulkEntries r
def uptoBulkEntry {H : Type} : Lit × DataW H → Nat
  | (.string bytes, d) => bytes.length + uptoBulk d + 1
  | (_, d) => uptoBulk d + 1
 end
def uptoSmall : (H : Type) → List (DataW H) → Bool := fun _ ds => decide (uptoBulkAll ds ≤ 1048576)
def OpenSpec.upto (s : _root_.Go.ChangeSpec) : _root_.Go.OpenSpec := { _root_.Go.OpenSpec.ofChange s with cond := some uptoSmall }

/-- 'laws.FnExactSolveLinearSystem', WHERE WHAT IT READS IS OF BULK AT MOST 1048576: true; the input reads as it did. -/
def fnExactSolveLinearSystemUptoRow : OpenClaim := { program := "ytbjpkfgkmilkdaa", sum := "86cfeb7fb058ba3afd0072fc8e3d371328bc45270c544556af3431c8774f8297", func := "loop.example/g01917/laws.FnExactSolveLinearSystem", spec := "fnExactSolveLinearSystem", apart := false, narrowed := true }
def FnExactSolveLinearSystemUptoSaid : Prop := fnExactSolveLinearSystemUptoRow.holds Try.pinned (OpenSpec.upto fnExactSolveLinearSystemSpec)

/-- 'laws.FnLinearSystem', WHERE WHAT IT READS IS OF BULK AT MOST 1048576: true; the input reads as it did. -/
def fnLinearSystemUptoRow : OpenClaim := { program := "ytbjpkfgkmilkdaa", sum := "86cfeb7fb058ba3afd0072fc8e3d371328bc45270c544556af3431c8774f8297", func := "loop.example/g01917/laws.FnLinearSystem", spec := "fnLinearSystem", apart := false, narrowed := true }
def FnLinearSystemUptoSaid : Prop := fnLinearSystemUptoRow.holds Try.pinned (OpenSpec.upto fnLinearSystemSpec)

/-- 'laws.FnQueryFormat', WHERE WHAT IT READS IS OF BULK AT MOST 1048576: true; the input reads as it did. -/
def fnQueryFormatUptoRow : OpenClaim := { program := "ytbjpkfgkmilkdaa", sum := "86cfeb7fb058ba3afd0072fc8e3d371328bc45270c544556af3431c8774f8297", func := "loop.example/g01917/laws.FnQueryFormat", spec := "fnQueryFormat", apart := false, narrowed := true }
def FnQueryFormatUptoSaid : Prop := fnQueryFormatUptoRow.holds Try.pinned (OpenSpec.upto fnQueryFormatSpec)

/-- 'laws.FnJoinTree', WHERE WHAT IT READS IS OF BULK AT MOST 1048576: true; the input reads as it did. -/
def fnJoinTreeUptoRow : OpenClaim := { program := "ytbjpkfgkmilkdaa", sum := "86cfeb7fb058ba3afd0072fc8e3d371328bc45270c544556af3431c8774f8297", func := "loop.example/g01917/laws.FnJoinTree", spec := "fnJoinTree", unfollowed := true, recurses := true, apart := false, narrowed := true }
def FnJoinTreeUptoSaid : Prop := fnJoinTreeUptoRow.holds Try.pinned (OpenSpec.upto fnJoinTreeSpec)

end Rows
end Go.Proofs.Ytbjpkfgkmilkdaa
