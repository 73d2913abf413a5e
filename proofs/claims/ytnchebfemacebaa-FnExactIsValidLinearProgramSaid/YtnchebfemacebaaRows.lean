/-
  No cell of these rows narrows 'for every input' (looked for: loops, veiled, ifaces, maps, wideKeys, modest, calm, conditions, laid).
  DERIVED. THE GIVEN ROWS OF THIS SEAT. 12 by the template 'for every input the law returns true; each argument reads behind the call as it read before'; 0 by the template 'total and deterministic' (their statements: YtnchebfemacebaaTotals.lean).
  GIVEN WITH THE SEED: the statements are not yours to turn. If you find one false, say at which input.
  Laid BY PROGRAM, IN A SANDBOX (cutbox-rows.mjs): the forced cells as the released guide's own fill.sh prints them over the translation 5e088bfd5b85b40c… (all of the seat's roots in one cut). By AI agents, Wed Nov 11 2026. No macro, syntax, notation, axiom, sorry.
-/
import Derived.Test.YtnchebfemacebaaChecked
import GoSem.Claim
import GoSem.ClaimJoined
import GoSem.ClaimMapViews
import Derived.JoinedTies
import Derived.KernelRfl
namespace Go.Proofs.Ytnchebfemacebaa
/- THE CELL 'sum', in the pinned program and in every row, IS THE sha256 OF THE DUMP (.gsa) THAT YtnchebfemacebaaProg.lean LOADS. Nothing in Lean hashes anything: it is a label: what it is worth is what the hold of that sum in a sandbox is worth. -/
noncomputable def Try.pinned : Pinned := { name := "ytnchebfemacebaa", sum := "5e088bfd5b85b40c689b4a60d104a64b2b55adf6439b182033a386bbcd51e5b8", checked := Try.checked }
namespace Rows
def none {H : Type} : Left H := { results := [], args := [] }

/-- 'laws.FnExactSumRationals': WHATEVER THE INPUT: true; the input reads as it did. -/
def fnExactSumRationalsSpec : ChangeSpec := { name := "fnExactSumRationals", fn := fun _ => fun
  | [d] => { results := [.lit (.bool true)], args := [d] }
  | _ => none }
def fnExactSumRationalsRow : OpenClaim := { program := "ytnchebfemacebaa", sum := "5e088bfd5b85b40c689b4a60d104a64b2b55adf6439b182033a386bbcd51e5b8", func := "loop.example/g01917/laws.FnExactSumRationals", spec := "fnExactSumRationals", apart := false }
def FnExactSumRationalsSaid : Prop := fnExactSumRationalsRow.holds Try.pinned (OpenSpec.ofChange fnExactSumRationalsSpec)

/-- ITS FALSE NEIGHBOUR: 'it returns false'. Refute it at one input. -/
def fnExactSumRationalsWrong : ChangeSpec := { name := "fnExactSumRationals", fn := fun _ => fun
  | [d] => { results := [.lit (.bool false)], args := [d] }
  | _ => none }
def FnExactSumRationalsWrongFalsely : Prop := fnExactSumRationalsRow.holds Try.pinned (OpenSpec.ofChange fnExactSumRationalsWrong)

/-- 'laws.FnExactScaleToIntegers': WHATEVER THE INPUT: true; the input reads as it did. -/
def fnExactScaleToIntegersSpec : ChangeSpec := { name := "fnExactScaleToIntegers", fn := fun _ => fun
  | [d] => { results := [.lit (.bool true)], args := [d] }
  | _ => none }
def fnExactScaleToIntegersRow : OpenClaim := { program := "ytnchebfemacebaa", sum := "5e088bfd5b85b40c689b4a60d104a64b2b55adf6439b182033a386bbcd51e5b8", func := "loop.example/g01917/laws.FnExactScaleToIntegers", spec := "fnExactScaleToIntegers", apart := false }
def FnExactScaleToIntegersSaid : Prop := fnExactScaleToIntegersRow.holds Try.pinned (OpenSpec.ofChange fnExactScaleToIntegersSpec)

/-- ITS FALSE NEIGHBOUR: 'it returns false'. Refute it at one input. -/
def fnExactScaleToIntegersWrong : ChangeSpec := { name := "fnExactScaleToIntegers", fn := fun _ => fun
  | [d] => { results := [.lit (.bool false)], args := [d] }
  | _ => none }
def FnExactScaleToIntegersWrongFalsely : Prop := fnExactScaleToIntegersRow.holds Try.pinned (OpenSpec.ofChange fnExactScaleToIntegersWrong)

/-- 'laws.FnExactFormatRationals': WHATEVER THE INPUT: true; the input reads as it did. -/
def fnExactFormatRationalsSpec : ChangeSpec := { name := "fnExactFormatRationals", fn := fun _ => fun
  | [d] => { results := [.lit (.bool true)], args := [d] }
  | _ => none }
def fnExactFormatRationalsRow : OpenClaim := { program := "ytnchebfemacebaa", sum := "5e088bfd5b85b40c689b4a60d104a64b2b55adf6439b182033a386bbcd51e5b8", func := "loop.example/g01917/laws.FnExactFormatRationals", spec := "fnExactFormatRationals", recurses := true, apart := false }
def FnExactFormatRationalsSaid : Prop := fnExactFormatRationalsRow.holds Try.pinned (OpenSpec.ofChange fnExactFormatRationalsSpec)

/-- ITS FALSE NEIGHBOUR: 'it returns false'. Refute it at one input. -/
def fnExactFormatRationalsWrong : ChangeSpec := { name := "fnExactFormatRationals", fn := fun _ => fun
  | [d] => { results := [.lit (.bool false)], args := [d] }
  | _ => none }
def FnExactFormatRationalsWrongFalsely : Prop := fnExactFormatRationalsRow.holds Try.pinned (OpenSpec.ofChange fnExactFormatRationalsWrong)

/-- 'laws.FnExactDotProduct': WHATEVER THE INPUT: true; the input reads as it did. -/
def fnExactDotProductSpec : ChangeSpec := { name := "fnExactDotProduct", fn := fun _ => fun
  | [d1, d2] => { results := [.lit (.bool true)], args := [d1, d2] }
  | _ => none }
def fnExactDotProductRow : OpenClaim := { program := "ytnchebfemacebaa", sum := "5e088bfd5b85b40c689b4a60d104a64b2b55adf6439b182033a386bbcd51e5b8", func := "loop.example/g01917/laws.FnExactDotProduct", spec := "fnExactDotProduct", apart := false }
def FnExactDotProductSaid : Prop := fnExactDotProductRow.holds Try.pinned (OpenSpec.ofChange fnExactDotProductSpec)

/-- ITS FALSE NEIGHBOUR: 'it returns false'. Refute it at one input. -/
def fnExactDotProductWrong : ChangeSpec := { name := "fnExactDotProduct", fn := fun _ => fun
  | [d1, d2] => { results := [.lit (.bool false)], args := [d1, d2] }
  | _ => none }
def FnExactDotProductWrongFalsely : Prop := fnExactDotProductRow.holds Try.pinned (OpenSpec.ofChange fnExactDotProductWrong)

/-- 'laws.FnExactIsValidLinearProgram': WHATEVER THE INPUT: true; the input reads as it did. -/
def fnExactIsValidLinearProgramSpec : ChangeSpec := { name := "fnExactIsValidLinearProgram", fn := fun _ => fun
  | [d] => { results := [.lit (.bool true)], args := [d] }
  | _ => none }
def fnExactIsValidLinearProgramRow : OpenClaim := { program := "ytnchebfemacebaa", sum := "5e088bfd5b85b40c689b4a60d104a64b2b55adf6439b182033a386bbcd51e5b8", func := "loop.example/g01917/laws.FnExactIsValidLinearProgram", spec := "fnExactIsValidLinearProgram", apart := false }
def FnExactIsValidLinearProgramSaid : Prop := fnExactIsValidLinearProgramRow.holds Try.pinned (OpenSpec.ofChange fnExactIsValidLinearProgramSpec)

/-- ITS FALSE NEIGHBOUR: 'it returns false'. Refute it at one input. -/
def fnExactIsValidLinearProgramWrong : ChangeSpec := { name := "fnExactIsValidLinearProgram", fn := fun _ => fun
  | [d] => { results := [.lit (.bool false)], args := [d] }
  | _ => none }
def FnExactIsValidLinearProgramWrongFalsely : Prop := fnExactIsValidLinearProgramRow.holds Try.pinned (OpenSpec.ofChange fnExactIsValidLinearProgramWrong)

/-- 'laws.FnExactTranspose': WHATEVER THE INPUT: true; the input reads as it did. -/
def fnExactTransposeSpec : ChangeSpec := { name := "fnExactTranspose", fn := fun _ => fun
  | [d] => { results := [.lit (.bool true)], args := [d] }
  | _ => none }
def fnExactTransposeRow : OpenClaim := { program := "ytnchebfemacebaa", sum := "5e088bfd5b85b40c689b4a60d104a64b2b55adf6439b182033a386bbcd51e5b8", func := "loop.example/g01917/laws.FnExactTranspose", spec := "fnExactTranspose", apart := false }
def FnExactTransposeSaid : Prop := fnExactTransposeRow.holds Try.pinned (OpenSpec.ofChange fnExactTransposeSpec)

/-- ITS FALSE NEIGHBOUR: 'it returns false'. Refute it at one input. -/
def fnExactTransposeWrong : ChangeSpec := { name := "fnExactTranspose", fn := fun _ => fun
  | [d] => { results := [.lit (.bool false)], args := [d] }
  | _ => none }
def FnExactTransposeWrongFalsely : Prop := fnExactTransposeRow.holds Try.pinned (OpenSpec.ofChange fnExactTransposeWrong)

/-- 'laws.FnExactParseRationals': WHATEVER THE INPUT: true; the input reads as it did. -/
def fnExactParseRationalsSpec : ChangeSpec := { name := "fnExactParseRationals", fn := fun _ => fun
  | [d] => { results := [.lit (.bool true)], args := [d] }
  | _ => none }
def fnExactParseRationalsRow : OpenClaim := { program := "ytnchebfemacebaa", sum := "5e088bfd5b85b40c689b4a60d104a64b2b55adf6439b182033a386bbcd51e5b8", func := "loop.example/g01917/laws.FnExactParseRationals", spec := "fnExactParseRationals", recurses := true, apart := false }
def FnExactParseRationalsSaid : Prop := fnExactParseRationalsRow.holds Try.pinned (OpenSpec.ofChange fnExactParseRationalsSpec)

/-- ITS FALSE NEIGHBOUR: 'it returns false'. Refute it at one input. -/
def fnExactParseRationalsWrong : ChangeSpec := { name := "fnExactParseRationals", fn := fun _ => fun
  | [d] => { results := [.lit (.bool false)], args := [d] }
  | _ => none }
def FnExactParseRationalsWrongFalsely : Prop := fnExactParseRationalsRow.holds Try.pinned (OpenSpec.ofChange fnExactParseRationalsWrong)

/-- 'laws.FnExactMatrixVectorProduct': WHATEVER THE INPUT: true; the input reads as it did. -/
def fnExactMatrixVectorProductSpec : ChangeSpec := { name := "fnExactMatrixVectorProduct", fn := fun _ => fun
  | [d1, d2] => { results := [.lit (.bool true)], args := [d1, d2] }
  | _ => none }
def fnExactMatrixVectorProductRow : OpenClaim := { program := "ytnchebfemacebaa", sum := "5e088bfd5b85b40c689b4a60d104a64b2b55adf6439b182033a386bbcd51e5b8", func := "loop.example/g01917/laws.FnExactMatrixVectorProduct", spec := "fnExactMatrixVectorProduct", apart := false }
def FnExactMatrixVectorProductSaid : Prop := fnExactMatrixVectorProductRow.holds Try.pinned (OpenSpec.ofChange fnExactMatrixVectorProductSpec)

/-- ITS FALSE NEIGHBOUR: 'it returns false'. Refute it at one input. -/
def fnExactMatrixVectorProductWrong : ChangeSpec := { name := "fnExactMatrixVectorProduct", fn := fun _ => fun
  | [d1, d2] => { results := [.lit (.bool false)], args := [d1, d2] }
  | _ => none }
def FnExactMatrixVectorProductWrongFalsely : Prop := fnExactMatrixVectorProductRow.holds Try.pinned (OpenSpec.ofChange fnExactMatrixVectorProductWrong)

/-- 'laws.FnExactSolveLinearSystem': WHATEVER THE INPUT: true; the input reads as it did. -/
def fnExactSolveLinearSystemSpec : ChangeSpec := { name := "fnExactSolveLinearSystem", fn := fun _ => fun
  | [d1, d2] => { results := [.lit (.bool true)], args := [d1, d2] }
  | _ => none }
def fnExactSolveLinearSystemRow : OpenClaim := { program := "ytnchebfemacebaa", sum := "5e088bfd5b85b40c689b4a60d104a64b2b55adf6439b182033a386bbcd51e5b8", func := "loop.example/g01917/laws.FnExactSolveLinearSystem", spec := "fnExactSolveLinearSystem", apart := false }
def FnExactSolveLinearSystemSaid : Prop := fnExactSolveLinearSystemRow.holds Try.pinned (OpenSpec.ofChange fnExactSolveLinearSystemSpec)

/-- ITS FALSE NEIGHBOUR: 'it returns false'. Refute it at one input. -/
def fnExactSolveLinearSystemWrong : ChangeSpec := { name := "fnExactSolveLinearSystem", fn := fun _ => fun
  | [d1, d2] => { results := [.lit (.bool false)], args := [d1, d2] }
  | _ => none }
def FnExactSolveLinearSystemWrongFalsely : Prop := fnExactSolveLinearSystemRow.holds Try.pinned (OpenSpec.ofChange fnExactSolveLinearSystemWrong)

/-- 'laws.FnScaling': WHATEVER THE INPUT: true; the input reads as it did. -/
def fnScalingSpec : ChangeSpec := { name := "fnScaling", fn := fun _ => fun
  | [d] => { results := [.lit (.bool true)], args := [d] }
  | _ => none }
def fnScalingRow : OpenClaim := { program := "ytnchebfemacebaa", sum := "5e088bfd5b85b40c689b4a60d104a64b2b55adf6439b182033a386bbcd51e5b8", func := "loop.example/g01917/laws.FnScaling", spec := "fnScaling", apart := false }
def FnScalingSaid : Prop := fnScalingRow.holds Try.pinned (OpenSpec.ofChange fnScalingSpec)

/-- ITS FALSE NEIGHBOUR: 'it returns false'. Refute it at one input. -/
def fnScalingWrong : ChangeSpec := { name := "fnScaling", fn := fun _ => fun
  | [d] => { results := [.lit (.bool false)], args := [d] }
  | _ => none }
def FnScalingWrongFalsely : Prop := fnScalingRow.holds Try.pinned (OpenSpec.ofChange fnScalingWrong)

/-- 'laws.FnTranspose': WHATEVER THE INPUT: true; the input reads as it did. -/
def fnTransposeSpec : ChangeSpec := { name := "fnTranspose", fn := fun _ => fun
  | [d] => { results := [.lit (.bool true)], args := [d] }
  | _ => none }
def fnTransposeRow : OpenClaim := { program := "ytnchebfemacebaa", sum := "5e088bfd5b85b40c689b4a60d104a64b2b55adf6439b182033a386bbcd51e5b8", func := "loop.example/g01917/laws.FnTranspose", spec := "fnTranspose", apart := false }
def FnTransposeSaid : Prop := fnTransposeRow.holds Try.pinned (OpenSpec.ofChange fnTransposeSpec)

/-- ITS FALSE NEIGHBOUR: 'it returns false'. Refute it at one input. -/
def fnTransposeWrong : ChangeSpec := { name := "fnTranspose", fn := fun _ => fun
  | [d] => { results := [.lit (.bool false)], args := [d] }
  | _ => none }
def FnTransposeWrongFalsely : Prop := fnTransposeRow.holds Try.pinned (OpenSpec.ofChange fnTransposeWrong)

/-- 'laws.FnLinearSystem': WHATEVER THE INPUT: true; the input reads as it did. -/
def fnLinearSystemSpec : ChangeSpec := { name := "fnLinearSystem", fn := fun _ => fun
  | [d] => { results := [.lit (.bool true)], args := [d] }
  | _ => none }
def fnLinearSystemRow : OpenClaim := { program := "ytnchebfemacebaa", sum := "5e088bfd5b85b40c689b4a60d104a64b2b55adf6439b182033a386bbcd51e5b8", func := "loop.example/g01917/laws.FnLinearSystem", spec := "fnLinearSystem", apart := false }
def FnLinearSystemSaid : Prop := fnLinearSystemRow.holds Try.pinned (OpenSpec.ofChange fnLinearSystemSpec)

/-- ITS FALSE NEIGHBOUR: 'it returns false'. Refute it at one input. -/
def fnLinearSystemWrong : ChangeSpec := { name := "fnLinearSystem", fn := fun _ => fun
  | [d] => { results := [.lit (.bool false)], args := [d] }
  | _ => none }
def FnLinearSystemWrongFalsely : Prop := fnLinearSystemRow.holds Try.pinned (OpenSpec.ofChange fnLinearSystemWrong)

/- THE SECOND FORM. 'bulk': how many values and letters a reading holds, each counted each time it is reached (what is shared counts as often as it is met; a slice's spare places count too). A statement '..UptoSaid' is the law's where the arguments, and the package variables that the reading takes, are together of bulk at most 1048576: NARROWER than '..Said'. Prove '..Said' where nothing that the law and all that it calls make is longer than what came in: it says more and counts as full. Else prove '..UptoSaid'. A law counts once. -/
mutual
def uptoBulk {H : Type} : DataW H → Nat
  | .lit (.string bytes) => bytes.length + 1
  | .lit _ => 1
  | .nil => 1
  | .ptr d => uptoBulk d + 1
  | .slice elems spare => uptoBulkAll elems + uptoBulkAll spare + 1
  | .agg parts => uptoBulkAll parts + 1
  | .iface _ d => uptoBulk d + 1
  | .map entries => uptoBulkEntries entries + 1
  | .held _ => 1
def uptoBulkAll {H : Type} : List (DataW H) → Nat
  | [] => 0
  | d :: r => uptoBulk d + uptoBulkAll r
def uptoBulkEntries {H : Type} : List (Lit × DataW H) → Nat
  | [] => 0
  | x :: r => uptoBulkEntry x + uptoBulkEntries r
def uptoBulkEntry {H : Type} : Lit × DataW H → Nat
  | (.string bytes, d) => bytes.length + uptoBulk d + 1
  | (_, d) => uptoBulk d + 1
 end
def uptoSmall : (H : Type) → List (DataW H) → Bool := fun _ ds => decide (uptoBulkAll ds ≤ 1048576)
def OpenSpec.upto (s : _root_.Go.ChangeSpec) : _root_.Go.OpenSpec := { _root_.Go.OpenSpec.ofChange s with cond := some uptoSmall }

/-- 'laws.FnExactSumRationals', WHERE WHAT IT READS IS OF BULK AT MOST 1048576: true; the input reads as it did. -/
def fnExactSumRationalsUptoRow : OpenClaim := { program := "ytnchebfemacebaa", sum := "5e088bfd5b85b40c689b4a60d104a64b2b55adf6439b182033a386bbcd51e5b8", func := "loop.example/g01917/laws.FnExactSumRationals", spec := "fnExactSumRationals", apart := false, narrowed := true }
def FnExactSumRationalsUptoSaid : Prop := fnExactSumRationalsUptoRow.holds Try.pinned (OpenSpec.upto fnExactSumRationalsSpec)

/-- 'laws.FnExactScaleToIntegers', WHERE WHAT IT READS IS OF BULK AT MOST 1048576: true; the input reads as it did. -/
def fnExactScaleToIntegersUptoRow : OpenClaim := { program := "ytnchebfemacebaa", sum := "5e088bfd5b85b40c689b4a60d104a64b2b55adf6439b182033a386bbcd51e5b8", func := "loop.example/g01917/laws.FnExactScaleToIntegers", spec := "fnExactScaleToIntegers", apart := false, narrowed := true }
def FnExactScaleToIntegersUptoSaid : Prop := fnExactScaleToIntegersUptoRow.holds Try.pinned (OpenSpec.upto fnExactScaleToIntegersSpec)

/-- 'laws.FnExactFormatRationals', WHERE WHAT IT READS IS OF BULK AT MOST 1048576: true; the input reads as it did. -/
def fnExactFormatRationalsUptoRow : OpenClaim := { program := "ytnchebfemacebaa", sum := "5e088bfd5b85b40c689b4a60d104a64b2b55adf6439b182033a386bbcd51e5b8", func := "loop.example/g01917/laws.FnExactFormatRationals", spec := "fnExactFormatRationals", recurses := true, apart := false, narrowed := true }
def FnExactFormatRationalsUptoSaid : Prop := fnExactFormatRationalsUptoRow.holds Try.pinned (OpenSpec.upto fnExactFormatRationalsSpec)

/-- 'laws.FnExactDotProduct', WHERE WHAT IT READS IS OF BULK AT MOST 1048576: true; the input reads as it did. -/
def fnExactDotProductUptoRow : OpenClaim := { program := "ytnchebfemacebaa", sum := "5e088bfd5b85b40c689b4a60d104a64b2b55adf6439b182033a386bbcd51e5b8", func := "loop.example/g01917/laws.FnExactDotProduct", spec := "fnExactDotProduct", apart := false, narrowed := true }
def FnExactDotProductUptoSaid : Prop := fnExactDotProductUptoRow.holds Try.pinned (OpenSpec.upto fnExactDotProductSpec)

/-- 'laws.FnExactIsValidLinearProgram', WHERE WHAT IT READS IS OF BULK AT MOST 1048576: true; the input reads as it did. -/
def fnExactIsValidLinearProgramUptoRow : OpenClaim := { program := "ytnchebfemacebaa", sum := "5e088bfd5b85b40c689b4a60d104a64b2b55adf6439b182033a386bbcd51e5b8", func := "loop.example/g01917/laws.FnExactIsValidLinearProgram", spec := "fnExactIsValidLinearProgram", apart := false, narrowed := true }
def FnExactIsValidLinearProgramUptoSaid : Prop := fnExactIsValidLinearProgramUptoRow.holds Try.pinned (OpenSpec.upto fnExactIsValidLinearProgramSpec)

/-- 'laws.FnExactTranspose', WHERE WHAT IT READS IS OF BULK AT MOST 1048576: true; the input reads as it did. -/
def fnExactTransposeUptoRow : OpenClaim := { program := "ytnchebfemacebaa", sum := "5e088bfd5b85b40c689b4a60d104a64b2b55adf6439b182033a386bbcd51e5b8", func := "loop.example/g01917/laws.FnExactTranspose", spec := "fnExactTranspose", apart := false, narrowed := true }
def FnExactTransposeUptoSaid : Prop := fnExactTransposeUptoRow.holds Try.pinned (OpenSpec.upto fnExactTransposeSpec)

/-- 'laws.FnExactParseRationals', WHERE WHAT IT READS IS OF BULK AT MOST 1048576: true; the input reads as it did. -/
def fnExactParseRationalsUptoRow : OpenClaim := { program := "ytnchebfemacebaa", sum := "5e088bfd5b85b40c689b4a60d104a64b2b55adf6439b182033a386bbcd51e5b8", func := "loop.example/g01917/laws.FnExactParseRationals", spec := "fnExactParseRationals", recurses := true, apart := false, narrowed := true }
def FnExactParseRationalsUptoSaid : Prop := fnExactParseRationalsUptoRow.holds Try.pinned (OpenSpec.upto fnExactParseRationalsSpec)

/-- 'laws.FnExactMatrixVectorProduct', WHERE WHAT IT READS IS OF BULK AT MOST 1048576: true; the input reads as it did. -/
def fnExactMatrixVectorProductUptoRow : OpenClaim := { program := "ytnchebfemacebaa", sum := "5e088bfd5b85b40c689b4a60d104a64b2b55adf6439b182033a386bbcd51e5b8", func := "loop.example/g01917/laws.FnExactMatrixVectorProduct", spec := "fnExactMatrixVectorProduct", apart := false, narrowed := true }
def FnExactMatrixVectorProductUptoSaid : Prop := fnExactMatrixVectorProductUptoRow.holds Try.pinned (OpenSpec.upto fnExactMatrixVectorProductSpec)

/-- 'laws.FnExactSolveLinearSystem', WHERE WHAT IT READS IS OF BULK AT MOST 1048576: true; the input reads as it did. -/
def fnExactSolveLinearSystemUptoRow : OpenClaim := { program := "ytnchebfemacebaa", sum := "5e088bfd5b85b40c689b4a60d104a64b2b55adf6439b182033a386bbcd51e5b8", func := "loop.example/g01917/laws.FnExactSolveLinearSystem", spec := "fnExactSolveLinearSystem", apart := false, narrowed := true }
def FnExactSolveLinearSystemUptoSaid : Prop := fnExactSolveLinearSystemUptoRow.holds Try.pinned (OpenSpec.upto fnExactSolveLinearSystemSpec)

/-- 'laws.FnScaling', WHERE WHAT IT READS IS OF BULK AT MOST 1048576: true; the input reads as it did. -/
def fnScalingUptoRow : OpenClaim := { program := "ytnchebfemacebaa", sum := "5e088bfd5b85b40c689b4a60d104a64b2b55adf6439b182033a386bbcd51e5b8", func := "loop.example/g01917/laws.FnScaling", spec := "fnScaling", apart := false, narrowed := true }
def FnScalingUptoSaid : Prop := fnScalingUptoRow.holds Try.pinned (OpenSpec.upto fnScalingSpec)

/-- 'laws.FnTranspose', WHERE WHAT IT READS IS OF BULK AT MOST 1048576: true; the input reads as it did. -/
def fnTransposeUptoRow : OpenClaim := { program := "ytnchebfemacebaa", sum := "5e088bfd5b85b40c689b4a60d104a64b2b55adf6439b182033a386bbcd51e5b8", func := "loop.example/g01917/laws.FnTranspose", spec := "fnTranspose", apart := false, narrowed := true }
def FnTransposeUptoSaid : Prop := fnTransposeUptoRow.holds Try.pinned (OpenSpec.upto fnTransposeSpec)

/-- 'laws.FnLinearSystem', WHERE WHAT IT READS IS OF BULK AT MOST 1048576: true; the input reads as it did. -/
def fnLinearSystemUptoRow : OpenClaim := { program := "ytnchebfemacebaa", sum := "5e088bfd5b85b40c689b4a60d104a64b2b55adf6439b182033a386bbcd51e5b8", func := "loop.example/g01917/laws.FnLinearSystem", spec := "fnLinearSystem", apart := false, narrowed := true }
def FnLinearSystemUptoSaid : Prop := fnLinearSystemUptoRow.holds Try.pinned (OpenSpec.upto fnLinearSystemSpec)

end Rows
end Go.Proofs.Ytnchebfemacebaa
