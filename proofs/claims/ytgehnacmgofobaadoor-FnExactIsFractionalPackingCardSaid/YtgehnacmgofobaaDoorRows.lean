/-
  NARROWER THAN 'FOR EVERY INPUT', by the rows' own cells (each row's printed sentence says how): FnExactIsFractionalCover: laid · FnExactIsFractionalPacking: laid.
  DERIVED. THE GIVEN ROWS OF THIS SEAT. 2 by the template 'for every input the law returns true; each argument reads behind the call as it read before'; 0 by the template 'total and deterministic' (their statements: YtgehnacmgofobaaDoorTotals.lean).
  GIVEN WITH THE SEED: the statements are not yours to turn. If you find one false, say at which input.
  Laid BY PROGRAM, IN A SANDBOX (cutbox-rows.mjs): the forced cells as the released guide's own fill.sh prints them over the translation cacaa99f0b927c89… (all of the seat's roots in one cut). By AI agents, Wed Nov 11 2026. No macro, syntax, notation, axiom, sorry.
-/
import Derived.Test.YtgehnacmgofobaaDoorChecked
import GoSem.Claim
import GoSem.ClaimJoined
import GoSem.ClaimMapViews
import Derived.JoinedTies
import Derived.KernelRfl
namespace Go.Proofs.YtgehnacmgofobaaDoor
/- THE CELL 'sum', in the pinned program and in every row, IS THE sha256 OF THE DUMP (.gsa) THAT YtgehnacmgofobaaDoorProg.lean LOADS. Nothing in Lean hashes anything: it is a label: what it is worth is what the hold of that sum in a sandbox is worth. -/
noncomputable def Tryd.pinned : Pinned := { name := "ytgehnacmgofobaadoor", sum := "cacaa99f0b927c8954550dea53cd97b87275349d8ff9d42a3fe3a75153f35ebf", checked := Tryd.checked }
namespace Rows
def none {H : Type} : Left H := { results := [], args := [] }

/- WHAT THE LISTED PACKAGE-LEVEL VARIABLES READ AS WHEN THE CALL BEGINS. Each datum BY PROGRAM (the guide's laid-datum.mjs) off the statement by which the dump's own 'gosem.cut.vars' lays the variable. In a bare row this is a premise. The card (YtgehnacmgofobaaDoorCards.lean) ties it to the program's text. -/
def laid_loop_example_g01917_impl_oneRational {H : Type} : DataW H := .agg [.lit (.int .i64 1), .lit (.int .i64 1)]

/-- 'laws.FnExactIsFractionalCover': WHATEVER THE INPUT: true; the input reads as it did. -/
def fnExactIsFractionalCoverSpec : ChangeSpec := { name := "fnExactIsFractionalCover", vars := ["loop.example/g01917/impl.oneRational"], fn := fun _ => fun
  | [d1, d2, g1] => { results := [.lit (.bool true)], args := [d1, d2], vars := [g1] }
  | _ => none }
def fnExactIsFractionalCoverRow : OpenClaim := { program := "ytgehnacmgofobaadoor", sum := "cacaa99f0b927c8954550dea53cd97b87275349d8ff9d42a3fe3a75153f35ebf", func := "loop.example/g01917/laws.FnExactIsFractionalCover", spec := "fnExactIsFractionalCover", named := ["loop.example/g01917/impl.oneRational"], apart := false, laid := [("loop.example/g01917/impl.oneRational", laid_loop_example_g01917_impl_oneRational)] }
def FnExactIsFractionalCoverSaid : Prop := fnExactIsFractionalCoverRow.holds Tryd.pinned (OpenSpec.ofChange fnExactIsFractionalCoverSpec)

/-- ITS FALSE NEIGHBOUR: 'it returns false'. Refute it at one input. -/
def fnExactIsFractionalCoverWrong : ChangeSpec := { name := "fnExactIsFractionalCover", vars := ["loop.example/g01917/impl.oneRational"], fn := fun _ => fun
  | [d1, d2, g1] => { results := [.lit (.bool false)], args := [d1, d2], vars := [g1] }
  | _ => none }
def FnExactIsFractionalCoverWrongFalsely : Prop := fnExactIsFractionalCoverRow.holds Tryd.pinned (OpenSpec.ofChange fnExactIsFractionalCoverWrong)

/-- 'laws.FnExactIsFractionalPacking': WHATEVER THE INPUT: true; the input reads as it did. -/
def fnExactIsFractionalPackingSpec : ChangeSpec := { name := "fnExactIsFractionalPacking", vars := ["loop.example/g01917/impl.oneRational"], fn := fun _ => fun
  | [d1, d2, g1] => { results := [.lit (.bool true)], args := [d1, d2], vars := [g1] }
  | _ => none }
def fnExactIsFractionalPackingRow : OpenClaim := { program := "ytgehnacmgofobaadoor", sum := "cacaa99f0b927c8954550dea53cd97b87275349d8ff9d42a3fe3a75153f35ebf", func := "loop.example/g01917/laws.FnExactIsFractionalPacking", spec := "fnExactIsFractionalPacking", named := ["loop.example/g01917/impl.oneRational"], apart := false, laid := [("loop.example/g01917/impl.oneRational", laid_loop_example_g01917_impl_oneRational)] }
def FnExactIsFractionalPackingSaid : Prop := fnExactIsFractionalPackingRow.holds Tryd.pinned (OpenSpec.ofChange fnExactIsFractionalPackingSpec)

/-- ITS FALSE NEIGHBOUR: 'it returns false'. Refute it at one input. -/
def fnExactIsFractionalPackingWrong : ChangeSpec := { name := "fnExactIsFractionalPacking", vars := ["loop.example/g01917/impl.oneRational"], fn := fun _ => fun
  | [d1, d2, g1] => { results := [.lit (.bool false)], args := [d1, d2], vars := [g1] }
  | _ => none }
def FnExactIsFractionalPackingWrongFalsely : Prop := fnExactIsFractionalPackingRow.holds Tryd.pinned (OpenSpec.ofChange fnExactIsFractionalPackingWrong)

/- THE SECOND FORM. 'bulk': how many values and letters a reading holds, each counted each time it is reached (what is shared counts as often as it is met; a slice's spare places count too). A statement '..UptoSaid' is the law's where the arguments, and the package variables that the reading takes, are together of bulk at most 1048576: NARROWER than '..Said'. Prove '..Said' where nothing that the law and all that it calls make is longer than what came in: it says more and counts as full. Else prove '..UptoSaid'. A law counts once. -/
mutual
def uptoBulk {H : Type} : DataW H → Nat
  | .lit (.string bytes) => bytes.length + 1
  | .lit _ => 1
  | .nil => 1
  | .ptr d => uptoBulk d + 1
  | .slice elems spare => uptoBulkAll elems + uptoBulkAll spare + 1
  | .agg parts => uptoBulkAll parts + 1
  | .iface _ d => uptoBulk d + 1
  | .map entries => uptoBulkEntries entries + 1
  | .held _ => 1
def uptoBulkAll {H : Type} : List (DataW H) → Nat
  | [] => 0
  | d :: r => uptoBulk d + uptoBulkAll r
def uptoBulkEntries {H : Type} : List (Lit × DataW H) → Nat
  | [] => 0
  | x :: r => uptoBulkEntry x + uptoBulkEntries r
def uptoBulkEntry {H : Type} : Lit × DataW H → Nat
  | (.string bytes, d) => bytes.length + uptoBulk d + 1
  | (_, d) => uptoBulk d + 1
 end
def uptoSmall : (H : Type) → List (DataW H) → Bool := fun _ ds => decide (uptoBulkAll ds ≤ 1048576)
def OpenSpec.upto (s : _root_.Go.ChangeSpec) : _root_.Go.OpenSpec := { _root_.Go.OpenSpec.ofChange s with cond := some uptoSmall }

/-- 'laws.FnExactIsFractionalCover', WHERE WHAT IT READS IS OF BULK AT MOST 1048576: true; the input reads as it did. -/
def fnExactIsFractionalCoverUptoRow : OpenClaim := { program := "ytgehnacmgofobaadoor", sum := "cacaa99f0b927c8954550dea53cd97b87275349d8ff9d42a3fe3a75153f35ebf", func := "loop.example/g01917/laws.FnExactIsFractionalCover", spec := "fnExactIsFractionalCover", named := ["loop.example/g01917/impl.oneRational"], apart := false, laid := [("loop.example/g01917/impl.oneRational", laid_loop_example_g01917_impl_oneRational)], narrowed := true }
def FnExactIsFractionalCoverUptoSaid : Prop := fnExactIsFractionalCoverUptoRow.holds Tryd.pinned (OpenSpec.upto fnExactIsFractionalCoverSpec)

/-- 'laws.FnExactIsFractionalPacking', WHERE WHAT IT READS IS OF BULK AT MOST 1048576: true; the input reads as it did. -/
def fnExactIsFractionalPackingUptoRow : OpenClaim := { program := "ytgehnacmgofobaadoor", sum := "cacaa99f0b927c8954550dea53cd97b87275349d8ff9d42a3fe3a75153f35ebf", func := "loop.example/g01917/laws.FnExactIsFractionalPacking", spec := "fnExactIsFractionalPacking", named := ["loop.example/g01917/impl.oneRational"], apart := false, laid := [("loop.example/g01917/impl.oneRational", laid_loop_example_g01917_impl_oneRational)], narrowed := true }
def FnExactIsFractionalPackingUptoSaid : Prop := fnExactIsFractionalPackingUptoRow.holds Tryd.pinned (OpenSpec.upto fnExactIsFractionalPackingSpec)

end Rows
end Go.Proofs.YtgehnacmgofobaaDoor
