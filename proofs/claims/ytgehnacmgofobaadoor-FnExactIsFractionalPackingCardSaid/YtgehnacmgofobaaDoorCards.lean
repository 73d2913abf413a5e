/-
  DERIVED. GIVEN WITH THE SEED: THE CARDS: each row of YtgehnacmgofobaaDoorRows.lean that lists a variable, with what it lists TIED to the program's text (the seventh form; the later family's looks); each row that meets fmt, with fmt's text TOLD by the authors' own Lean function (tested against real Go, not proved from fmt's source: count such statements apart). THE CARD IS WHAT COUNTS. Prove the row's statement (the work); the ties are given (YtgehnacmgofobaaDoorTie.lean); close each card by the builder's one call (the guide's Derived/Test/ToyasCard.lean, 'card_holds'). Laid BY PROGRAM, IN A SANDBOX (cutbox-door.mjs). By AI agents, Wed Nov 11 2026. No macro, syntax, notation, axiom, sorry.
-/
import Derived.Test.YtgehnacmgofobaaDoorRows
import GoSem.ClaimSeven
namespace Go.Proofs.YtgehnacmgofobaaDoor
namespace Rows

/-- THE TIED CARD OF 'laws.FnExactIsFractionalCover'. -/
def fnExactIsFractionalCoverCard : Claim7 := { stood := { row := fnExactIsFractionalCoverRow, standIns := [], harness := (true, "e41cee50d298c988fad0223bd84434a1606af41d01c9741cb44a0d3375e87533"), looks := false }, kinds := [], alts := [], laidByText := true, laidKinds := [.data], laidTests := true, laidLooks := .later }
def FnExactIsFractionalCoverCardSaid : Prop := Claim7.holds Tryd.pinned (.plain (OpenSpec.ofChange fnExactIsFractionalCoverSpec)) fnExactIsFractionalCoverCard

/-- THE TIED CARD OF 'laws.FnExactIsFractionalPacking'. -/
def fnExactIsFractionalPackingCard : Claim7 := { stood := { row := fnExactIsFractionalPackingRow, standIns := [], harness := (true, "e41cee50d298c988fad0223bd84434a1606af41d01c9741cb44a0d3375e87533"), looks := false }, kinds := [], alts := [], laidByText := true, laidKinds := [.data], laidTests := true, laidLooks := .later }
def FnExactIsFractionalPackingCardSaid : Prop := Claim7.holds Tryd.pinned (.plain (OpenSpec.ofChange fnExactIsFractionalPackingSpec)) fnExactIsFractionalPackingCard

/-- THE SECOND FORM's CARD OF 'laws.FnExactIsFractionalCover'. -/
def fnExactIsFractionalCoverUptoCard : Claim7 := { stood := { row := fnExactIsFractionalCoverUptoRow, standIns := [], harness := (true, "e41cee50d298c988fad0223bd84434a1606af41d01c9741cb44a0d3375e87533"), looks := false }, kinds := [], alts := [], laidByText := true, laidKinds := [.data], laidTests := true, laidLooks := .later }
def FnExactIsFractionalCoverUptoCardSaid : Prop := Claim7.holds Tryd.pinned (.plain (OpenSpec.upto fnExactIsFractionalCoverSpec)) fnExactIsFractionalCoverUptoCard

/-- THE SECOND FORM's CARD OF 'laws.FnExactIsFractionalPacking'. -/
def fnExactIsFractionalPackingUptoCard : Claim7 := { stood := { row := fnExactIsFractionalPackingUptoRow, standIns := [], harness := (true, "e41cee50d298c988fad0223bd84434a1606af41d01c9741cb44a0d3375e87533"), looks := false }, kinds := [], alts := [], laidByText := true, laidKinds := [.data], laidTests := true, laidLooks := .later }
def FnExactIsFractionalPackingUptoCardSaid : Prop := Claim7.holds Tryd.pinned (.plain (OpenSpec.upto fnExactIsFractionalPackingSpec)) fnExactIsFractionalPackingUptoCard
end Rows
end Go.Proofs.YtgehnacmgofobaaDoor
