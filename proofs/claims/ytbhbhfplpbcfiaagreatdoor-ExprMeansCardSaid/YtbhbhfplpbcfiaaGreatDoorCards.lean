/-
  DERIVED. GIVEN WITH THE SEED: THE CARDS: each row of YtbhbhfplpbcfiaaGreatDoorRows.lean that lists a variable, with what it lists TIED to the program's text (the seventh form; the later family's looks); each row that meets fmt, with fmt's text TOLD by the authors' own Lean function (tested against real Go, not proved from fmt's source: count such statements apart). THE CARD IS WHAT COUNTS. Prove the row's statement (the work); the ties are given (YtbhbhfplpbcfiaaGreatDoorTie.lean); close each card by the builder's one call (the guide's Derived/Test/ToyasCard.lean, 'card_holds'). Laid BY PROGRAM, IN A SANDBOX (cutbox-door.mjs). By AI agents, Wed Nov 11 2026. No macro, syntax, notation, axiom, sorry.
-/
import Derived.Test.YtbhbhfplpbcfiaaGreatDoorRows
import GoSem.ClaimSeven
namespace Go.Proofs.YtbhbhfplpbcfiaaGreatDoor
namespace Rows

/-- THE TIED CARD OF 'ramagelaw29.ExprParses'. -/
def exprParsesCard : Claim7 := { stood := { row := exprParsesRow, standIns := [], harness := (true, "2747e91072502419737a485bc13a3f4e8015ee2b2ade51e1b356399543e6c3cc"), looks := true }, kinds := [], alts := [], laidByText := true, laidKinds := [.data, .data, .data, .sentinel, .sentinel], laidTests := true, laidLooks := .later }
def ExprParsesCardSaid : Prop := Claim7.holds Tryz.pinned (.plain (OpenSpec.ofChange exprParsesSpec)) exprParsesCard

/-- THE TIED CARD OF 'ramagelaw29.ExprMeans'. -/
def exprMeansCard : Claim7 := { stood := { row := exprMeansRow, standIns := [], harness := (true, "2747e91072502419737a485bc13a3f4e8015ee2b2ade51e1b356399543e6c3cc"), looks := true }, kinds := [], alts := [], laidByText := true, laidKinds := [.data, .data, .data, .sentinel, .sentinel], laidTests := true, laidLooks := .later }
def ExprMeansCardSaid : Prop := Claim7.holds Tryz.pinned (.plain (OpenSpec.ofChange exprMeansSpec)) exprMeansCard

/-- THE TIED CARD OF 'ramagelaw29.ExprNil'. -/
def exprNilCard : Claim7 := { stood := { row := exprNilRow, standIns := [], harness := (true, "2747e91072502419737a485bc13a3f4e8015ee2b2ade51e1b356399543e6c3cc"), looks := true }, kinds := [], alts := [], laidByText := true, laidKinds := [.data, .data, .data, .sentinel, .sentinel], laidTests := true, laidLooks := .later }
def ExprNilCardSaid : Prop := Claim7.holds Tryz.pinned (.plain (OpenSpec.ofChange exprNilSpec)) exprNilCard

/-- THE SECOND FORM's CARD OF 'ramagelaw29.ExprParses'. -/
def exprParsesUptoCard : Claim7 := { stood := { row := exprParsesUptoRow, standIns := [], harness := (true, "2747e91072502419737a485bc13a3f4e8015ee2b2ade51e1b356399543e6c3cc"), looks := true }, kinds := [], alts := [], laidByText := true, laidKinds := [.data, .data, .data, .sentinel, .sentinel], laidTests := true, laidLooks := .later }
def ExprParsesUptoCardSaid : Prop := Claim7.holds Tryz.pinned (.plain (OpenSpec.upto exprParsesSpec)) exprParsesUptoCard

/-- THE SECOND FORM's CARD OF 'ramagelaw29.ExprMeans'. -/
def exprMeansUptoCard : Claim7 := { stood := { row := exprMeansUptoRow, standIns := [], harness := (true, "2747e91072502419737a485bc13a3f4e8015ee2b2ade51e1b356399543e6c3cc"), looks := true }, kinds := [], alts := [], laidByText := true, laidKinds := [.data, .data, .data, .sentinel, .sentinel], laidTests := true, laidLooks := .later }
def ExprMeansUptoCardSaid : Prop := Claim7.holds Tryz.pinned (.plain (OpenSpec.upto exprMeansSpec)) exprMeansUptoCard

/-- THE SECOND FORM's CARD OF 'ramagelaw29.ExprNil'. -/
def exprNilUptoCard : Claim7 := { stood := { row := exprNilUptoRow, standIns := [], harness := (true, "2747e91072502419737a485bc13a3f4e8015ee2b2ade51e1b356399543e6c3cc"), looks := true }, kinds := [], alts := [], laidByText := true, laidKinds := [.data, .data, .data, .sentinel, .sentinel], laidTests := true, laidLooks := .later }
def ExprNilUptoCardSaid : Prop := Claim7.holds Tryz.pinned (.plain (OpenSpec.upto exprNilSpec)) exprNilUptoCard
end Rows
end Go.Proofs.YtbhbhfplpbcfiaaGreatDoor
