/-
  DERIVED. GIVEN WITH THE SEED: THE CARDS: each row of YtbmhinbomailmaaGreatDoorRows.lean that lists a variable, with what it lists TIED to the program's text (the seventh form; the later family's looks); each row that meets fmt, with fmt's text TOLD by the authors' own Lean function (tested against real Go, not proved from fmt's source: count such statements apart). THE CARD IS WHAT COUNTS. Prove the row's statement (the work); the ties are given (YtbmhinbomailmaaGreatDoorTie.lean); close each card by the builder's one call (the guide's Derived/Test/ToyasCard.lean, 'card_holds'). Laid BY PROGRAM, IN A SANDBOX (cutbox-door.mjs). By AI agents, Wed Nov 11 2026. No macro, syntax, notation, axiom, sorry.
-/
import Derived.Test.YtbmhinbomailmaaGreatDoorRows
import GoSem.ClaimSeven
namespace Go.Proofs.YtbmhinbomailmaaGreatDoor
namespace Rows

/-- THE TIED CARD OF 'ramagelaw29.ExprParses'. -/
def exprParsesCard : Claim7 := { stood := { row := exprParsesRow, standIns := [], harness := (true, "7797563286f0fd72b06be005ee3ee0b8167ef10400028d756c23915d37fd345d"), looks := true }, kinds := [], alts := [], laidByText := true, laidKinds := [.data, .data, .data, .sentinel, .sentinel], laidTests := true, laidLooks := .later }
def ExprParsesCardSaid : Prop := Claim7.holds Tryz.pinned (.plain (OpenSpec.ofChange exprParsesSpec)) exprParsesCard

/-- THE TIED CARD OF 'ramagelaw29.ExprMeans'. -/
def exprMeansCard : Claim7 := { stood := { row := exprMeansRow, standIns := [], harness := (true, "7797563286f0fd72b06be005ee3ee0b8167ef10400028d756c23915d37fd345d"), looks := true }, kinds := [], alts := [], laidByText := true, laidKinds := [.data, .data, .data, .sentinel, .sentinel], laidTests := true, laidLooks := .later }
def ExprMeansCardSaid : Prop := Claim7.holds Tryz.pinned (.plain (OpenSpec.ofChange exprMeansSpec)) exprMeansCard

/-- THE TIED CARD OF 'ramagelaw29.ExprAgain'. -/
def exprAgainCard : Claim7 := { stood := { row := exprAgainRow, standIns := [], harness := (true, "7797563286f0fd72b06be005ee3ee0b8167ef10400028d756c23915d37fd345d"), looks := true }, kinds := [], alts := [], laidByText := true, laidKinds := [.data, .data, .data, .sentinel, .sentinel], laidTests := true, laidLooks := .later }
def ExprAgainCardSaid : Prop := Claim7.holds Tryz.pinned (.plain (OpenSpec.ofChange exprAgainSpec)) exprAgainCard

/-- THE TIED CARD OF 'ramagelaw29.ExprFree'. -/
def exprFreeCard : Claim7 := { stood := { row := exprFreeRow, standIns := [], harness := (true, "7797563286f0fd72b06be005ee3ee0b8167ef10400028d756c23915d37fd345d"), looks := true }, kinds := [], alts := [], laidByText := true, laidKinds := [.data, .data, .data, .sentinel, .sentinel], laidTests := true, laidLooks := .later }
def ExprFreeCardSaid : Prop := Claim7.holds Tryz.pinned (.plain (OpenSpec.ofChange exprFreeSpec)) exprFreeCard

/-- THE SECOND FORM's CARD OF 'ramagelaw29.ExprParses'. -/
def exprParsesUptoCard : Claim7 := { stood := { row := exprParsesUptoRow, standIns := [], harness := (true, "7797563286f0fd72b06be005ee3ee0b8167ef10400028d756c23915d37fd345d"), looks := true }, kinds := [], alts := [], laidByText := true, laidKinds := [.data, .data, .data, .sentinel, .sentinel], laidTests := true, laidLooks := .later }
def ExprParsesUptoCardSaid : Prop := Claim7.holds Tryz.pinned (.plain (OpenSpec.upto exprParsesSpec)) exprParsesUptoCard

/-- THE SECOND FORM's CARD OF 'ramagelaw29.ExprMeans'. -/
def exprMeansUptoCard : Claim7 := { stood := { row := exprMeansUptoRow, standIns := [], harness := (true, "7797563286f0fd72b06be005ee3ee0b8167ef10400028d756c23915d37fd345d"), looks := true }, kinds := [], alts := [], laidByText := true, laidKinds := [.data, .data, .data, .sentinel, .sentinel], laidTests := true, laidLooks := .later }
def ExprMeansUptoCardSaid : Prop := Claim7.holds Tryz.pinned (.plain (OpenSpec.upto exprMeansSpec)) exprMeansUptoCard

/-- THE SECOND FORM's CARD OF 'ramagelaw29.ExprAgain'. -/
def exprAgainUptoCard : Claim7 := { stood := { row := exprAgainUptoRow, standIns := [], harness := (true, "7797563286f0fd72b06be005ee3ee0b8167ef10400028d756c23915d37fd345d"), looks := true }, kinds := [], alts := [], laidByText := true, laidKinds := [.data, .data, .data, .sentinel, .sentinel], laidTests := true, laidLooks := .later }
def ExprAgainUptoCardSaid : Prop := Claim7.holds Tryz.pinned (.plain (OpenSpec.upto exprAgainSpec)) exprAgainUptoCard

/-- THE SECOND FORM's CARD OF 'ramagelaw29.ExprFree'. -/
def exprFreeUptoCard : Claim7 := { stood := { row := exprFreeUptoRow, standIns := [], harness := (true, "7797563286f0fd72b06be005ee3ee0b8167ef10400028d756c23915d37fd345d"), looks := true }, kinds := [], alts := [], laidByText := true, laidKinds := [.data, .data, .data, .sentinel, .sentinel], laidTests := true, laidLooks := .later }
def ExprFreeUptoCardSaid : Prop := Claim7.holds Tryz.pinned (.plain (OpenSpec.upto exprFreeSpec)) exprFreeUptoCard
end Rows
end Go.Proofs.YtbmhinbomailmaaGreatDoor
