/-
  DERIVED. GIVEN WITH THE SEED: THE CARDS: each row of YtpjciaomhfeeeaaGreatDoorRows.lean that lists a variable, with what it lists TIED to the program's text (the seventh form; the later family's looks); each row that meets fmt, with fmt's text TOLD by the authors' own Lean function (tested against real Go, not proved from fmt's source: count such statements apart). THE CARD IS WHAT COUNTS. Prove the row's statement (the work); the ties are given (YtpjciaomhfeeeaaGreatDoorTie.lean); close each card by the builder's one call (the guide's Derived/Test/ToyasCard.lean, 'card_holds'). Laid BY PROGRAM, IN A SANDBOX (cutbox-door.mjs). By AI agents, Wed Nov 11 2026. No macro, syntax, notation, axiom, sorry.
-/
import Derived.Test.YtpjciaomhfeeeaaGreatDoorRows
import GoSem.ClaimSeven
namespace Go.Proofs.YtpjciaomhfeeeaaGreatDoor
namespace Rows

/-- THE TIED CARD OF 'ramagelaw29.ExprNil'. -/
def exprNilCard : Claim7 := { stood := { row := exprNilRow, standIns := [], harness := (true, "9bbe767e82cc6a89cc5c551821c55dfd7cab50bc09832ecc1c55b1da7a348e71"), looks := true }, kinds := [], alts := [], laidByText := true, laidKinds := [.data, .data, .data, .sentinel, .sentinel], laidTests := true, laidLooks := .later }
def ExprNilCardSaid : Prop := Claim7.holds Tryz.pinned (.plain (OpenSpec.ofChange exprNilSpec)) exprNilCard

/-- THE SECOND FORM's CARD OF 'ramagelaw29.ExprNil'. -/
def exprNilUptoCard : Claim7 := { stood := { row := exprNilUptoRow, standIns := [], harness := (true, "9bbe767e82cc6a89cc5c551821c55dfd7cab50bc09832ecc1c55b1da7a348e71"), looks := true }, kinds := [], alts := [], laidByText := true, laidKinds := [.data, .data, .data, .sentinel, .sentinel], laidTests := true, laidLooks := .later }
def ExprNilUptoCardSaid : Prop := Claim7.holds Tryz.pinned (.plain (OpenSpec.upto exprNilSpec)) exprNilUptoCard
end Rows
end Go.Proofs.YtpjciaomhfeeeaaGreatDoor
