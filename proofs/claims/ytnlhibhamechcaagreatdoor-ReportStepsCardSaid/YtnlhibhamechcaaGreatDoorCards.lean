/-
  DERIVED. GIVEN WITH THE SEED: THE CARDS: each row of YtnlhibhamechcaaGreatDoorRows.lean that lists a variable, with what it lists TIED to the program's text (the seventh form; the later family's looks); each row that meets fmt, with fmt's text TOLD by the authors' own Lean function (tested against real Go, not proved from fmt's source: count such statements apart). THE CARD IS WHAT COUNTS. Prove the row's statement (the work); the ties are given (YtnlhibhamechcaaGreatDoorTie.lean); close each card by the builder's one call (the guide's Derived/Test/ToyasCard.lean, 'card_holds'). Laid BY PROGRAM, IN A SANDBOX (cutbox-door.mjs). By AI agents, Wed Nov 11 2026. No macro, syntax, notation, axiom, sorry.
-/
import Derived.Test.YtnlhibhamechcaaGreatDoorRows
import GoSem.ClaimSeven
namespace Go.Proofs.YtnlhibhamechcaaGreatDoor
namespace Rows

/-- THE TIED CARD OF 'ramagelaw32.ReportSteps'. -/
def reportStepsCard : Claim7 := { stood := { row := reportStepsRow, standIns := [], harness := (true, "b008e82baf250fc3b03f4f10e0dfb4cf656110211512ce415015792c636209db"), looks := false }, kinds := [], alts := [], laidByText := true, laidKinds := [.data, .data, .data, .listed, .data], laidTests := true, laidLooks := .later }
def ReportStepsCardSaid : Prop := Claim7.holds Tryz.pinned (.plain (OpenSpec.ofChange reportStepsSpec)) reportStepsCard

/-- THE SECOND FORM's CARD OF 'ramagelaw32.ReportSteps'. -/
def reportStepsUptoCard : Claim7 := { stood := { row := reportStepsUptoRow, standIns := [], harness := (true, "b008e82baf250fc3b03f4f10e0dfb4cf656110211512ce415015792c636209db"), looks := false }, kinds := [], alts := [], laidByText := true, laidKinds := [.data, .data, .data, .listed, .data], laidTests := true, laidLooks := .later }
def ReportStepsUptoCardSaid : Prop := Claim7.holds Tryz.pinned (.plain (OpenSpec.upto reportStepsSpec)) reportStepsUptoCard
end Rows
end Go.Proofs.YtnlhibhamechcaaGreatDoor
