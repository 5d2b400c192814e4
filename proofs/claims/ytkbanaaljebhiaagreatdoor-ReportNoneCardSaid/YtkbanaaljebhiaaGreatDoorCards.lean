/-
  DERIVED. GIVEN WITH THE SEED: THE CARDS: each row of YtkbanaaljebhiaaGreatDoorRows.lean that lists a variable, with what it lists TIED to the program's text (the seventh form; the later family's looks); each row that meets fmt, with fmt's text TOLD by the authors' own Lean function (tested against real Go, not proved from fmt's source: count such statements apart). THE CARD IS WHAT COUNTS. Prove the row's statement (the work); the ties are given (YtkbanaaljebhiaaGreatDoorTie.lean); close each card by the builder's one call (the guide's Derived/Test/ToyasCard.lean, 'card_holds'). Laid BY PROGRAM, IN A SANDBOX (cutbox-door.mjs). By AI agents, Wed Nov 11 2026. No macro, syntax, notation, axiom, sorry.
-/
import Derived.Test.YtkbanaaljebhiaaGreatDoorRows
import GoSem.ClaimSeven
namespace Go.Proofs.YtkbanaaljebhiaaGreatDoor
namespace Rows

/-- THE TIED CARD OF 'ramagelaw31.ScriptNil'. -/
def scriptNilCard : Claim7 := { stood := { row := scriptNilRow, standIns := [], harness := (true, "f5ad9e0ad16b5d3d5837dc80c742f172035582614aa6b999def00508ef630a2b"), looks := true }, kinds := [], alts := [], laidByText := true, laidKinds := [.data, .listed, .data, .data, .data, .sentinel, .sentinel], laidTests := true, laidLooks := .later }
def ScriptNilCardSaid : Prop := Claim7.holds Tryz.pinned (.plain (OpenSpec.ofChange scriptNilSpec)) scriptNilCard

/-- THE TIED CARD OF 'ramagelaw32.ReportNone'. -/
def reportNoneCard : Claim7 := { stood := { row := reportNoneRow, standIns := [], harness := (true, "f5ad9e0ad16b5d3d5837dc80c742f172035582614aa6b999def00508ef630a2b"), looks := true }, kinds := [], alts := [], laidByText := true, laidKinds := [.data, .data, .data, .sentinel, .sentinel, .data, .listed], laidTests := true, laidLooks := .later }
def ReportNoneCardSaid : Prop := Claim7.holds Tryz.pinned (.plain (OpenSpec.ofChange reportNoneSpec)) reportNoneCard

/-- THE SECOND FORM's CARD OF 'ramagelaw31.ScriptNil'. -/
def scriptNilUptoCard : Claim7 := { stood := { row := scriptNilUptoRow, standIns := [], harness := (true, "f5ad9e0ad16b5d3d5837dc80c742f172035582614aa6b999def00508ef630a2b"), looks := true }, kinds := [], alts := [], laidByText := true, laidKinds := [.data, .listed, .data, .data, .data, .sentinel, .sentinel], laidTests := true, laidLooks := .later }
def ScriptNilUptoCardSaid : Prop := Claim7.holds Tryz.pinned (.plain (OpenSpec.upto scriptNilSpec)) scriptNilUptoCard

/-- THE SECOND FORM's CARD OF 'ramagelaw32.ReportNone'. -/
def reportNoneUptoCard : Claim7 := { stood := { row := reportNoneUptoRow, standIns := [], harness := (true, "f5ad9e0ad16b5d3d5837dc80c742f172035582614aa6b999def00508ef630a2b"), looks := true }, kinds := [], alts := [], laidByText := true, laidKinds := [.data, .data, .data, .sentinel, .sentinel, .data, .listed], laidTests := true, laidLooks := .later }
def ReportNoneUptoCardSaid : Prop := Claim7.holds Tryz.pinned (.plain (OpenSpec.upto reportNoneSpec)) reportNoneUptoCard
end Rows
end Go.Proofs.YtkbanaaljebhiaaGreatDoor
