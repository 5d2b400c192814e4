/-
  DERIVED. GIVEN WITH THE SEED: THE CARDS: each row of YtpbpjihdaghiaaaDoorRows.lean that lists a variable, with what it lists TIED to the program's text (the seventh form; the later family's looks); each row that meets fmt, with fmt's text TOLD by the authors' own Lean function (tested against real Go, not proved from fmt's source: count such statements apart). THE CARD IS WHAT COUNTS. Prove the row's statement (the work); the ties are given (YtpbpjihdaghiaaaDoorTie.lean); close each card by the builder's one call (the guide's Derived/Test/ToyasCard.lean, 'card_holds'). Laid BY PROGRAM, IN A SANDBOX (cutbox-door.mjs). By AI agents, Wed Nov 11 2026. No macro, syntax, notation, axiom, sorry.
-/
import Derived.Test.YtpbpjihdaghiaaaDoorRows
import GoSem.ClaimSeven
namespace Go.Proofs.YtpbpjihdaghiaaaDoor
namespace Rows

/-- THE TIED CARD OF 'ramagelaw05.SetRenames'. -/
def setRenamesCard : Claim7 := { stood := { row := setRenamesRow, standIns := [], harness := (true, "c4b32550363a415c5259a14c360ddbefb5a65e715d603cad27c84b42a3249823"), looks := true }, kinds := [], alts := [], laidByText := true, laidKinds := [.data, .data, .data], laidTests := true, laidLooks := .later }
def SetRenamesCardSaid : Prop := Claim7.holds Tryd.pinned (.plain (OpenSpec.ofChange setRenamesSpec)) setRenamesCard

/-- THE TIED CARD OF 'ramagelaw31.ScriptDecodes'. -/
def scriptDecodesCard : Claim7 := { stood := { row := scriptDecodesRow, standIns := [], harness := (true, "c4b32550363a415c5259a14c360ddbefb5a65e715d603cad27c84b42a3249823"), looks := true }, kinds := [], alts := [], laidByText := true, laidKinds := [.data, .data, .data, .listed, .data], laidTests := true, laidLooks := .later }
def ScriptDecodesCardSaid : Prop := Claim7.holds Tryd.pinned (.plain (OpenSpec.ofChange scriptDecodesSpec)) scriptDecodesCard

/-- THE TIED CARD OF 'ramagelaw31.ScriptTexts'. -/
def scriptTextsCard : Claim7 := { stood := { row := scriptTextsRow, standIns := [], harness := (true, "c4b32550363a415c5259a14c360ddbefb5a65e715d603cad27c84b42a3249823"), looks := true }, kinds := [], alts := [], laidByText := true, laidKinds := [.data, .data, .data, .listed, .data], laidTests := true, laidLooks := .later }
def ScriptTextsCardSaid : Prop := Claim7.holds Tryd.pinned (.plain (OpenSpec.ofChange scriptTextsSpec)) scriptTextsCard

/-- THE TIED CARD OF 'ramagelaw05.SetRight'. -/
def setRightCard : Claim7 := { stood := { row := setRightRow, standIns := [], harness := (true, "c4b32550363a415c5259a14c360ddbefb5a65e715d603cad27c84b42a3249823"), looks := true }, kinds := [], alts := [], laidByText := true, laidKinds := [.data, .data, .data], laidTests := true, laidLooks := .later }
def SetRightCardSaid : Prop := Claim7.holds Tryd.pinned (.plain (OpenSpec.ofChange setRightSpec)) setRightCard

/-- THE TIED CARD OF 'ramagelaw05.SetTexts'. -/
def setTextsCard : Claim7 := { stood := { row := setTextsRow, standIns := [], harness := (true, "c4b32550363a415c5259a14c360ddbefb5a65e715d603cad27c84b42a3249823"), looks := true }, kinds := [], alts := [], laidByText := true, laidKinds := [.data, .data, .data, .sentinel, .sentinel], laidTests := true, laidLooks := .later }
def SetTextsCardSaid : Prop := Claim7.holds Tryd.pinned (.plain (OpenSpec.ofChange setTextsSpec)) setTextsCard

/-- THE SECOND FORM's CARD OF 'ramagelaw05.SetRenames'. -/
def setRenamesUptoCard : Claim7 := { stood := { row := setRenamesUptoRow, standIns := [], harness := (true, "c4b32550363a415c5259a14c360ddbefb5a65e715d603cad27c84b42a3249823"), looks := true }, kinds := [], alts := [], laidByText := true, laidKinds := [.data, .data, .data], laidTests := true, laidLooks := .later }
def SetRenamesUptoCardSaid : Prop := Claim7.holds Tryd.pinned (.plain (OpenSpec.upto setRenamesSpec)) setRenamesUptoCard

/-- THE SECOND FORM's CARD OF 'ramagelaw31.ScriptDecodes'. -/
def scriptDecodesUptoCard : Claim7 := { stood := { row := scriptDecodesUptoRow, standIns := [], harness := (true, "c4b32550363a415c5259a14c360ddbefb5a65e715d603cad27c84b42a3249823"), looks := true }, kinds := [], alts := [], laidByText := true, laidKinds := [.data, .data, .data, .listed, .data], laidTests := true, laidLooks := .later }
def ScriptDecodesUptoCardSaid : Prop := Claim7.holds Tryd.pinned (.plain (OpenSpec.upto scriptDecodesSpec)) scriptDecodesUptoCard

/-- THE SECOND FORM's CARD OF 'ramagelaw31.ScriptTexts'. -/
def scriptTextsUptoCard : Claim7 := { stood := { row := scriptTextsUptoRow, standIns := [], harness := (true, "c4b32550363a415c5259a14c360ddbefb5a65e715d603cad27c84b42a3249823"), looks := true }, kinds := [], alts := [], laidByText := true, laidKinds := [.data, .data, .data, .listed, .data], laidTests := true, laidLooks := .later }
def ScriptTextsUptoCardSaid : Prop := Claim7.holds Tryd.pinned (.plain (OpenSpec.upto scriptTextsSpec)) scriptTextsUptoCard

/-- THE SECOND FORM's CARD OF 'ramagelaw05.SetRight'. -/
def setRightUptoCard : Claim7 := { stood := { row := setRightUptoRow, standIns := [], harness := (true, "c4b32550363a415c5259a14c360ddbefb5a65e715d603cad27c84b42a3249823"), looks := true }, kinds := [], alts := [], laidByText := true, laidKinds := [.data, .data, .data], laidTests := true, laidLooks := .later }
def SetRightUptoCardSaid : Prop := Claim7.holds Tryd.pinned (.plain (OpenSpec.upto setRightSpec)) setRightUptoCard

/-- THE SECOND FORM's CARD OF 'ramagelaw05.SetTexts'. -/
def setTextsUptoCard : Claim7 := { stood := { row := setTextsUptoRow, standIns := [], harness := (true, "c4b32550363a415c5259a14c360ddbefb5a65e715d603cad27c84b42a3249823"), looks := true }, kinds := [], alts := [], laidByText := true, laidKinds := [.data, .data, .data, .sentinel, .sentinel], laidTests := true, laidLooks := .later }
def SetTextsUptoCardSaid : Prop := Claim7.holds Tryd.pinned (.plain (OpenSpec.upto setTextsSpec)) setTextsUptoCard
end Rows
end Go.Proofs.YtpbpjihdaghiaaaDoor
