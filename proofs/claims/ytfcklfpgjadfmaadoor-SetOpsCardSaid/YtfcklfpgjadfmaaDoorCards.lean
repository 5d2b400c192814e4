/-
  DERIVED. GIVEN WITH THE SEED: THE CARDS: each row of YtfcklfpgjadfmaaDoorRows.lean that lists a variable, with what it lists TIED to the program's text (the seventh form; the later family's looks); each row that meets fmt, with fmt's text TOLD by the authors' own Lean function (tested against real Go, not proved from fmt's source: count such statements apart). THE CARD IS WHAT COUNTS. Prove the row's statement (the work); the ties are given (YtfcklfpgjadfmaaDoorTie.lean); close each card by the builder's one call (the guide's Derived/Test/ToyasCard.lean, 'card_holds'). Laid BY PROGRAM, IN A SANDBOX (cutbox-door.mjs). By AI agents, Wed Nov 11 2026. No macro, syntax, notation, axiom, sorry.
-/
import Derived.Test.YtfcklfpgjadfmaaDoorRows
import GoSem.ClaimSeven
namespace Go.Proofs.YtfcklfpgjadfmaaDoor
namespace Rows

/-- THE TIED CARD OF 'ramagelaw10.NodeHashes'. -/
def nodeHashesCard : Claim7 := { stood := { row := nodeHashesRow, standIns := [], harness := (true, "0b58da869abe4f34f35967a09516d6c717c860ecdfc0c50920ac952e8ffc0645"), looks := true }, kinds := [], alts := [], laidByText := true, laidKinds := [.data, .data, .data], laidTests := true, laidLooks := .later }
def NodeHashesCardSaid : Prop := Claim7.holds Tryd.pinned (.plain (OpenSpec.ofChange nodeHashesSpec)) nodeHashesCard

/-- THE TIED CARD OF 'ramagelaw10.NodePlain'. -/
def nodePlainCard : Claim7 := { stood := { row := nodePlainRow, standIns := [], harness := (true, "0b58da869abe4f34f35967a09516d6c717c860ecdfc0c50920ac952e8ffc0645"), looks := true }, kinds := [], alts := [], laidByText := true, laidKinds := [.data, .data, .data], laidTests := true, laidLooks := .later }
def NodePlainCardSaid : Prop := Claim7.holds Tryd.pinned (.plain (OpenSpec.ofChange nodePlainSpec)) nodePlainCard

/-- THE TIED CARD OF 'ramagelaw10.NodeRight'. -/
def nodeRightCard : Claim7 := { stood := { row := nodeRightRow, standIns := [], harness := (true, "0b58da869abe4f34f35967a09516d6c717c860ecdfc0c50920ac952e8ffc0645"), looks := true }, kinds := [], alts := [], laidByText := true, laidKinds := [.data, .data, .data], laidTests := true, laidLooks := .later }
def NodeRightCardSaid : Prop := Claim7.holds Tryd.pinned (.plain (OpenSpec.ofChange nodeRightSpec)) nodeRightCard

/-- THE TIED CARD OF 'ramagelaw05.SetMakes'. -/
def setMakesCard : Claim7 := { stood := { row := setMakesRow, standIns := [], harness := (true, "0b58da869abe4f34f35967a09516d6c717c860ecdfc0c50920ac952e8ffc0645"), looks := true }, kinds := [], alts := [], laidByText := true, laidKinds := [.data, .data, .data], laidTests := true, laidLooks := .later }
def SetMakesCardSaid : Prop := Claim7.holds Tryd.pinned (.plain (OpenSpec.ofChange setMakesSpec)) setMakesCard

/-- THE TIED CARD OF 'ramagelaw05.SetOps'. -/
def setOpsCard : Claim7 := { stood := { row := setOpsRow, standIns := [], harness := (true, "0b58da869abe4f34f35967a09516d6c717c860ecdfc0c50920ac952e8ffc0645"), looks := true }, kinds := [], alts := [], laidByText := true, laidKinds := [.data, .data, .data], laidTests := true, laidLooks := .later }
def SetOpsCardSaid : Prop := Claim7.holds Tryd.pinned (.plain (OpenSpec.ofChange setOpsSpec)) setOpsCard

/-- THE TIED CARD OF 'ramagelaw05.SetWith'. -/
def setWithCard : Claim7 := { stood := { row := setWithRow, standIns := [], harness := (true, "0b58da869abe4f34f35967a09516d6c717c860ecdfc0c50920ac952e8ffc0645"), looks := true }, kinds := [], alts := [], laidByText := true, laidKinds := [.data, .data, .data], laidTests := true, laidLooks := .later }
def SetWithCardSaid : Prop := Claim7.holds Tryd.pinned (.plain (OpenSpec.ofChange setWithSpec)) setWithCard

/-- THE TIED CARD OF 'ramagelaw05.SetRenames'. -/
def setRenamesCard : Claim7 := { stood := { row := setRenamesRow, standIns := [], harness := (true, "0b58da869abe4f34f35967a09516d6c717c860ecdfc0c50920ac952e8ffc0645"), looks := true }, kinds := [], alts := [], laidByText := true, laidKinds := [.data, .data, .data], laidTests := true, laidLooks := .later }
def SetRenamesCardSaid : Prop := Claim7.holds Tryd.pinned (.plain (OpenSpec.ofChange setRenamesSpec)) setRenamesCard

/-- THE TIED CARD OF 'ramagelaw05.SetQuants'. -/
def setQuantsCard : Claim7 := { stood := { row := setQuantsRow, standIns := [], harness := (true, "0b58da869abe4f34f35967a09516d6c717c860ecdfc0c50920ac952e8ffc0645"), looks := true }, kinds := [], alts := [], laidByText := true, laidKinds := [.data, .data, .data], laidTests := true, laidLooks := .later }
def SetQuantsCardSaid : Prop := Claim7.holds Tryd.pinned (.plain (OpenSpec.ofChange setQuantsSpec)) setQuantsCard

/-- THE TIED CARD OF 'ramagelaw05.SetRules'. -/
def setRulesCard : Claim7 := { stood := { row := setRulesRow, standIns := [], harness := (true, "0b58da869abe4f34f35967a09516d6c717c860ecdfc0c50920ac952e8ffc0645"), looks := true }, kinds := [], alts := [], laidByText := true, laidKinds := [.data, .data, .data], laidTests := true, laidLooks := .later }
def SetRulesCardSaid : Prop := Claim7.holds Tryd.pinned (.plain (OpenSpec.ofChange setRulesSpec)) setRulesCard

/-- THE TIED CARD OF 'ramagelaw05.SetRight'. -/
def setRightCard : Claim7 := { stood := { row := setRightRow, standIns := [], harness := (true, "0b58da869abe4f34f35967a09516d6c717c860ecdfc0c50920ac952e8ffc0645"), looks := true }, kinds := [], alts := [], laidByText := true, laidKinds := [.data, .data, .data], laidTests := true, laidLooks := .later }
def SetRightCardSaid : Prop := Claim7.holds Tryd.pinned (.plain (OpenSpec.ofChange setRightSpec)) setRightCard

/-- THE TIED CARD OF 'ramagelaw05.SetTexts'. -/
def setTextsCard : Claim7 := { stood := { row := setTextsRow, standIns := [], harness := (true, "0b58da869abe4f34f35967a09516d6c717c860ecdfc0c50920ac952e8ffc0645"), looks := true }, kinds := [], alts := [], laidByText := true, laidKinds := [.data, .data, .data, .sentinel, .sentinel], laidTests := true, laidLooks := .later }
def SetTextsCardSaid : Prop := Claim7.holds Tryd.pinned (.plain (OpenSpec.ofChange setTextsSpec)) setTextsCard

/-- THE SECOND FORM's CARD OF 'ramagelaw10.NodeHashes'. -/
def nodeHashesUptoCard : Claim7 := { stood := { row := nodeHashesUptoRow, standIns := [], harness := (true, "0b58da869abe4f34f35967a09516d6c717c860ecdfc0c50920ac952e8ffc0645"), looks := true }, kinds := [], alts := [], laidByText := true, laidKinds := [.data, .data, .data], laidTests := true, laidLooks := .later }
def NodeHashesUptoCardSaid : Prop := Claim7.holds Tryd.pinned (.plain (OpenSpec.upto nodeHashesSpec)) nodeHashesUptoCard

/-- THE SECOND FORM's CARD OF 'ramagelaw10.NodePlain'. -/
def nodePlainUptoCard : Claim7 := { stood := { row := nodePlainUptoRow, standIns := [], harness := (true, "0b58da869abe4f34f35967a09516d6c717c860ecdfc0c50920ac952e8ffc0645"), looks := true }, kinds := [], alts := [], laidByText := true, laidKinds := [.data, .data, .data], laidTests := true, laidLooks := .later }
def NodePlainUptoCardSaid : Prop := Claim7.holds Tryd.pinned (.plain (OpenSpec.upto nodePlainSpec)) nodePlainUptoCard

/-- THE SECOND FORM's CARD OF 'ramagelaw10.NodeRight'. -/
def nodeRightUptoCard : Claim7 := { stood := { row := nodeRightUptoRow, standIns := [], harness := (true, "0b58da869abe4f34f35967a09516d6c717c860ecdfc0c50920ac952e8ffc0645"), looks := true }, kinds := [], alts := [], laidByText := true, laidKinds := [.data, .data, .data], laidTests := true, laidLooks := .later }
def NodeRightUptoCardSaid : Prop := Claim7.holds Tryd.pinned (.plain (OpenSpec.upto nodeRightSpec)) nodeRightUptoCard

/-- THE SECOND FORM's CARD OF 'ramagelaw05.SetMakes'. -/
def setMakesUptoCard : Claim7 := { stood := { row := setMakesUptoRow, standIns := [], harness := (true, "0b58da869abe4f34f35967a09516d6c717c860ecdfc0c50920ac952e8ffc0645"), looks := true }, kinds := [], alts := [], laidByText := true, laidKinds := [.data, .data, .data], laidTests := true, laidLooks := .later }
def SetMakesUptoCardSaid : Prop := Claim7.holds Tryd.pinned (.plain (OpenSpec.upto setMakesSpec)) setMakesUptoCard

/-- THE SECOND FORM's CARD OF 'ramagelaw05.SetOps'. -/
def setOpsUptoCard : Claim7 := { stood := { row := setOpsUptoRow, standIns := [], harness := (true, "0b58da869abe4f34f35967a09516d6c717c860ecdfc0c50920ac952e8ffc0645"), looks := true }, kinds := [], alts := [], laidByText := true, laidKinds := [.data, .data, .data], laidTests := true, laidLooks := .later }
def SetOpsUptoCardSaid : Prop := Claim7.holds Tryd.pinned (.plain (OpenSpec.upto setOpsSpec)) setOpsUptoCard

/-- THE SECOND FORM's CARD OF 'ramagelaw05.SetWith'. -/
def setWithUptoCard : Claim7 := { stood := { row := setWithUptoRow, standIns := [], harness := (true, "0b58da869abe4f34f35967a09516d6c717c860ecdfc0c50920ac952e8ffc0645"), looks := true }, kinds := [], alts := [], laidByText := true, laidKinds := [.data, .data, .data], laidTests := true, laidLooks := .later }
def SetWithUptoCardSaid : Prop := Claim7.holds Tryd.pinned (.plain (OpenSpec.upto setWithSpec)) setWithUptoCard

/-- THE SECOND FORM's CARD OF 'ramagelaw05.SetRenames'. -/
def setRenamesUptoCard : Claim7 := { stood := { row := setRenamesUptoRow, standIns := [], harness := (true, "0b58da869abe4f34f35967a09516d6c717c860ecdfc0c50920ac952e8ffc0645"), looks := true }, kinds := [], alts := [], laidByText := true, laidKinds := [.data, .data, .data], laidTests := true, laidLooks := .later }
def SetRenamesUptoCardSaid : Prop := Claim7.holds Tryd.pinned (.plain (OpenSpec.upto setRenamesSpec)) setRenamesUptoCard

/-- THE SECOND FORM's CARD OF 'ramagelaw05.SetQuants'. -/
def setQuantsUptoCard : Claim7 := { stood := { row := setQuantsUptoRow, standIns := [], harness := (true, "0b58da869abe4f34f35967a09516d6c717c860ecdfc0c50920ac952e8ffc0645"), looks := true }, kinds := [], alts := [], laidByText := true, laidKinds := [.data, .data, .data], laidTests := true, laidLooks := .later }
def SetQuantsUptoCardSaid : Prop := Claim7.holds Tryd.pinned (.plain (OpenSpec.upto setQuantsSpec)) setQuantsUptoCard

/-- THE SECOND FORM's CARD OF 'ramagelaw05.SetRules'. -/
def setRulesUptoCard : Claim7 := { stood := { row := setRulesUptoRow, standIns := [], harness := (true, "0b58da869abe4f34f35967a09516d6c717c860ecdfc0c50920ac952e8ffc0645"), looks := true }, kinds := [], alts := [], laidByText := true, laidKinds := [.data, .data, .data], laidTests := true, laidLooks := .later }
def SetRulesUptoCardSaid : Prop := Claim7.holds Tryd.pinned (.plain (OpenSpec.upto setRulesSpec)) setRulesUptoCard

/-- THE SECOND FORM's CARD OF 'ramagelaw05.SetRight'. -/
def setRightUptoCard : Claim7 := { stood := { row := setRightUptoRow, standIns := [], harness := (true, "0b58da869abe4f34f35967a09516d6c717c860ecdfc0c50920ac952e8ffc0645"), looks := true }, kinds := [], alts := [], laidByText := true, laidKinds := [.data, .data, .data], laidTests := true, laidLooks := .later }
def SetRightUptoCardSaid : Prop := Claim7.holds Tryd.pinned (.plain (OpenSpec.upto setRightSpec)) setRightUptoCard

/-- THE SECOND FORM's CARD OF 'ramagelaw05.SetTexts'. -/
def setTextsUptoCard : Claim7 := { stood := { row := setTextsUptoRow, standIns := [], harness := (true, "0b58da869abe4f34f35967a09516d6c717c860ecdfc0c50920ac952e8ffc0645"), looks := true }, kinds := [], alts := [], laidByText := true, laidKinds := [.data, .data, .data, .sentinel, .sentinel], laidTests := true, laidLooks := .later }
def SetTextsUptoCardSaid : Prop := Claim7.holds Tryd.pinned (.plain (OpenSpec.upto setTextsSpec)) setTextsUptoCard
end Rows
end Go.Proofs.YtfcklfpgjadfmaaDoor
