/-
  No cell of these rows narrows 'for every input' (looked for: loops, veiled, ifaces, maps, wideKeys, modest, calm, conditions, laid).
  DERIVED. THE GIVEN ROWS OF THIS SEAT. 6 by the template 'for every input the law returns true; each argument reads behind the call as it read before'; 0 by the template 'total and deterministic' (their statements: YtfnhknbofllhcaaTotals.lean).
  GIVEN WITH THE SEED: the statements are not yours to turn. If you find one false, say at which input.
  Laid BY PROGRAM, IN A SANDBOX (cutbox-rows.mjs): the forced cells as the released guide's own fill.sh prints them over the translation c456a036b9bbf2b0… (all of the seat's roots in one cut). By AI agents, Wed Nov 11 2026. No macro, syntax, notation, axiom, sorry.
-/
import Derived.Test.YtfnhknbofllhcaaChecked
import GoSem.Claim
import GoSem.ClaimJoined
import GoSem.ClaimMapViews
import Derived.JoinedTies
import Derived.KernelRfl
namespace Go.Proofs.Ytfnhknbofllhcaa
/- THE CELL 'sum', in the pinned program and in every row, IS THE sha256 OF THE DUMP (.gsa) THAT YtfnhknbofllhcaaProg.lean LOADS. Nothing in Lean hashes anything: it is a label: what it is worth is what the hold of that sum in a sandbox is worth. -/
noncomputable def Try.pinned : Pinned := { name := "ytfnhknbofllhcaa", sum := "c456a036b9bbf2b0b0ea0441ac9b3481a25a09b89ed15aa81295df05901f13cb", checked := Try.checked }
namespace Rows
def none {H : Type} : Left H := { results := [], args := [] }

/-- 'ramagelaw02.PermSteps': WHATEVER THE INPUT: true; the input reads as it did. -/
def permStepsSpec : ChangeSpec := { name := "permSteps", fn := fun _ => fun
  | [d1, d2] => { results := [.lit (.bool true)], args := [d1, d2] }
  | _ => none }
def permStepsRow : OpenClaim := { program := "ytfnhknbofllhcaa", sum := "c456a036b9bbf2b0b0ea0441ac9b3481a25a09b89ed15aa81295df05901f13cb", func := "ramage/ramagelaw02.PermSteps", spec := "permSteps", apart := false }
def PermStepsSaid : Prop := permStepsRow.holds Try.pinned (OpenSpec.ofChange permStepsSpec)

/-- ITS FALSE NEIGHBOUR: 'it returns false'. Refute it at one input. -/
def permStepsWrong : ChangeSpec := { name := "permSteps", fn := fun _ => fun
  | [d1, d2] => { results := [.lit (.bool false)], args := [d1, d2] }
  | _ => none }
def PermStepsWrongFalsely : Prop := permStepsRow.holds Try.pinned (OpenSpec.ofChange permStepsWrong)

/-- 'ramagelaw02.PermGoes': WHATEVER THE INPUT: true; the input reads as it did. -/
def permGoesSpec : ChangeSpec := { name := "permGoes", fn := fun _ => fun
  | [d1, d2] => { results := [.lit (.bool true)], args := [d1, d2] }
  | _ => none }
def permGoesRow : OpenClaim := { program := "ytfnhknbofllhcaa", sum := "c456a036b9bbf2b0b0ea0441ac9b3481a25a09b89ed15aa81295df05901f13cb", func := "ramage/ramagelaw02.PermGoes", spec := "permGoes", apart := false }
def PermGoesSaid : Prop := permGoesRow.holds Try.pinned (OpenSpec.ofChange permGoesSpec)

/-- ITS FALSE NEIGHBOUR: 'it returns false'. Refute it at one input. -/
def permGoesWrong : ChangeSpec := { name := "permGoes", fn := fun _ => fun
  | [d1, d2] => { results := [.lit (.bool false)], args := [d1, d2] }
  | _ => none }
def PermGoesWrongFalsely : Prop := permGoesRow.holds Try.pinned (OpenSpec.ofChange permGoesWrong)

/-- 'ramagelaw02.PermRanks': WHATEVER THE INPUT: true; the input reads as it did. -/
def permRanksSpec : ChangeSpec := { name := "permRanks", fn := fun _ => fun
  | [d1, d2, d3] => { results := [.lit (.bool true)], args := [d1, d2, d3] }
  | _ => none }
def permRanksRow : OpenClaim := { program := "ytfnhknbofllhcaa", sum := "c456a036b9bbf2b0b0ea0441ac9b3481a25a09b89ed15aa81295df05901f13cb", func := "ramage/ramagelaw02.PermRanks", spec := "permRanks", apart := false }
def PermRanksSaid : Prop := permRanksRow.holds Try.pinned (OpenSpec.ofChange permRanksSpec)

/-- ITS FALSE NEIGHBOUR: 'it returns false'. Refute it at one input. -/
def permRanksWrong : ChangeSpec := { name := "permRanks", fn := fun _ => fun
  | [d1, d2, d3] => { results := [.lit (.bool false)], args := [d1, d2, d3] }
  | _ => none }
def PermRanksWrongFalsely : Prop := permRanksRow.holds Try.pinned (OpenSpec.ofChange permRanksWrong)

/-- 'ramagelaw02.PermThen': WHATEVER THE INPUT: true; the input reads as it did. -/
def permThenSpec : ChangeSpec := { name := "permThen", fn := fun _ => fun
  | [d1, d2, d3] => { results := [.lit (.bool true)], args := [d1, d2, d3] }
  | _ => none }
def permThenRow : OpenClaim := { program := "ytfnhknbofllhcaa", sum := "c456a036b9bbf2b0b0ea0441ac9b3481a25a09b89ed15aa81295df05901f13cb", func := "ramage/ramagelaw02.PermThen", spec := "permThen", apart := false }
def PermThenSaid : Prop := permThenRow.holds Try.pinned (OpenSpec.ofChange permThenSpec)

/-- ITS FALSE NEIGHBOUR: 'it returns false'. Refute it at one input. -/
def permThenWrong : ChangeSpec := { name := "permThen", fn := fun _ => fun
  | [d1, d2, d3] => { results := [.lit (.bool false)], args := [d1, d2, d3] }
  | _ => none }
def PermThenWrongFalsely : Prop := permThenRow.holds Try.pinned (OpenSpec.ofChange permThenWrong)

/-- 'ramagelaw02.PermRight': WHATEVER THE INPUT: true; the input reads as it did. -/
def permRightSpec : ChangeSpec := { name := "permRight", fn := fun _ => fun
  | [d1, d2] => { results := [.lit (.bool true)], args := [d1, d2] }
  | _ => none }
def permRightRow : OpenClaim := { program := "ytfnhknbofllhcaa", sum := "c456a036b9bbf2b0b0ea0441ac9b3481a25a09b89ed15aa81295df05901f13cb", func := "ramage/ramagelaw02.PermRight", spec := "permRight", apart := false }
def PermRightSaid : Prop := permRightRow.holds Try.pinned (OpenSpec.ofChange permRightSpec)

/-- ITS FALSE NEIGHBOUR: 'it returns false'. Refute it at one input. -/
def permRightWrong : ChangeSpec := { name := "permRight", fn := fun _ => fun
  | [d1, d2] => { results := [.lit (.bool false)], args := [d1, d2] }
  | _ => none }
def PermRightWrongFalsely : Prop := permRightRow.holds Try.pinned (OpenSpec.ofChange permRightWrong)

/-- 'ramagelaw02.PermRules': WHATEVER THE INPUT: true; the input reads as it did. -/
def permRulesSpec : ChangeSpec := { name := "permRules", fn := fun _ => fun
  | [d1, d2, d3] => { results := [.lit (.bool true)], args := [d1, d2, d3] }
  | _ => none }
def permRulesRow : OpenClaim := { program := "ytfnhknbofllhcaa", sum := "c456a036b9bbf2b0b0ea0441ac9b3481a25a09b89ed15aa81295df05901f13cb", func := "ramage/ramagelaw02.PermRules", spec := "permRules", apart := false }
def PermRulesSaid : Prop := permRulesRow.holds Try.pinned (OpenSpec.ofChange permRulesSpec)

/-- ITS FALSE NEIGHBOUR: 'it returns false'. Refute it at one input. -/
def permRulesWrong : ChangeSpec := { name := "permRules", fn := fun _ => fun
  | [d1, d2, d3] => { results := [.lit (.bool false)], args := [d1, d2, d3] }
  | _ => none }
def PermRulesWrongFalsely : Prop := permRulesRow.holds Try.pinned (OpenSpec.ofChange permRulesWrong)

/- THE SECOND FORM. 'bulk': how many values and letters a reading holds, each counted each time it is reached (what is shared counts as often as it is met; a slice's spare places count too). A statement '..UptoSaid' is the law's where the arguments, and the package variables that the reading takes, are together of bulk at most 1048576: NARROWER than '..Said'. Prove '..Said' where nothing that the law and all that it calls make is longer than what came in: it says more and counts as full. Else prove '..UptoSaid'. A law counts once. -/
mutual
def uptoBulk {H : Type} : DataW H → Nat
  | .lit (.string bytes) => bytes.length + 1
  | .lit _ => 1
  | .nil => 1
  | .ptr d => uptoBulk d + 1
  | .slice elems spare => uptoBulkAll elems + uptoBulkAll spare + 1
  | .agg parts => uptoBulkAll parts + 1
  | .iface _ d => uptoBulk d + 1
  | .map entries => uptoBulkEntries entries + 1
  | .held _ => 1
def uptoBulkAll {H : Type} : List (DataW H) → Nat
  | [] => 0
  | d :: r => uptoBulk d + uptoBulkAll r
def uptoBulkEntries {H : Type} : List (Lit × DataW H) → Nat
  | [] => 0
  | x :: r => uptoBulkEntry x + uptoBulkEntries r
def uptoBulkEntry {H : Type} : Lit × DataW H → Nat
  | (.string bytes, d) => bytes.length + uptoBulk d + 1
  | (_, d) => uptoBulk d + 1
 end
def uptoSmall : (H : Type) → List (DataW H) → Bool := fun _ ds => decide (uptoBulkAll ds ≤ 1048576)
def OpenSpec.upto (s : _root_.Go.ChangeSpec) : _root_.Go.OpenSpec := { _root_.Go.OpenSpec.ofChange s with cond := some uptoSmall }

/-- 'ramagelaw02.PermSteps', WHERE WHAT IT READS IS OF BULK AT MOST 1048576: true; the input reads as it did. -/
def permStepsUptoRow : OpenClaim := { program := "ytfnhknbofllhcaa", sum := "c456a036b9bbf2b0b0ea0441ac9b3481a25a09b89ed15aa81295df05901f13cb", func := "ramage/ramagelaw02.PermSteps", spec := "permSteps", apart := false, narrowed := true }
def PermStepsUptoSaid : Prop := permStepsUptoRow.holds Try.pinned (OpenSpec.upto permStepsSpec)

/-- 'ramagelaw02.PermGoes', WHERE WHAT IT READS IS OF BULK AT MOST 1048576: true; the input reads as it did. -/
def permGoesUptoRow : OpenClaim := { program := "ytfnhknbofllhcaa", sum := "c456a036b9bbf2b0b0ea0441ac9b3481a25a09b89ed15aa81295df05901f13cb", func := "ramage/ramagelaw02.PermGoes", spec := "permGoes", apart := false, narrowed := true }
def PermGoesUptoSaid : Prop := permGoesUptoRow.holds Try.pinned (OpenSpec.upto permGoesSpec)

/-- 'ramagelaw02.PermRanks', WHERE WHAT IT READS IS OF BULK AT MOST 1048576: true; the input reads as it did. -/
def permRanksUptoRow : OpenClaim := { program := "ytfnhknbofllhcaa", sum := "c456a036b9bbf2b0b0ea0441ac9b3481a25a09b89ed15aa81295df05901f13cb", func := "ramage/ramagelaw02.PermRanks", spec := "permRanks", apart := false, narrowed := true }
def PermRanksUptoSaid : Prop := permRanksUptoRow.holds Try.pinned (OpenSpec.upto permRanksSpec)

/-- 'ramagelaw02.PermThen', WHERE WHAT IT READS IS OF BULK AT MOST 1048576: true; the input reads as it did. -/
def permThenUptoRow : OpenClaim := { program := "ytfnhknbofllhcaa", sum := "c456a036b9bbf2b0b0ea0441ac9b3481a25a09b89ed15aa81295df05901f13cb", func := "ramage/ramagelaw02.PermThen", spec := "permThen", apart := false, narrowed := true }
def PermThenUptoSaid : Prop := permThenUptoRow.holds Try.pinned (OpenSpec.upto permThenSpec)

/-- 'ramagelaw02.PermRight', WHERE WHAT IT READS IS OF BULK AT MOST 1048576: true; the input reads as it did. -/
def permRightUptoRow : OpenClaim := { program := "ytfnhknbofllhcaa", sum := "c456a036b9bbf2b0b0ea0441ac9b3481a25a09b89ed15aa81295df05901f13cb", func := "ramage/ramagelaw02.PermRight", spec := "permRight", apart := false, narrowed := true }
def PermRightUptoSaid : Prop := permRightUptoRow.holds Try.pinned (OpenSpec.upto permRightSpec)

/-- 'ramagelaw02.PermRules', WHERE WHAT IT READS IS OF BULK AT MOST 1048576: true; the input reads as it did. -/
def permRulesUptoRow : OpenClaim := { program := "ytfnhknbofllhcaa", sum := "c456a036b9bbf2b0b0ea0441ac9b3481a25a09b89ed15aa81295df05901f13cb", func := "ramage/ramagelaw02.PermRules", spec := "permRules", apart := false, narrowed := true }
def PermRulesUptoSaid : Prop := permRulesUptoRow.holds Try.pinned (OpenSpec.upto permRulesSpec)

end Rows
end Go.Proofs.Ytfnhknbofllhcaa
