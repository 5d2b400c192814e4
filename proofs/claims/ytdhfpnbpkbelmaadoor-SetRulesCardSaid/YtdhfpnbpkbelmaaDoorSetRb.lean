/- Contract: the document's Ite. -/
import Derived.Test.YtdhfpnbpkbelmaaDoorSetRa
namespace Go.Proofs.YtdhfpnbpkbelmaaDoor
open Go.RowKit Go.Sort
set_option linter.unusedSimpArgs false
set_option linter.unusedVariables false

/-- the tables of the words' operations -/
theorem tat_tab {n : Nat} {ws : List Nat} {x : Nat} (hx : x < 2 ^ n) : tat (tabS n ws) x = bitAt ws x := by
  unfold tat
  rw [tabS_get, decide_eq_true hx, Bool.true_and]
end Go.Proofs.YtdhfpnbpkbelmaaDoor
