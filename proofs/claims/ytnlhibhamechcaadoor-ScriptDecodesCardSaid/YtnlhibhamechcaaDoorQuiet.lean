/- Regions that draw their order, read, and call what makes memory: small words. -/
import Derived.Lib.QuietBelow
import Derived.BigQuiet
import Derived.Test.YtnlhibhamechcaaDoorBase
namespace Go.Proofs.YtnlhibhamechcaaDoor
open Go.RowKit Go.Sort
set_option linter.unusedSimpArgs false
set_option linter.unusedVariables false

theorem regrown_below {w w' : World} (h : ∃ p : Regrown, w' = grow (redrawn w p.d) p.os) : Below w.heap.size w w' := by
  obtain ⟨p, rfl⟩ := h
  exact below_regrown w p.d p.os
/-- a contract that ends in Below, for all worlds with blocks laid behind W -/
theorem regrown_calls {P : Program} {f : FuncId} {args : Array Value} {W : World} {v : Value}
    (h : ∀ W', Below W.heap.size W W' → Calls P f args W' fun e w' => e = .returned v ∧ Below W.heap.size W w') (d : Nat) (os : Array Obj) :
    Calls P f args (grow (redrawn W d) os) fun e w'' => e = .returned v ∧ ∃ p : Regrown, w'' = grow (redrawn W p.d) p.os :=
  (h _ (below_regrown W d os)).mono fun _ _ ⟨he, hb⟩ => ⟨he, regrown_of_below hb⟩
end Go.Proofs.YtnlhibhamechcaaDoor
