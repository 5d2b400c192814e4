/- Slices of records as arguments. -/
import Derived.Test.YtnlhibhamechcaaDoorArgs
import Derived.Test.YtnlhibhamechcaaDoorMem
import Derived.Deep.Slices
namespace Go.Proofs.YtnlhibhamechcaaDoor
open Go.RowKit Go.ChangeShapes Go.WideShapes Go.ChangeAt Go.Joins Go.Deep
set_option linter.unusedSimpArgs false
set_option linter.unusedVariables false

theorem cellsU8 : Tryd.prog.cellsOf 5 = 1 := by kernel_rfl
theorem cellsU32 : Tryd.prog.cellsOf 51 = 1 := by kernel_rfl
section
variable {H : Type} {enc : TypeId × Value → H} {W : World} {base : Nat} {spare : Nat → Bool} {held : Bool} {n : Nat} {x : DataW H × List MemPlace}
end
/-- a slice of records that came in -/
def RecsArg (w : World) (A : Option Addr) (n c : Nat) (rs : List Rec) : Prop :=
  rs.length = n ∧ n ≤ c ∧ c ≤ maxLen ∧ RowS 7 Rec.cells w w.heap.size A rs ∧ ∀ r ∈ rs, r.Wf
end Go.Proofs.YtnlhibhamechcaaDoor
