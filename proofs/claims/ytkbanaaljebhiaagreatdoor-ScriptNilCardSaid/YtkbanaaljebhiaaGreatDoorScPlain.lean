/- Contracts: the law's plain, and whether two steps are one. -/
import Derived.Test.YtkbanaaljebhiaaGreatDoorScTextP
namespace Go.Proofs.YtkbanaaljebhiaaGreatDoor
open Go.RowKit Go.Sort
set_option linter.unusedSimpArgs false
set_option linter.unusedVariables false

theorem neq_stp (x : Stp) (w : World) : (binOp .neq 40 (.agg x.cells.toArray) (.agg x.cells.toArray)).run Tryz.prog w = .ok (.bool false) w := by
  obtain ⟨k, f, a, b, c, v, kk, one⟩ := x
  simp only [Stp.cells]
  go_simp
end Go.Proofs.YtkbanaaljebhiaaGreatDoor
