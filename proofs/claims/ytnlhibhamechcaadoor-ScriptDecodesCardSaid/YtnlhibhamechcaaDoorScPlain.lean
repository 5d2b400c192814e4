/- Contracts: the law's plain, and whether two steps are one. -/
import Derived.Test.YtnlhibhamechcaaDoorScTextP
namespace Go.Proofs.YtnlhibhamechcaaDoor
open Go.RowKit Go.Sort
set_option linter.unusedSimpArgs false
set_option linter.unusedVariables false

set_option maxRecDepth 100000 in
set_option maxHeartbeats 4000000 in
theorem plain_any (s : Stp) (w : World) :
    Calls Tryd.prog 8 #[.agg s.cells.toArray] w fun e w' => e = .returned (.agg s.cells.toArray) ∧ Below w.heap.size w w' := by
  obtain ⟨k, f, a, b, c, v, kk, one⟩ := s
  simp only [Stp.cells]
  go_enter Tryd.func8, Tryd.ntmps8
  go_wp2_with fail
  refine bodyPost_ret (v := .agg #[.int .u8 k, .int .u8 f, .int .i64 a, .int .i64 b, .int .i64 c, .int .i64 v, .int .u16 kk, .bool one]) ?_ rfl ⟨rfl, ?_⟩
  · simp [results, Tryd.results8, go_sem, *]
  · repeat (first | exact Below.refl _ _ | refine Below.setCell ?_ (by simp) _ | refine Below.alloc ?_ (by simp) _)
theorem neq_stp (x : Stp) (w : World) : (binOp .neq 30 (.agg x.cells.toArray) (.agg x.cells.toArray)).run Tryd.prog w = .ok (.bool false) w := by
  obtain ⟨k, f, a, b, c, v, kk, one⟩ := x
  simp only [Stp.cells]
  go_simp
end Go.Proofs.YtnlhibhamechcaaDoor
