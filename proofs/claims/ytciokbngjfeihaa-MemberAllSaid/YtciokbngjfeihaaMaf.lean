/- Contracts: what member tells without a store or an order. Contracts: what member's calls tell without a store or an order. -/
import Derived.Test.YtciokbngjfeihaaMa
section
namespace Go.Proofs.Ytciokbngjfeihaa
open Go.RowKit
set_option linter.unusedSimpArgs false
set_option linter.unusedVariables false

/-- nothing is left -/
def noRest : Value := .agg #[.bool false, .bool false, .int .u8 0, .int .u8 0, .int .u8 0, .int .u8 0, .int .u32 0, .int .u8 0, .int .u32 0, .int .u8 0, .int .u8 0]
set_option maxRecDepth 100000 in
set_option maxHeartbeats 4000000 in
theorem start_nil1 (op : Option Addr) (f tag pos : Int) (w : World) :
    Calls Try.prog 21 #[.pointer none, .pointer op, .int .u8 f, .agg #[.int .u8 tag, .int .u32 pos]] w fun e w' => e = .returned (.tuple #[.pointer none, noRest, .int .u8 2]) ∧ Below w.heap.size w w' := by
  unfold noRest
  go_enter Try.func21, Try.ntmps21
  go_wp2_with fail
  refine bodyPost_ret (v := .tuple #[.pointer none, .agg #[.bool false, .bool false, .int .u8 0, .int .u8 0, .int .u8 0, .int .u8 0, .int .u32 0, .int .u8 0, .int .u32 0, .int .u8 0, .int .u8 0], .int .u8 2]) ?_ rfl ⟨rfl, ?_⟩
  · simp [results, Try.results21, go_sem, *]
  · repeat (first | exact Below.refl _ _ | refine Below.setCell ?_ (by simp) _ | refine Below.alloc ?_ (by simp) _)
set_option maxRecDepth 100000 in
set_option maxHeartbeats 4000000 in
theorem start_nil2 (sp : Addr) (f tag pos : Int) (w : World) :
    Calls Try.prog 21 #[.pointer (some sp), .pointer none, .int .u8 f, .agg #[.int .u8 tag, .int .u32 pos]] w fun e w' => e = .returned (.tuple #[.pointer none, noRest, .int .u8 2]) ∧ Below w.heap.size w w' := by
  unfold noRest
  go_enter Try.func21, Try.ntmps21
  go_wp2_with fail
  refine bodyPost_ret (v := .tuple #[.pointer none, .agg #[.bool false, .bool false, .int .u8 0, .int .u8 0, .int .u8 0, .int .u8 0, .int .u32 0, .int .u8 0, .int .u32 0, .int .u8 0, .int .u8 0], .int .u8 2]) ?_ rfl ⟨rfl, ?_⟩
  · simp [results, Try.results21, go_sem, *]
  · repeat (first | exact Below.refl _ _ | refine Below.setCell ?_ (by simp) _ | refine Below.alloc ?_ (by simp) _)
theorem start_nil (sp op : Option Addr) (h : sp = none ∨ op = none) (f tag pos : Int) (w : World) :
    Calls Try.prog 21 #[.pointer sp, .pointer op, .int .u8 f, .agg #[.int .u8 tag, .int .u32 pos]] w fun e w' => e = .returned (.tuple #[.pointer none, noRest, .int .u8 2]) ∧ Below w.heap.size w w' := by
  cases sp with
  | none => exact start_nil1 op f tag pos w
  | some a =>
    obtain rfl : op = none := by
      rcases h with h | h
      · cases h
      · exact h
    exact start_nil2 a f tag pos w
end Go.Proofs.Ytciokbngjfeihaa
end

section
namespace Go.Proofs.Ytciokbngjfeihaa
open Go.RowKit
set_option linter.unusedSimpArgs false
set_option linter.unusedVariables false

end Go.Proofs.Ytciokbngjfeihaa
end
