/- Contracts: what member tells without a store or an order. Contracts: what member's calls tell without a store or an order. -/
import Derived.Test.YtpjciaomhfeeeaaGreatMa
section
namespace Go.Proofs.YtpjciaomhfeeeaaGreat
open Go.RowKit
set_option linter.unusedSimpArgs false
set_option linter.unusedVariables false

/-- nothing is left -/
def noRest : Value := .agg #[.bool false, .bool false, .int .u8 0, .int .u8 0, .int .u8 0, .int .u8 0, .int .u32 0, .int .u8 0, .int .u32 0, .int .u8 0, .int .u8 0]
set_option maxRecDepth 100000 in
set_option maxHeartbeats 4000000 in
theorem start_nil1 (op : Option Addr) (f tag pos : Int) (w : World) :
    Calls Tryz.prog 23 #[.pointer none, .pointer op, .int .u8 f, .agg #[.int .u8 tag, .int .u32 pos]] w fun e w' => e = .returned (.tuple #[.pointer none, noRest, .int .u8 2]) ∧ Below w.heap.size w w' := by
  unfold noRest
  go_enter Tryz.func23, Tryz.ntmps23
  go_wp2_with fail
  refine bodyPost_ret (v := .tuple #[.pointer none, .agg #[.bool false, .bool false, .int .u8 0, .int .u8 0, .int .u8 0, .int .u8 0, .int .u32 0, .int .u8 0, .int .u32 0, .int .u8 0, .int .u8 0], .int .u8 2]) ?_ rfl ⟨rfl, ?_⟩
  · simp [results, Tryz.results23, go_sem, *]
  · repeat (first | exact Below.refl _ _ | refine Below.setCell ?_ (by simp) _ | refine Below.alloc ?_ (by simp) _)
set_option maxRecDepth 100000 in
set_option maxHeartbeats 4000000 in
theorem start_nil2 (sp : Addr) (f tag pos : Int) (w : World) :
    Calls Tryz.prog 23 #[.pointer (some sp), .pointer none, .int .u8 f, .agg #[.int .u8 tag, .int .u32 pos]] w fun e w' => e = .returned (.tuple #[.pointer none, noRest, .int .u8 2]) ∧ Below w.heap.size w w' := by
  unfold noRest
  go_enter Tryz.func23, Tryz.ntmps23
  go_wp2_with fail
  refine bodyPost_ret (v := .tuple #[.pointer none, .agg #[.bool false, .bool false, .int .u8 0, .int .u8 0, .int .u8 0, .int .u8 0, .int .u32 0, .int .u8 0, .int .u32 0, .int .u8 0, .int .u8 0], .int .u8 2]) ?_ rfl ⟨rfl, ?_⟩
  · simp [results, Tryz.results23, go_sem, *]
  · repeat (first | exact Below.refl _ _ | refine Below.setCell ?_ (by simp) _ | refine Below.alloc ?_ (by simp) _)
theorem start_nil (sp op : Option Addr) (h : sp = none ∨ op = none) (f tag pos : Int) (w : World) :
    Calls Tryz.prog 23 #[.pointer sp, .pointer op, .int .u8 f, .agg #[.int .u8 tag, .int .u32 pos]] w fun e w' => e = .returned (.tuple #[.pointer none, noRest, .int .u8 2]) ∧ Below w.heap.size w w' := by
  cases sp with
  | none => exact start_nil1 op f tag pos w
  | some a =>
    obtain rfl : op = none := by
      rcases h with h | h
      · cases h
      · exact h
    exact start_nil2 a f tag pos w
end Go.Proofs.YtpjciaomhfeeeaaGreat
end

section
namespace Go.Proofs.YtpjciaomhfeeeaaGreat
open Go.RowKit
set_option linter.unusedSimpArgs false
set_option linter.unusedVariables false

set_option maxRecDepth 100000 in
set_option maxHeartbeats 4000000 in
theorem best_nil (sp op : Option Addr) (h : sp = none ∨ op = none) (f tag pos : Int) (A : Option Addr) (n c : Nat) (w : World) :
    Calls Tryz.prog 7 #[.pointer sp, .pointer op, .int .u8 f, .agg #[.int .u8 tag, .int .u32 pos], .slice A n c] w fun e w' => e = .returned (.tuple #[.int .i64 0, .int .i64 0, .int .u8 2]) ∧ Below w.heap.size w w' := by
  have HS := Lib.hid (fun W => start_nil sp op h f tag pos W)
  unfold noRest at HS
  clear h
  go_enter Tryz.func7, Tryz.ntmps7
  go_wp2_with fail
  refine (HS.out _).mono ?_
  rintro e w1 ⟨rfl, hb1⟩
  have HB : Hid (Below w.heap.size w w1) := Lib.hid (((Below.refl _ _).alloc (Nat.le_refl _) _).trans (hb1.mono (by simp)))
  clear hb1
  go_wp2_with fail
  go_ret3
  refine ⟨rfl, ?_⟩
  have hs := HB.out.size
  repeat (first | exact HB.out | refine Below.setCell ?_ (by simp only; omega) _ | refine Below.alloc ?_ (by omega) _)
end Go.Proofs.YtpjciaomhfeeeaaGreat
end
