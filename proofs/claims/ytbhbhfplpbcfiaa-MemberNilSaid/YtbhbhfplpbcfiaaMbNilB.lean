/- Contracts: what member's calls tell without a store or an order. -/
import Derived.Test.YtbhbhfplpbcfiaaMbNil
namespace Go.Proofs.Ytbhbhfplpbcfiaa
open Go.RowKit
set_option linter.unusedSimpArgs false
set_option linter.unusedVariables false

set_option maxRecDepth 100000 in
set_option maxHeartbeats 4000000 in
theorem rank_nil (sp op : Option Addr) (h : sp = none ∨ op = none) (f tag pos : Int) (k : Int) (w : World) :
    Calls Try.prog 23 #[.pointer sp, .pointer op, .int .u8 f, .agg #[.int .u8 tag, .int .u32 pos], .int .i64 k] w fun e w' => e = .returned (.tuple #[.int .i64 0, .int .u8 2]) ∧ Below w.heap.size w w' := by
  have HS := Lib.hid (fun W => start_nil sp op h f tag pos W)
  unfold noRest at HS
  clear h
  go_enter Try.func23, Try.ntmps23
  go_wp2_with fail
  refine (HS.out _).mono ?_
  rintro e w1 ⟨rfl, hb1⟩
  have HB : Hid (Below w.heap.size w w1) := Lib.hid (((Below.refl _ _).alloc (Nat.le_refl _) _).trans (hb1.mono (by simp)))
  clear hb1
  go_wp2_with fail
  go_ret2
  refine ⟨rfl, ?_⟩
  have hs := HB.out.size
  repeat (first | exact HB.out | refine Below.setCell ?_ (by simp only; omega) _ | refine Below.alloc ?_ (by omega) _)
set_option maxRecDepth 100000 in
set_option maxHeartbeats 4000000 in
theorem first_nil (sp op : Option Addr) (h : sp = none ∨ op = none) (f tag pos : Int)  (w : World) :
    Calls Try.prog 24 #[.pointer sp, .pointer op, .int .u8 f, .agg #[.int .u8 tag, .int .u32 pos]] w fun e w' => e = .returned (.tuple #[.int .i64 0, .int .u8 2]) ∧ Below w.heap.size w w' := by
  have HS := Lib.hid (fun W => nth_nil sp op h f tag pos 0 W)
  clear h
  go_enter Try.func24, Try.ntmps24
  go_wp2_with fail
  refine (HS.out _).mono ?_
  rintro e w1 ⟨rfl, hb1⟩
  have HB : Hid (Below w.heap.size w w1) := Lib.hid (((Below.refl _ _).alloc (Nat.le_refl _) _).trans (hb1.mono (by simp)))
  clear hb1
  go_wp2_with fail
  go_ret2
  refine ⟨rfl, ?_⟩
  have hs := HB.out.size
  repeat (first | exact HB.out | refine Below.setCell ?_ (by simp only; omega) _ | refine Below.alloc ?_ (by omega) _)
set_option maxRecDepth 100000 in
set_option maxHeartbeats 4000000 in
theorem last_nil (sp op : Option Addr) (h : sp = none ∨ op = none) (f tag pos : Int)  (w : World) :
    Calls Try.prog 25 #[.pointer sp, .pointer op, .int .u8 f, .agg #[.int .u8 tag, .int .u32 pos]] w fun e w' => e = .returned (.tuple #[.int .i64 0, .int .u8 2]) ∧ Below w.heap.size w w' := by
  have HS := Lib.hid (fun W => start_nil sp op h f tag pos W)
  unfold noRest at HS
  clear h
  go_enter Try.func25, Try.ntmps25
  go_wp2_with fail
  refine (HS.out _).mono ?_
  rintro e w1 ⟨rfl, hb1⟩
  have HB : Hid (Below w.heap.size w w1) := Lib.hid (((Below.refl _ _).alloc (Nat.le_refl _) _).trans (hb1.mono (by simp)))
  clear hb1
  go_wp2_with fail
  go_ret2
  refine ⟨rfl, ?_⟩
  have hs := HB.out.size
  repeat (first | exact HB.out | refine Below.setCell ?_ (by simp only; omega) _ | refine Below.alloc ?_ (by omega) _)
set_option maxRecDepth 100000 in
set_option maxHeartbeats 4000000 in
theorem best_nil (sp op : Option Addr) (h : sp = none ∨ op = none) (f tag pos : Int) (A : Option Addr) (n c : Nat) (w : World) :
    Calls Try.prog 26 #[.pointer sp, .pointer op, .int .u8 f, .agg #[.int .u8 tag, .int .u32 pos], .slice A n c] w fun e w' => e = .returned (.tuple #[.int .i64 0, .int .i64 0, .int .u8 2]) ∧ Below w.heap.size w w' := by
  have HS := Lib.hid (fun W => start_nil sp op h f tag pos W)
  unfold noRest at HS
  clear h
  go_enter Try.func26, Try.ntmps26
  go_wp2_with fail
  refine (HS.out _).mono ?_
  rintro e w1 ⟨rfl, hb1⟩
  have HB : Hid (Below w.heap.size w w1) := Lib.hid (((Below.refl _ _).alloc (Nat.le_refl _) _).trans (hb1.mono (by simp)))
  clear hb1
  go_wp2_with fail
  go_ret3
  refine ⟨rfl, ?_⟩
  have hs := HB.out.size
  repeat (first | exact HB.out | refine Below.setCell ?_ (by simp only; omega) _ | refine Below.alloc ?_ (by omega) _)
end Go.Proofs.Ytbhbhfplpbcfiaa
