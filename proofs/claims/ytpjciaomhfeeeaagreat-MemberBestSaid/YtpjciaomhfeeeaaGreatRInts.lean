/- Contract: the document's Ints: two lists of the same numbers. -/
import Derived.Test.YtpjciaomhfeeeaaGreatMa
namespace Go.Proofs.YtpjciaomhfeeeaaGreat
open Go.RowKit
set_option linter.unusedSimpArgs false
set_option linter.unusedVariables false

set_option maxRecDepth 100000 in
set_option maxHeartbeats 4000000 in
theorem rints_same (A B : Option Addr) (n c d : Nat) (xs : List Int) (w : World) (hx : xs.length = n) (hn : n ≤ 9223372036854775807) (hA : Ints w w.heap.size A xs) (hB : Ints w w.heap.size B xs) :
    Calls Tryz.prog 16 #[.slice A n c, .slice B n d] w fun e w' => e = .returned (.bool true) ∧ Below w.heap.size w w' := by
  have HA := Lib.hid hA
  have HB := Lib.hid hB
  have HX := Lib.hid hx
  clear hA hB hx
  go_enter Tryz.func16, Tryz.ntmps16
  go_wp2_with fail
  go_loopw [5] (fun i wr => ∃ k q : Nat, k ≤ n ∧ i = .int .i64 (k : Int) ∧ wr = w.drewN q) (fun i _ => n - (intOf i).toNat)
  case atStart => exact ⟨0, 0, Nat.zero_le _, rfl, rfl⟩
  case round =>
    obtain ⟨k, q, hk, rfl, rfl⟩ := hrel
    rcases Nat.lt_or_ge k n with hlt | hge
    · obtain ⟨b1, o1, rfl, _, hc1⟩ := HA.out (by have := HX.out; omega)
      obtain ⟨b2, o2, rfl, _, hc2⟩ := HB.out (by have := HX.out; omega)
      have k1 := hc1 k (by have := HX.out; omega)
      have k2 := hc2 k (by have := HX.out; omega)
      generalize xs[k]?.getD 0 = x at *
      clear hc1 hc2
      have j1 : ∀ p, (w.drewN p).cell? ⟨b1, o1 + k, none⟩ = some (.int .i64 x) := fun p => k1
      have j2 : ∀ p, (w.drewN p).cell? ⟨b2, o2 + k, none⟩ = some (.int .i64 x) := fun p => k2
      go_wp2_with fail
      go_quiet (fail)
      go_wp2_with fail
      go_roundw
      case rel => exact ⟨k + 1, _, by omega, by go_num, rfl⟩
      case measure => simp [intOf]; omega
    · obtain rfl : k = n := by omega
      go_wp2_with fail
      go_ret
      exact ⟨rfl, below_drewN (Below.refl _ _) q⟩
end Go.Proofs.YtpjciaomhfeeeaaGreat
