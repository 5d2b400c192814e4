/- Contracts: the document's bit, Right, Table, Vars, Value, Put, truth, Zero; great. -/
import Derived.Test.YtdhfpnbpkbelmaaDoorSetS
import Derived.Test.YtdhfpnbpkbelmaaDoorTextD
namespace Go.Proofs.YtdhfpnbpkbelmaaDoor
open Go.RowKit Go.Sort
set_option linter.unusedSimpArgs false
set_option linter.unusedVariables false

set_option maxHeartbeats 1000000 in
theorem rbit_any (v x : Nat) (hv : v < 18446744073709551616) (hx : x ≤ 65536) (w : World) : Calls Tryd.prog 58 #[.int .u64 (v : Nat), .int .i64 (x : Nat)] w fun e w' => e = .returned (.bool (v.testBit x)) ∧ w = w' := by
  go_enter Tryd.func58, Tryd.ntmps58
  go_wp2
  go_loop [0, 5] (fun a i => ∃ k : Nat, k ≤ x ∧ i = .int .i64 k ∧ a = .int .u64 (v / 2 ^ k : Nat)) (fun _ i => x - (intOf i).toNat)
  case atStart => exact ⟨0, Nat.zero_le _, rfl, by simp⟩
  case round =>
    obtain ⟨k, hk, rfl, rfl⟩ := hrel
    have hq : v / 2 ^ k < 18446744073709551616 := Nat.lt_of_le_of_lt (Nat.div_le_self _ _) hv
    by_cases hlt : k < x
    · have hn : Hid (v / 2 ^ (k + 1) = v / 2 ^ k / 2) := Lib.hid (by rw [Nat.div_div_eq_div_mul, ← Nat.pow_succ])
      generalize v / 2 ^ k = q at *
      go_wp2
      go_round
      case rel => exact ⟨k + 1, by omega, by go_num, by rw [hn.out]; go_num⟩
      case measure => simp [intOf]; omega
    · obtain rfl : k = x := by omega
      have HB := Lib.hid (show v.testBit k = decide (v / 2 ^ k % 2 = 1) from Nat.testBit_eq_decide_div_mod_eq)
      generalize v / 2 ^ k = q at *
      by_cases h1 : q % 2 = 1
      · have h2 : (((q : Nat) : Int) % 2 == 1) = true := by rw [beq_iff_eq]; omega
        have H1 := Lib.hid h1
        clear h1
        go_wp2
        go_ret
        exact ⟨ret_bool (by rw [HB.out, decide_eq_true H1.out]), rfl⟩
      · have h2 : (((q : Nat) : Int) % 2 == 1) = false := by rw [beq_eq_false_iff_ne]; omega
        have H1 := Lib.hid h1
        clear h1
        go_wp2
        go_ret
        exact ⟨ret_bool (by rw [HB.out, decide_eq_false H1.out]), rfl⟩
theorem rtruth_any (x : Bool) (w : World) : Calls Tryd.prog 61 #[.bool x] w fun e w' => e = .returned (.int .i64 (x.toNat : Nat)) ∧ w = w' := by
  cases x
  all_goals
    go_enter Tryd.func61, Tryd.ntmps61
    go_wp2
    go_ret
    exact ⟨rfl, rfl⟩
theorem bit_val (x v : Nat) : x / 2 ^ v % 2 = (x.testBit v).toNat := by
  rw [Nat.testBit_eq_decide_div_mod_eq]
  by_cases h : x / 2 ^ v % 2 = 1
  · rw [decide_eq_true h, h]; rfl
  · rw [decide_eq_false h]
    have := Nat.mod_two_eq_zero_or_one (x / 2 ^ v)
    show _ = 0
    omega
set_option maxHeartbeats 400000 in
theorem rvalue_any (x v : Nat) (hx : x ≤ 9223372036854775807) (hv : v ≤ 16) (w : World) : Calls Tryd.prog 63 #[.int .i64 (x : Nat), .int .i64 (v : Nat)] w fun e w' => e = .returned (.int .i64 ((x.testBit v).toNat : Nat)) ∧ w = w' := by
  rw [← bit_val]
  have HS := Lib.hid (fun W => size_any v hv W)
  have hp := pow16 hv
  have hp1 := Nat.one_le_two_pow (n := v)
  generalize 2 ^ v = p at *
  have hdv : ((x : Int) / (p : Int)) = ((x / p : Nat) : Int) := by simp
  have hq : x / p ≤ 9223372036854775807 := Nat.le_trans (Nat.div_le_self _ _) hx
  generalize x / p = q at *
  go_enter Tryd.func63, Tryd.ntmps63
  go_wp2_with fail
  refine (HS.out _).mono ?_
  rintro e w' ⟨rfl, rfl⟩
  go_wp2_with fail
  go_ret
  exact ⟨by first | rfl | exact ret_int (by omega), rfl⟩
/-- an assignment with a variable as 1 or 0 -/
def putV (x v b : Nat) : Nat := x - (x.testBit v).toNat * 2 ^ v + b * 2 ^ v
theorem bit_le (x v : Nat) : (x.testBit v).toNat * 2 ^ v ≤ x := by
  rw [← bit_val]
  have h1 := Nat.div_mul_le_self x (2 ^ v)
  have h2 : x / 2 ^ v % 2 ≤ x / 2 ^ v := Nat.mod_le _ _
  exact Nat.le_trans (Nat.mul_le_mul_right _ h2) h1
set_option maxHeartbeats 1000000 in
theorem rput_any (x v b : Nat) (hx : x ≤ 1000000) (hv : v ≤ 16) (hb : b ≤ 1) (w : World) : Calls Tryd.prog 60 #[.int .i64 (x : Nat), .int .i64 (v : Nat), .int .i64 (b : Nat)] w fun e w' => e = .returned (.int .i64 (putV x v b : Nat)) ∧ w = w' := by
  have HS := Lib.hid (fun W => size_any v hv W)
  have HV := Lib.hid (fun W => rvalue_any x v (by omega) hv W)
  have hp := pow16 hv
  have hle := bit_le x v
  have hbl : (x.testBit v).toNat ≤ 1 := by cases x.testBit v <;> decide
  have hP : putV x v b = x - (x.testBit v).toNat * 2 ^ v + b * 2 ^ v := rfl
  generalize 2 ^ v = p at *
  generalize (x.testBit v).toNat = t at *
  have hres : (x : Int) + ((b : Int) - (t : Int)) * (p : Int) = ((putV x v b : Nat) : Int) := by
    rw [hP]
    have h1 : b = 0 ∨ b = 1 := by omega
    have h2 : t = 0 ∨ t = 1 := by omega
    rcases h1 with rfl | rfl <;> rcases h2 with rfl | rfl <;> simp at * <;> omega
  have hm : ((b : Int) - (t : Int)) * (p : Int) = ((putV x v b : Nat) : Int) - (x : Int) := by rw [← hres]; omega
  have hbd : putV x v b ≤ x + 65536 := by
    rw [hP]
    have h1 : b = 0 ∨ b = 1 := by omega
    rcases h1 with rfl | rfl <;> simp <;> omega
  have hw1 : IntKind.i64.wrap (((b : Int) - (t : Int)) * (p : Int)) = ((putV x v b : Nat) : Int) - (x : Int) := by rw [hm]; exact IntWalk.i64_in _ (by omega)
  have hw2 : wrap64 (((b : Int) - (t : Int)) * (p : Int)) = ((putV x v b : Nat) : Int) - (x : Int) := by rw [hm]; exact IntWalk.wrap64_in _ ⟨by omega, by omega⟩
  have hadd : (x : Int) + (((putV x v b : Nat) : Int) - (x : Int)) = ((putV x v b : Nat) : Int) := by omega
  generalize putV x v b = r at *
  have HA := Lib.hid hadd
  clear hP hle hm hres hw1 hadd
  go_enter Tryd.func60, Tryd.ntmps60
  go_wp2_with fail
  refine (HV.out _).mono ?_
  rintro e w' ⟨rfl, rfl⟩
  go_wp2_with fail
  refine (HS.out _).mono ?_
  rintro e w' ⟨rfl, rfl⟩
  go_wp2_with fail
  go_ret
  exact ⟨by first | rfl | exact ret_int (by omega), rfl⟩
end Go.Proofs.YtdhfpnbpkbelmaaDoor
