/- Bits of int (i64) that is not negative, as natural numbers. -/
import Derived.Test.YtdhfpnbpkbelmaaDoorBase
namespace Go.Proofs.YtdhfpnbpkbelmaaDoor
open Go.RowKit
set_option linter.unusedSimpArgs false
set_option linter.unusedVariables false

theorem ofInt_i64 (a : Nat) (ha : a < 18446744073709551616) : (BitVec.ofInt 64 (a : Int)).toNat = a := ofInt_u64 a ha
theorem wrap_i64_nat (x : Nat) (h : x < 9223372036854775808) : IntKind.i64.wrap (x : Int) = (x : Int) := IntWalk.i64_in _ (by omega)
theorem i64_and_nat (a b : Nat) (ha : a < 9223372036854775808) (hb : b < 9223372036854775808) : bits .and .i64 (a : Int) (b : Int) = ((a &&& b : Nat) : Int) := by
  have hx : a &&& b < 2 ^ 63 := Nat.and_lt_two_pow _ (by omega)
  show IntKind.i64.wrap ((BitVec.ofInt 64 (a : Int) &&& BitVec.ofInt 64 (b : Int)).toNat : Int) = _
  rw [BitVec.toNat_and, ofInt_i64 a (by omega), ofInt_i64 b (by omega), wrap_i64_nat _ (by omega)]
theorem i64_or_nat (a b : Nat) (ha : a < 9223372036854775808) (hb : b < 9223372036854775808) : bits .or .i64 (a : Int) (b : Int) = ((a ||| b : Nat) : Int) := by
  have hx : a ||| b < 2 ^ 63 := Nat.or_lt_two_pow (by omega) (by omega)
  show IntKind.i64.wrap ((BitVec.ofInt 64 (a : Int) ||| BitVec.ofInt 64 (b : Int)).toNat : Int) = _
  rw [BitVec.toNat_or, ofInt_i64 a (by omega), ofInt_i64 b (by omega), wrap_i64_nat _ (by omega)]
theorem i64_xor_nat (a b : Nat) (ha : a < 9223372036854775808) (hb : b < 9223372036854775808) : bits .xor .i64 (a : Int) (b : Int) = ((a ^^^ b : Nat) : Int) := by
  have hx : a ^^^ b < 2 ^ 63 := Nat.xor_lt_two_pow (by omega) (by omega)
  show IntKind.i64.wrap ((BitVec.ofInt 64 (a : Int) ^^^ BitVec.ofInt 64 (b : Int)).toNat : Int) = _
  rw [BitVec.toNat_xor, ofInt_i64 a (by omega), ofInt_i64 b (by omega), wrap_i64_nat _ (by omega)]

/-- 'q >> t & 1' -/
theorem bit_test (q : Nat) (hq : q < 9223372036854775808) (x : Int) (hx : 0 ≤ x) : bits .and .i64 ((q : Int) / 2 ^ x.toNat) 1 = if q.testBit x.toNat then 1 else 0 := by
  have h1 : ((q : Int) / 2 ^ x.toNat) = ((q / 2 ^ x.toNat : Nat) : Int) := by simp
  have h2 : q / 2 ^ x.toNat ≤ q := Nat.div_le_self _ _
  rw [h1, show (1 : Int) = ((1 : Nat) : Int) from rfl, i64_and_nat _ _ (by omega) (by omega), Nat.and_one_is_mod, Nat.testBit_eq_decide_div_mod_eq]
  rcases Nat.mod_two_eq_zero_or_one (q / 2 ^ x.toNat) with h | h <;> simp [h]
theorem wrap64_pow (t : Nat) (ht : t < 63) : wrap64 (2 ^ t) = ((2 ^ t : Nat) : Int) := by
  have h : (2 : Nat) ^ t < 2 ^ 63 := Nat.pow_lt_pow_right (by omega) ht
  have h2 : ((2 : Int) ^ t) = ((2 ^ t : Nat) : Int) := by simp
  rw [h2]
  clear h2
  generalize (2 : Nat) ^ t = p at h ⊢
  unfold wrap64
  omega
/-- 'q | 1 << t' -/
theorem or_pow (q : Nat) (hq : q < 9223372036854775808) (t : Nat) (ht : t < 63) : bits .or .i64 (q : Int) (wrap64 (2 ^ t)) = ((q ||| 2 ^ t : Nat) : Int) := by
  have h : (2 : Nat) ^ t < 2 ^ 63 := Nat.pow_lt_pow_right (by omega) ht
  rw [wrap64_pow t ht, i64_or_nat _ _ hq (by omega)]
theorem testBit_or_pow (q t j : Nat) : (q ||| 2 ^ t).testBit j = (q.testBit j || decide (j = t)) := by
  rw [Nat.testBit_or, Nat.testBit_two_pow]
  congr 1
  exact decide_eq_decide.2 ⟨fun h => h.symm, fun h => h.symm⟩
end Go.Proofs.YtdhfpnbpkbelmaaDoor
