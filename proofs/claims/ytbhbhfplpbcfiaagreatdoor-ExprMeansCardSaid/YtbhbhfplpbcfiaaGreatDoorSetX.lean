/- Contracts: set.digits, Text; the example. -/
import Derived.Test.YtbhbhfplpbcfiaaGreatDoorSetV
import Derived.Test.YtbhbhfplpbcfiaaGreatDoorBuf
import Derived.Lib.AppendIntMem
namespace Go.Proofs.YtbhbhfplpbcfiaaGreatDoor
open Go.RowKit Go.Sort
set_option linter.unusedSimpArgs false
set_option linter.unusedVariables false

/-- how many digits -/
def digitsN (n : Nat) : Nat := max 1 (2 ^ n / 4)
/-- a digit -/
def hexB (d : Nat) : UInt8 := UInt8.ofNat (if d < 10 then 48 + d else 87 + d)
def nib (ws : List Nat) (i : Nat) : Nat := wat ws (i / 16) / 2 ^ (i % 16 * 4) % 16
/-- the digits from the last one down to the k-th -/
def hexT (ws : List Nat) (D k : Nat) : List UInt8 := (List.range (D - k)).map fun j => hexB (nib ws (D - 1 - j))
theorem hexT_step (ws : List Nat) {D k : Nat} (h : k < D) : hexT ws D k = hexT ws D (k + 1) ++ [hexB (nib ws k)] := by
  unfold hexT
  rw [show D - k = (D - (k + 1)) + 1 by omega, range_snoc, show D - 1 - (D - (k + 1)) = k by omega]
theorem hexT_end (ws : List Nat) (D : Nat) : hexT ws D D = [] := by unfold hexT; rw [Nat.sub_self]; rfl
/-- a set's text -/
def textS (n : Nat) (ws : List Nat) : List UInt8 := Lib.decDigits n ++ 58 :: hexT ws (digitsN n) 0
theorem digitsN_le {n : Nat} (hn : n ≤ 16) : digitsN n ≤ 16384 := by
  have := pow16 hn
  unfold digitsN; omega
theorem dig_word {n i : Nat} (hi : i < digitsN n) : i / 16 < wordsN n := by
  unfold digitsN at hi
  by_cases h : 6 ≤ n
  · rw [wordsN_big h]
    have hp := pow_split h
    have h1 := Nat.one_le_two_pow (n := n - 6)
    omega
  · rw [wordsN_small h]
    have := pow_lt64 h
    omega
def hexS : ByteArray := ⟨#[48, 49, 50, 51, 52, 53, 54, 55, 56, 57, 97, 98, 99, 100, 101, 102]⟩
theorem hexS_at : ∀ d : Fin 16, hexS.data.toList.getD d.val 0 = hexB d.val := by decide +kernel
theorem hex_at (d : Nat) (hd : d < 16) (w : World) : (Instr.index 9 (.string ⟨#[48, 49, 50, 51, 52, 53, 54, 55, 56, 57, 97, 98, 99, 100, 101, 102]⟩) (.int .u64 (d : Nat))).run Tryz.prog w = .ok (.int .u8 ((hexB d).toNat : Nat)) w := by
  have hsz : hexS.size = 16 := by decide +kernel
  show (Instr.index 9 (.string hexS) (.int .u64 (d : Nat))).run Tryz.prog w = _
  rw [run_index_string w 9 hexS .u64 _ Tryz.underlying9, dif_pos ⟨by omega, by rw [hsz]; omega⟩]
  have e : ((d : Int)).toNat = d := by omega
  simp only [e]
  rw [Lib.getD_at hexS d (by rw [hsz]; exact hd), hexS_at ⟨d, hd⟩]
theorem nib_and {v s : Nat} (hv : v < 18446744073709551616) : bits .and .u64 ((v : Int) / 2 ^ s) 15 = ((v / 2 ^ s % 16 : Nat) : Int) := by
  rw [show ((v : Int) / 2 ^ s) = ((v / 2 ^ s : Nat) : Int) by simp]
  have h := u64_and_nat (v / 2 ^ s) 15 (Nat.lt_of_le_of_lt (Nat.div_le_self _ _) hv) (by omega)
  rw [show v / 2 ^ s % 16 = v / 2 ^ s &&& 15 from (Nat.and_two_pow_sub_one_eq_mod _ 4).symm]
  exact h
end Go.Proofs.YtbhbhfplpbcfiaaGreatDoor
