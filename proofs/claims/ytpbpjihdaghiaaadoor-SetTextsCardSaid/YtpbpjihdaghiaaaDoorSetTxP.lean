/- Plain: which bytes are the text of a set. -/
import Derived.Test.YtpbpjihdaghiaaaDoorSetX
import Derived.Lib.IndexMore
import Derived.Lib.IndexLaws
import Derived.Lib.IndexBytes
import Derived.Lib.AtoiAll
namespace Go.Proofs.YtpbpjihdaghiaaaDoor
open Go.RowKit Go.Sort
set_option linter.unusedSimpArgs false
set_option linter.unusedVariables false

theorem indexByte_app : ∀ (a b : List UInt8) (c : UInt8), ¬ c ∈ a → Lib.indexByte (a ++ c :: b) c = (a.length : Int)
  | [], b, c, _ => by simp [Lib.indexByte]
  | x :: a, b, c, h => by
    have h1 : (x == c) = false := by
      rw [beq_eq_false_iff_ne]
      rintro rfl
      exact h (List.mem_cons_self ..)
    have ih := indexByte_app a b c (fun hm => h (List.mem_cons_of_mem _ hm))
    rw [List.cons_append, Lib.indexByte, h1, ih]
    have h2 : ((a.length : Int) == -1) = false := by rw [beq_eq_false_iff_ne]; omega
    simp [h2]
theorem cut_mk {a b : List UInt8} (h : ¬ (58 : UInt8) ∈ a) : Lib.cut (a ++ 58 :: b) [58] = (a, b, true) := by
  unfold Lib.cut
  rw [Lib.index_one, indexByte_app a b 58 h, if_pos (by omega)]
  simp
theorem cut_back {T : List UInt8} (h : (Lib.cut T [58]).2.2 = true) : T = (Lib.cut T [58]).1 ++ 58 :: (Lib.cut T [58]).2.1 := by
  unfold Lib.cut at h ⊢
  rw [Lib.index_one] at h ⊢
  by_cases h0 : 0 ≤ Lib.indexByte T 58
  · rw [if_pos h0]
    obtain ⟨o, ho⟩ := Int.eq_ofNat_of_zero_le h0
    rw [ho]
    simp only [Int.toNat_natCast, List.length_singleton]
    have h1 := (Lib.indexByte_some ho).1
    obtain ⟨hlt, h2⟩ := List.getElem?_eq_some_iff.1 h1
    rw [← h2, List.getElem_cons_drop, List.take_append_drop]
  · rw [if_neg h0] at h
    cases h
/-- the digits -/
def hexL : List UInt8 := [48, 49, 50, 51, 52, 53, 54, 55, 56, 57, 97, 98, 99, 100, 101, 102]
theorem hexL_at : ∀ d : Fin 16, hexL[d.val]? = some (hexB d.val) := by decide +kernel
theorem hex_idx : ∀ d : Fin 16, Lib.indexByte hexL (hexB d.val) = (d.val : Int) := by decide +kernel
theorem hex_back {c : UInt8} {d : Nat} (h : Lib.indexByte hexL c = d) : d < 16 ∧ hexB d = c := by
  have h1 := (Lib.indexByte_some h).1
  obtain ⟨hlt, _⟩ := List.getElem?_eq_some_iff.1 h1
  have hd : d < 16 := hlt
  have h2 := hexL_at ⟨d, hd⟩
  rw [h1] at h2
  exact ⟨hd, (Option.some.inj h2).symm⟩
theorem dec_form : ∀ n : Fin 17, Lib.decDigits n.val = if n.val < 10 then [UInt8.ofNat (48 + n.val)] else [49, UInt8.ofNat (38 + n.val)] := by decide +kernel
theorem dec_58 : ∀ n : Fin 17, ¬ (58 : UInt8) ∈ Lib.decDigits n.val := by decide +kernel
theorem dec_atoi : ∀ n : Fin 17, Lib.atoiAll (Lib.decDigits n.val) = .ok (n.val : Int) := by decide +kernel
theorem dec_inj : ∀ n m : Fin 17, Lib.decDigits n.val = Lib.decDigits m.val → n = m := by decide +kernel
theorem itoa_dec (n : Nat) : Lib.itoa (n : Int) = Lib.decDigits n := by unfold Lib.itoa; rw [if_neg (by omega), Int.toNat_natCast]
/-- is it the text of a set? -/
def IsText (T : List UInt8) : Prop := ∃ n ws, SOk n ws ∧ textS n ws = T
/-- a number of variables, and digits -/
structure HeadOk (T : List UInt8) (n : Nat) (rest : List UInt8) : Prop where
  n16 : n ≤ 16
  eq : T = Lib.decDigits n ++ 58 :: rest
  len : rest.length = digitsN n
theorem hexT_length (ws : List Nat) (D : Nat) : (hexT ws D 0).length = D := by simp [hexT]
theorem HeadOk.of {n : Nat} {ws : List Nat} (h : SOk n ws) : HeadOk (textS n ws) n (hexT ws (digitsN n) 0) := ⟨h.n16, rfl, hexT_length _ _⟩
theorem HeadOk.cut {T : List UInt8} {n : Nat} {rest : List UInt8} (h : HeadOk T n rest) : Lib.cut T [58] = (Lib.decDigits n, rest, true) := by
  rw [h.eq]; exact cut_mk (dec_58 ⟨n, by have := h.n16; omega⟩)
theorem HeadOk.uniq {T : List UInt8} {n m : Nat} {r s : List UInt8} (h : HeadOk T n r) (h' : HeadOk T m s) : n = m ∧ r = s := by
  have e := h.cut.symm.trans h'.cut
  have e1 := congrArg Prod.fst e
  have e2 := congrArg (fun p => p.2.1) e
  have := dec_inj ⟨n, by have := h.n16; omega⟩ ⟨m, by have := h'.n16; omega⟩ e1
  exact ⟨by simpa using this, e2⟩
/-- the digit at a place -/
def dgt (rest : List UInt8) (k : Nat) : Int := Lib.indexByte hexL (rest.getD (rest.length - 1 - k) 0)
def dgN (rest : List UInt8) (k : Nat) : Nat := (dgt rest k).toNat
/-- the words of the first k digits -/
def parW (n : Nat) (rest : List UInt8) : Nat → List Nat
  | 0 => List.replicate (wordsN n) 0
  | k + 1 => (parW n rest k).set (k / 16) (wat (parW n rest k) (k / 16) ||| dgN rest k * 2 ^ (k % 16 * 4))
theorem parW_length (n : Nat) (rest : List UInt8) : ∀ k, (parW n rest k).length = wordsN n
  | 0 => by simp [parW]
  | k + 1 => by rw [parW, List.length_set, parW_length n rest k]
def DigOk (rest : List UInt8) (k : Nat) : Prop := ∀ j, j < k → 0 ≤ dgt rest j
theorem dgt_lt {rest : List UInt8} {k : Nat} (h : 0 ≤ dgt rest k) : dgN rest k < 16 ∧ hexB (dgN rest k) = rest.getD (rest.length - 1 - k) 0 := by
  obtain ⟨d, hd⟩ := Int.eq_ofNat_of_zero_le h
  unfold dgN
  rw [hd, Int.toNat_natCast]
  exact hex_back hd
theorem parW_bit {n : Nat} (hn : n ≤ 16) {rest : List UInt8} : ∀ k, k ≤ digitsN n → DigOk rest k → ∀ x, bitAt (parW n rest k) x = (decide (x / 4 < k) && (dgN rest (x / 4)).testBit (x % 4))
  | 0, _, _, x => by
    unfold bitAt parW
    rw [List.getElem?_replicate]
    split <;> simp
  | k + 1, hk, hd, x => by
    have ih := parW_bit hn k (by omega) (fun j hj => hd j (by omega)) x
    have hlt := (dgt_lt (hd k (by omega))).1
    have hw := dig_word (n := n) (i := k) (by omega)
    unfold bitAt at ih ⊢
    rw [parW]
    by_cases hx : x / 64 = k / 16
    · rw [hx, List.getElem?_set_self (by rw [parW_length]; exact hw), Option.getD_some, Nat.testBit_or]
      rw [hx] at ih
      unfold wat
      rw [ih, Nat.testBit_mul_two_pow]
      by_cases hk4 : x / 4 = k
      · have e1 : k % 16 * 4 ≤ x % 64 := by omega
        have e2 : x % 64 - k % 16 * 4 = x % 4 := by omega
        rw [hk4, e2]
        simp [e1]
      · rcases Nat.lt_or_ge (x / 4) k with h4 | h4
        · have e1 : ¬ k % 16 * 4 ≤ x % 64 := by omega
          simp [e1, h4, show x / 4 < k + 1 by omega]
        · have e1 : k % 16 * 4 + 4 ≤ x % 64 := by omega
          have e2 : (dgN rest k).testBit (x % 64 - k % 16 * 4) = false := Nat.testBit_lt_two_pow (Nat.lt_of_lt_of_le hlt (show 2 ^ 4 ≤ _ from Nat.pow_le_pow_right (by omega) (by omega)))
          rw [e2]
          simp [show ¬ x / 4 < k by omega, show ¬ x / 4 < k + 1 by omega]
    · rw [List.getElem?_set_ne (fun e => hx e.symm), ih]
      have : x / 4 < k + 1 ↔ x / 4 < k := by omega
      rw [decide_eq_decide.2 this]
theorem parW_lt {n : Nat} {rest : List UInt8} : ∀ k, DigOk rest k → ∀ v ∈ parW n rest k, v < 18446744073709551616
  | 0, _, v, hv => by rw [parW] at hv; have := (List.mem_replicate.1 hv).2; omega
  | k + 1, hd, v, hv => by
    rw [parW] at hv
    have ih := parW_lt (n := n) k (fun j hj => hd j (by omega))
    rcases List.mem_or_eq_of_mem_set hv with h1 | rfl
    · exact ih v h1
    · have h1 : wat (parW n rest k) (k / 16) < 2 ^ 64 := wat_lt ih _
      have h2 := (dgt_lt (hd k (by omega))).1
      refine Nat.or_lt_two_pow h1 ?_
      calc dgN rest k * 2 ^ (k % 16 * 4) < 2 ^ 4 * 2 ^ (k % 16 * 4) := Nat.mul_lt_mul_of_pos_right h2 (Nat.two_pow_pos _)
        _ = 2 ^ (4 + k % 16 * 4) := (Nat.pow_add ..).symm
        _ ≤ 2 ^ 64 := Nat.pow_le_pow_right (by omega) (by omega)
theorem nib_bit (ws : List Nat) (i j : Nat) : (nib ws i).testBit j = (decide (j < 4) && bitAt ws (4 * i + j)) := by
  unfold nib
  rw [show (16 : Nat) = 2 ^ 4 from rfl, Nat.testBit_mod_two_pow, Nat.testBit_div_two_pow]
  by_cases hj : j < 4
  · unfold bitAt wat
    rw [show (4 * i + j) / 64 = i / 16 by omega, show (4 * i + j) % 64 = j + i % 2 ^ 4 * 4 by omega]
  · simp [hj]
theorem nib_par {n : Nat} (hn : n ≤ 16) {rest : List UInt8} {i : Nat} (hi : i < digitsN n) (hd : DigOk rest (digitsN n)) : nib (parW n rest (digitsN n)) i = dgN rest i := by
  apply Nat.eq_of_testBit_eq
  intro j
  rw [nib_bit, parW_bit hn _ (Nat.le_refl _) hd]
  by_cases hj : j < 4
  · rw [show (4 * i + j) / 4 = i by omega, show (4 * i + j) % 4 = j by omega]
    simp [hj, hi]
  · have := (dgt_lt (hd i hi)).1
    rw [Nat.testBit_lt_two_pow (Nat.lt_of_lt_of_le this (show 2 ^ 4 ≤ 2 ^ j from Nat.pow_le_pow_right (by omega) (by omega)))]
    simp [hj]
/-- the text of the words is what was read -/
theorem par_text {T rest : List UInt8} {n : Nat} (h : HeadOk T n rest) (hd : DigOk rest (digitsN n)) : textS n (parW n rest (digitsN n)) = T := by
  rw [h.eq]
  unfold textS
  congr 2
  have e : hexT (parW n rest (digitsN n)) (digitsN n) 0 = (List.range (digitsN n)).map fun j => hexB (nib (parW n rest (digitsN n)) (digitsN n - 1 - j)) := by unfold hexT; rw [Nat.sub_zero]
  rw [e]
  apply List.ext_getElem (by rw [List.length_map, List.length_range, h.len])
  intro j h1 h2
  rw [List.length_map, List.length_range] at h1
  rw [List.getElem_map, List.getElem_range, nib_par h.n16 (by omega) hd, (dgt_lt (hd _ (by omega))).2, h.len]
  rw [show digitsN n - 1 - (digitsN n - 1 - j) = j by omega, List.getD_eq_getElem?_getD, List.getElem?_eq_getElem h2, Option.getD_some]
theorem nib_lt (ws : List Nat) (i : Nat) : nib ws i < 16 := by unfold nib; exact Nat.mod_lt _ (by omega)
theorem dgt_text {n : Nat} {ws : List Nat} {k : Nat} (hk : k < digitsN n) : dgt (hexT ws (digitsN n) 0) k = (nib ws k : Int) := by
  unfold dgt
  rw [hexT_length, List.getD_eq_getElem?_getD]
  unfold hexT
  rw [List.getElem?_map, List.getElem?_range (by omega)]
  simp only [Option.map_some, Option.getD_some]
  rw [show digitsN n - 1 - (digitsN n - 1 - k) = k by omega]
  exact hex_idx ⟨nib ws k, nib_lt _ _⟩
theorem size_digits (n : Nat) : 2 ^ n ≤ 4 * digitsN n := by
  unfold digitsN
  rcases Nat.lt_or_ge n 2 with h | h
  · have : n = 0 ∨ n = 1 := by omega
    rcases this with rfl | rfl <;> decide
  · obtain ⟨m, rfl⟩ := Nat.exists_eq_add_of_le h
    rw [Nat.pow_add]
    omega
/-- a set's text: its digits can be, and the words are its own -/
theorem text_par {T rest : List UInt8} {n m : Nat} {ws : List Nat} (h : HeadOk T n rest) (hok : SOk m ws) (e : textS m ws = T) : m = n ∧ DigOk rest (digitsN n) ∧ SOk n (parW n rest (digitsN n)) := by
  have h2 := HeadOk.of hok
  rw [e] at h2
  obtain ⟨rfl, rfl⟩ := h2.uniq h
  have hd : DigOk (hexT ws (digitsN m) 0) (digitsN m) := fun j hj => by rw [dgt_text hj]; omega
  refine ⟨rfl, hd, hok.n16, parW_length _ _ _, parW_lt _ hd, fun x hx hx2 => ?_⟩
  rw [parW_bit hok.n16 _ (Nat.le_refl _) hd]
  by_cases h4 : x / 4 < digitsN m
  · have e1 : dgN (hexT ws (digitsN m) 0) (x / 4) = nib ws (x / 4) := by unfold dgN; rw [dgt_text h4, Int.toNat_natCast]
    rw [e1, nib_bit, show 4 * (x / 4) + x % 4 = x by omega, hok.hi x hx hx2]
    simp
  · simp [h4]
/-- digits that may be: a set -/
theorem par_ok {rest : List UInt8} {n : Nat} (hn : n ≤ 16) (hd : DigOk rest (digitsN n)) (h2 : 2 ≤ n ∨ dgN rest 0 < 2 ^ 2 ^ n) : SOk n (parW n rest (digitsN n)) := by
  refine ⟨hn, parW_length _ _ _, parW_lt _ hd, fun x hx hx2 => ?_⟩
  rw [parW_bit hn _ (Nat.le_refl _) hd]
  rcases Nat.lt_or_ge n 2 with h | h
  · have h3 := h2.resolve_left (by omega)
    have hD : digitsN n = 1 := by
      unfold digitsN
      have : n = 0 ∨ n = 1 := by omega
      rcases this with rfl | rfl <;> decide
    rw [hD]
    by_cases h4 : x / 4 < 1
    · rw [show x / 4 = 0 by omega, Nat.testBit_lt_two_pow (Nat.lt_of_lt_of_le h3 (Nat.pow_le_pow_right (by omega) (by omega)))]
      simp
    · simp [h4]
  · have hD : 4 * digitsN n = 2 ^ n := by
      have h5 := size_digits n
      unfold digitsN at h5 ⊢
      obtain ⟨m, rfl⟩ := Nat.exists_eq_add_of_le h
      rw [Nat.pow_add] at h5 ⊢
      have := Nat.two_pow_pos m
      omega
    simp [show ¬ x / 4 < digitsN n by omega]
end Go.Proofs.YtpbpjihdaghiaaaDoor
