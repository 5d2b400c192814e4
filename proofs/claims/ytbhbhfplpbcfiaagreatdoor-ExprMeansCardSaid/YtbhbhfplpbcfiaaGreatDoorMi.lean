/- Plain: how many bits a word has, as the library reckons it. Contract: math/bits.OnesCount64. Contracts: set.Has, Count. -/
import Derived.Test.YtbhbhfplpbcfiaaGreatDoorMd
import Derived.Test.YtbhbhfplpbcfiaaGreatDoorSetSa
import Derived.Test.YtbhbhfplpbcfiaaGreatDoorSetRuP
section
namespace Go.Proofs.YtbhbhfplpbcfiaaGreatDoor
set_option linter.unusedSimpArgs false
set_option linter.unusedVariables false

/-- how many of the first bits are 1 -/
def popN (x : Nat) : Nat → Nat
  | 0 => 0
  | k + 1 => x % 2 + popN (x / 2) k
theorem popN_add (x : Nat) : ∀ a b, popN x (a + b) = popN x a + popN (x / 2 ^ a) b
  | 0, b => by simp [popN]
  | a + 1, b => by
    rw [Nat.add_right_comm, popN, popN, popN_add (x / 2) a b, Nat.div_div_eq_div_mul, Nat.pow_succ, Nat.mul_comm 2, Nat.add_assoc]
theorem popN_mod (x : Nat) : ∀ a, popN (x % 2 ^ a) a = popN x a
  | 0 => rfl
  | a + 1 => by
    rw [popN, popN, Nat.mod_pow_succ]
    have h1 : (x % 2 ^ a + 2 ^ a * (x / 2 ^ a % 2)) % 2 = x % 2 := by
      rw [← Nat.mod_pow_succ, Nat.pow_succ, Nat.mod_mul_left_mod]
    have h2 : (x % 2 ^ a + 2 ^ a * (x / 2 ^ a % 2)) / 2 = x / 2 % 2 ^ a := by
      rw [← Nat.mod_pow_succ, Nat.pow_succ, Nat.mul_comm, Nat.mod_mul_right_div_self]
    rw [h1, h2, popN_mod (x / 2) a]
theorem popN_le (x : Nat) : ∀ k, popN x k ≤ k
  | 0 => Nat.le_refl _
  | k + 1 => by
    rw [popN]
    have := popN_le (x / 2) k
    have := Nat.mod_lt x (show 0 < 2 by omega)
    omega
def p8 (d : Nat) : Nat := popN d 8
def mk (c : Nat) : Nat → Nat
  | 0 => 0
  | k + 1 => c + 256 * mk c k
theorem join_bit (a b j : Nat) (ha : a < 256) : (a + 256 * b).testBit j = if j < 8 then a.testBit j else b.testBit (j - 8) := by
  rw [Nat.add_comm, show 256 * b = 2 ^ 8 * b from rfl, Nat.testBit_two_pow_mul_add _ (show a < 2 ^ 8 from ha)]
theorem and_join {a b c e : Nat} (ha : a < 256) (hc : c < 256) : (a + 256 * b) &&& (c + 256 * e) = (a &&& c) + 256 * (b &&& e) := by
  apply Nat.eq_of_testBit_eq
  intro j
  rw [Nat.testBit_and, join_bit a b j ha, join_bit c e j hc, join_bit _ _ j (Nat.lt_of_le_of_lt Nat.and_le_left ha)]
  split <;> rw [Nat.testBit_and]
def a1 (d : Nat) : Nat := (d / 2 &&& 85) + (d &&& 85)
def b1 (d : Nat) : Nat := (d / 4 &&& 51) + (d &&& 51)
def c1 (d : Nat) : Nat := (d / 16 + d) &&& 15
theorem a1_mask : ∀ (d : Fin 256) (u : Fin 2), (d.val / 2 + 128 * u.val) &&& 85 = d.val / 2 &&& 85 := by decide +kernel
theorem a1_lt : ∀ d : Fin 256, a1 d.val < 256 := by decide +kernel
theorem b1_mask : ∀ (d : Fin 256) (u : Fin 4), (d.val / 4 + 64 * u.val) &&& 51 = d.val / 4 &&& 51 := by decide +kernel
theorem b1_lt : ∀ d : Fin 256, b1 (a1 d.val) < 69 := by decide +kernel
theorem b1_nib : ∀ d : Fin 256, b1 (a1 d.val) % 16 < 5 := by decide +kernel
theorem c1_mask : ∀ (d : Fin 69) (u : Fin 5), (d.val / 16 + d.val + 16 * u.val) &&& 15 = (d.val / 16 + d.val) &&& 15 := by decide +kernel
theorem p8_eq : ∀ d : Fin 256, c1 (b1 (a1 d.val)) = p8 d.val := by decide +kernel
def A1 (x k : Nat) : Nat := (x / 2 &&& mk 85 k) + (x &&& mk 85 k)
def B1 (x k : Nat) : Nat := (x / 4 &&& mk 51 k) + (x &&& mk 51 k)
def C1 (x k : Nat) : Nat := (x / 16 + x) &&& mk 15 k
def W1 (x : Nat) : Nat → Nat
  | 0 => 0
  | k + 1 => a1 (x % 256) + 256 * W1 (x / 256) k
def W2 (x : Nat) : Nat → Nat
  | 0 => 0
  | k + 1 => b1 (a1 (x % 256)) + 256 * W2 (x / 256) k
def Q8 (x : Nat) : Nat → Nat
  | 0 => 0
  | k + 1 => p8 (x % 256) + 256 * Q8 (x / 256) k
theorem A1_eq : ∀ k x, A1 x k = W1 x k
  | 0, x => by unfold A1; simp [mk, W1]
  | k + 1, x => by
    have hd : x % 256 < 256 := Nat.mod_lt _ (by omega)
    have hm := a1_mask ⟨x % 256, hd⟩ ⟨x / 256 % 2, Nat.mod_lt _ (by omega)⟩
    simp only at hm
    have ih := A1_eq k (x / 256)
    unfold A1 at ih
    have e1 : x / 2 = (x % 256 / 2 + 128 * (x / 256 % 2)) + 256 * (x / 256 / 2) := by omega
    have e2 : x = x % 256 + 256 * (x / 256) := by omega
    rw [W1, ← ih]
    unfold A1 a1
    rw [mk, e1, and_join (by omega) (by omega), hm]
    have e3 : x &&& (85 + 256 * mk 85 k) = (x % 256 &&& 85) + 256 * (x / 256 &&& mk 85 k) := by
      conv => lhs; rw [e2]
      rw [and_join hd (by omega)]
    rw [e3]
    omega
theorem W1_mod (x k : Nat) : W1 x (k + 1) % 256 = a1 (x % 256) ∧ W1 x (k + 1) / 256 = W1 (x / 256) k := by
  have h := a1_lt ⟨x % 256, Nat.mod_lt _ (by omega)⟩
  simp only at h
  rw [W1]
  omega
theorem B1_eq : ∀ k x, B1 (W1 x k) k = W2 x k
  | 0, x => by unfold B1; simp [mk, W1, W2]
  | k + 1, x => by
    obtain ⟨h1, h2⟩ := W1_mod x k
    generalize hy : W1 x (k + 1) = y at *
    have hd : y % 256 < 256 := Nat.mod_lt _ (by omega)
    have hm := b1_mask ⟨y % 256, hd⟩ ⟨y / 256 % 4, Nat.mod_lt _ (by omega)⟩
    simp only at hm
    have ih := B1_eq k (x / 256)
    rw [← h2] at ih
    unfold B1 at ih
    have e1 : y / 4 = (y % 256 / 4 + 64 * (y / 256 % 4)) + 256 * (y / 256 / 4) := by omega
    have e2 : y = y % 256 + 256 * (y / 256) := by omega
    rw [W2, ← ih, ← h1]
    unfold B1 b1
    rw [mk, e1, and_join (by omega) (by omega), hm]
    have e3 : y &&& (51 + 256 * mk 51 k) = (y % 256 &&& 51) + 256 * (y / 256 &&& mk 51 k) := by
      conv => lhs; rw [e2]
      rw [and_join hd (by omega)]
    rw [e3]
    omega
theorem W2_mod (x k : Nat) : W2 x (k + 1) % 256 = b1 (a1 (x % 256)) ∧ W2 x (k + 1) / 256 = W2 (x / 256) k := by
  have h := b1_lt ⟨x % 256, Nat.mod_lt _ (by omega)⟩
  simp only at h
  rw [W2]
  omega
theorem W2_nib : ∀ k x, W2 x k % 16 < 5
  | 0, x => by simp [W2]
  | k + 1, x => by
    have h := b1_nib ⟨x % 256, Nat.mod_lt _ (by omega)⟩
    simp only at h
    rw [W2]
    omega
theorem C1_eq : ∀ k x, C1 (W2 x k) k = Q8 x k
  | 0, x => by unfold C1; simp [mk, W2, Q8]
  | k + 1, x => by
    obtain ⟨h1, h2⟩ := W2_mod x k
    have hb := b1_lt ⟨x % 256, Nat.mod_lt _ (by omega)⟩
    have hp := p8_eq ⟨x % 256, Nat.mod_lt _ (by omega)⟩
    simp only at hb hp
    have hn := W2_nib k (x / 256)
    rw [← h2] at hn
    rw [← h1] at hb hp
    generalize hy : W2 x (k + 1) = y at *
    have hm := c1_mask ⟨y % 256, hb⟩ ⟨y / 256 % 16, hn⟩
    simp only at hm
    have ih := C1_eq k (x / 256)
    rw [← h2] at ih
    unfold C1 at ih
    have e1 : y / 16 + y = (y % 256 / 16 + y % 256 + 16 * (y / 256 % 16)) + 256 * (y / 256 / 16 + y / 256) := by omega
    rw [Q8, ← ih, ← hp]
    unfold C1 c1
    rw [mk, e1, and_join (by omega) (by omega), hm]
theorem pop_split (x k : Nat) : popN x (8 + k) = p8 (x % 256) + popN (x / 256) k := by
  rw [popN_add x 8 k]
  unfold p8
  rw [show (256 : Nat) = 2 ^ 8 from rfl, popN_mod]
theorem pop_8 (x : Nat) : popN x 8 = p8 (x % 256) := (popN_mod x 8).symm
theorem pop64 (x : Nat) : popN x 64 = p8 (x % 256) + (p8 (x / 256 % 256) + (p8 (x / 256 / 256 % 256) + (p8 (x / 256 / 256 / 256 % 256) + (p8 (x / 256 / 256 / 256 / 256 % 256) + (p8 (x / 256 / 256 / 256 / 256 / 256 % 256) + (p8 (x / 256 / 256 / 256 / 256 / 256 / 256 % 256) + p8 (x / 256 / 256 / 256 / 256 / 256 / 256 / 256 % 256))))))) := by
  rw [show (64 : Nat) = 8 + 56 from rfl, pop_split, show (56 : Nat) = 8 + 48 from rfl, pop_split, show (48 : Nat) = 8 + 40 from rfl, pop_split, show (40 : Nat) = 8 + 32 from rfl, pop_split, show (32 : Nat) = 8 + 24 from rfl, pop_split, show (24 : Nat) = 8 + 16 from rfl, pop_split, show (16 : Nat) = 8 + 8 from rfl, pop_split, pop_8]
theorem p8_le (d : Nat) : p8 d ≤ 8 := popN_le d 8
theorem div_of {x a b B : Nat} (h : x = a + B * b) (ha : a < B) : x / B = b := by
  subst h
  rw [Nat.add_mul_div_left _ _ (by omega), Nat.div_eq_of_lt ha, Nat.zero_add]
theorem sum4 (q0 q1 q2 q3 q4 q5 q6 q7 : Nat) : q0 + 256 * (q1 + 256 * (q2 + 256 * (q3 + 256 * (q4 + 256 * (q5 + 256 * (q6 + 256 * q7)))))) + (q1 + 256 * (q2 + 256 * (q3 + 256 * (q4 + 256 * (q5 + 256 * (q6 + 256 * q7)))))) = ((q0 + q1) + 256 * (q1 + q2)) + 65536 * ((q2 + q3) + 256 * ((q3 + q4) + 256 * ((q4 + q5) + 256 * ((q5 + q6) + 256 * ((q6 + q7) + 256 * q7))))) := by omega
theorem sum5 (q0 q1 q2 q3 q4 q5 q6 q7 : Nat) : ((q0 + q1) + 256 * (q1 + q2)) + 65536 * ((q2 + q3) + 256 * ((q3 + q4) + 256 * ((q4 + q5) + 256 * ((q5 + q6) + 256 * ((q6 + q7) + 256 * q7))))) + ((q2 + q3) + 256 * ((q3 + q4) + 256 * ((q4 + q5) + 256 * ((q5 + q6) + 256 * ((q6 + q7) + 256 * q7))))) = ((q0 + q1 + q2 + q3) + 256 * ((q1 + q2 + q3 + q4) + 256 * ((q2 + q3 + q4 + q5) + 256 * (q3 + q4 + q5 + q6)))) + 4294967296 * ((q4 + q5 + q6 + q7) + 256 * ((q5 + q6 + q7) + 256 * ((q6 + q7) + 256 * q7))) := by omega
theorem sum6 (q0 q1 q2 q3 q4 q5 q6 q7 : Nat) : ((q0 + q1 + q2 + q3) + 256 * ((q1 + q2 + q3 + q4) + 256 * ((q2 + q3 + q4 + q5) + 256 * (q3 + q4 + q5 + q6)))) + 4294967296 * ((q4 + q5 + q6 + q7) + 256 * ((q5 + q6 + q7) + 256 * ((q6 + q7) + 256 * q7))) + ((q4 + q5 + q6 + q7) + 256 * ((q5 + q6 + q7) + 256 * ((q6 + q7) + 256 * q7))) = (q0 + (q1 + (q2 + (q3 + (q4 + (q5 + (q6 + q7))))))) + 128 * (2 * ((q1 + q2 + q3 + q4 + q5 + q6 + q7) + 256 * ((q2 + q3 + q4 + q5 + q6 + q7) + 256 * ((q3 + q4 + q5 + q6 + q7) + 256 * ((q4 + q5 + q6 + q7) + 256 * ((q5 + q6 + q7) + 256 * ((q6 + q7) + 256 * q7))))))) := by omega
theorem bnd6 {q0 q1 q2 q3 q4 q5 q6 q7 : Nat} (h0 : q0 ≤ 8) (h1 : q1 ≤ 8) (h2 : q2 ≤ 8) (h3 : q3 ≤ 8) (h4 : q4 ≤ 8) (h5 : q5 ≤ 8) (h6 : q6 ≤ 8) (h7 : q7 ≤ 8) : (q0 + (q1 + (q2 + (q3 + (q4 + (q5 + (q6 + q7))))))) + 128 * (2 * ((q1 + q2 + q3 + q4 + q5 + q6 + q7) + 256 * ((q2 + q3 + q4 + q5 + q6 + q7) + 256 * ((q3 + q4 + q5 + q6 + q7) + 256 * ((q4 + q5 + q6 + q7) + 256 * ((q5 + q6 + q7) + 256 * ((q6 + q7) + 256 * q7))))))) < 9223372036854775808 := by omega
theorem bnd5 {q0 q1 q2 q3 q4 q5 q6 q7 : Nat} (h0 : q0 ≤ 8) (h1 : q1 ≤ 8) (h2 : q2 ≤ 8) (h3 : q3 ≤ 8) (h4 : q4 ≤ 8) (h5 : q5 ≤ 8) (h6 : q6 ≤ 8) : (q0 + q1 + q2 + q3) + 256 * ((q1 + q2 + q3 + q4) + 256 * ((q2 + q3 + q4 + q5) + 256 * (q3 + q4 + q5 + q6))) < 4294967296 := by omega
theorem bnd4 {q0 q1 q2 : Nat} (h0 : q0 ≤ 8) (h1 : q1 ≤ 8) (h2 : q2 ≤ 8) : (q0 + q1) + 256 * (q1 + q2) < 65536 := by omega
theorem bndS {q0 q1 q2 q3 q4 q5 q6 q7 : Nat} (h0 : q0 ≤ 8) (h1 : q1 ≤ 8) (h2 : q2 ≤ 8) (h3 : q3 ≤ 8) (h4 : q4 ≤ 8) (h5 : q5 ≤ 8) (h6 : q6 ≤ 8) (h7 : q7 ≤ 8) : q0 + (q1 + (q2 + (q3 + (q4 + (q5 + (q6 + q7)))))) < 128 := by omega
/-- the last three sums -/
theorem pop_sums {q0 q1 q2 q3 q4 q5 q6 q7 x3 x4 x5 x6 : Nat} (h0 : q0 ≤ 8) (h1 : q1 ≤ 8) (h2 : q2 ≤ 8) (h3 : q3 ≤ 8) (h4 : q4 ≤ 8) (h5 : q5 ≤ 8) (h6 : q6 ≤ 8) (h7 : q7 ≤ 8)
    (e3 : x3 = q0 + 256 * (q1 + 256 * (q2 + 256 * (q3 + 256 * (q4 + 256 * (q5 + 256 * (q6 + 256 * q7)))))))
    (e4 : x4 = x3 + x3 / 256) (e5 : x5 = x4 + x4 / 65536) (e6 : x6 = x5 + x5 / 4294967296) :
    x6 % 128 = q0 + (q1 + (q2 + (q3 + (q4 + (q5 + (q6 + q7)))))) ∧ x3 < 9223372036854775808 ∧ x4 < 9223372036854775808 ∧ x5 < 9223372036854775808 ∧ x6 < 9223372036854775808 := by
  have l6 := bnd6 h0 h1 h2 h3 h4 h5 h6 h7
  have m34 : x3 ≤ x4 := by rw [e4]; exact Nat.le_add_right _ _
  have m45 : x4 ≤ x5 := by rw [e5]; exact Nat.le_add_right _ _
  have m56 : x5 ≤ x6 := by rw [e6]; exact Nat.le_add_right _ _
  have d3 : x3 / 256 = q1 + 256 * (q2 + 256 * (q3 + 256 * (q4 + 256 * (q5 + 256 * (q6 + 256 * q7))))) := div_of e3 (Nat.lt_of_le_of_lt h0 (by decide))
  rw [d3, e3, sum4] at e4
  have d4 := div_of e4 (bnd4 h0 h1 h2)
  rw [d4, e4, sum5] at e5
  have d5 := div_of e5 (bnd5 (q7 := q7) h0 h1 h2 h3 h4 h5 h6)
  rw [d5, e5, sum6] at e6
  rw [← e6] at l6
  refine ⟨?_, Nat.lt_of_le_of_lt (Nat.le_trans m34 (Nat.le_trans m45 m56)) l6, Nat.lt_of_le_of_lt (Nat.le_trans m45 m56) l6, Nat.lt_of_le_of_lt m56 l6, l6⟩
  rw [e6, Nat.add_mul_mod_self_left]
  exact Nat.mod_eq_of_lt (bndS h0 h1 h2 h3 h4 h5 h6 h7)
theorem Q8_eq (x : Nat) : Q8 x 8 = p8 (x % 256) + 256 * (p8 (x / 256 % 256) + 256 * (p8 (x / 256 / 256 % 256) + 256 * (p8 (x / 256 / 256 / 256 % 256) + 256 * (p8 (x / 256 / 256 / 256 / 256 % 256) + 256 * (p8 (x / 256 / 256 / 256 / 256 / 256 % 256) + 256 * (p8 (x / 256 / 256 / 256 / 256 / 256 / 256 % 256) + 256 * p8 (x / 256 / 256 / 256 / 256 / 256 / 256 / 256 % 256))))))) := by
  simp only [Q8, Nat.mul_zero, Nat.add_zero]
/-- the library's way -/
theorem pop_way (x : Nat) : ∃ x1 x2 x3 x4 x5 x6 : Nat, x1 = (x / 2 &&& 6148914691236517205) + (x &&& 6148914691236517205) ∧ x2 = (x1 / 4 &&& 3689348814741910323) + (x1 &&& 3689348814741910323) ∧ x3 = (x2 / 16 + x2) &&& 1085102592571150095 ∧
    x4 = x3 + x3 / 256 ∧ x5 = x4 + x4 / 65536 ∧ x6 = x5 + x5 / 4294967296 ∧ x6 % 128 = popN x 64 ∧ x3 < 9223372036854775808 ∧ x4 < 9223372036854775808 ∧ x5 < 9223372036854775808 ∧ x6 < 9223372036854775808 := by
  refine ⟨_, _, _, _, _, _, rfl, rfl, rfl, rfl, rfl, rfl, ?_⟩
  have ha : (x / 2 &&& 6148914691236517205) + (x &&& 6148914691236517205) = W1 x 8 := A1_eq 8 x
  have hb : (W1 x 8 / 4 &&& 3689348814741910323) + (W1 x 8 &&& 3689348814741910323) = W2 x 8 := B1_eq 8 x
  have hc : (W2 x 8 / 16 + W2 x 8) &&& 1085102592571150095 = Q8 x 8 := C1_eq 8 x
  rw [ha, hb, hc, pop64]
  exact pop_sums (p8_le _) (p8_le _) (p8_le _) (p8_le _) (p8_le _) (p8_le _) (p8_le _) (p8_le _) (Q8_eq x) rfl rfl rfl
theorem and_m1 (x : Nat) : (x / 2 &&& 6148914691236517205) + (x &&& 6148914691236517205) < 18446744073709551616 := by
  have h1 : x / 2 &&& 6148914691236517205 ≤ 6148914691236517205 := Nat.and_le_right
  have h2 : x &&& 6148914691236517205 ≤ 6148914691236517205 := Nat.and_le_right
  omega
theorem and_m2 (x : Nat) : (x / 4 &&& 3689348814741910323) + (x &&& 3689348814741910323) < 8446744073709551616 := by
  have h1 : x / 4 &&& 3689348814741910323 ≤ 3689348814741910323 := Nat.and_le_right
  have h2 : x &&& 3689348814741910323 ≤ 3689348814741910323 := Nat.and_le_right
  omega
end Go.Proofs.YtbhbhfplpbcfiaaGreatDoor
end

section
namespace Go.Proofs.YtbhbhfplpbcfiaaGreatDoor
open Go.RowKit Go.Sort
set_option linter.unusedSimpArgs false
set_option linter.unusedVariables false
theorem u64_in (x : Nat) (h : x < 18446744073709551616) : IntKind.u64.wrap (x : Int) = (x : Int) := by rw [IntKind.wrap_u64]; omega
theorem sum_and {x d m y : Nat} (e : y = (x / d &&& m) + (x &&& m)) (hx : x < 18446744073709551616) (hm : m < 18446744073709551616) (hy : y < 18446744073709551616) : IntKind.u64.wrap (bits .and .u64 ((x : Int) / (d : Int)) (m : Int) + bits .and .u64 (x : Int) (m : Int)) = (y : Int) := by
  rw [show ((x : Int) / (d : Int)) = ((x / d : Nat) : Int) from (Int.natCast_ediv x d).symm, u64_and_nat _ _ (Nat.lt_of_le_of_lt (Nat.div_le_self _ _) hx) hm, u64_and_nat _ _ hx hm, ← Int.natCast_add, ← e, u64_in _ hy]
theorem sum_sh {x d y : Nat} (e : y = x + x / d) (hy : y < 18446744073709551616) : IntKind.u64.wrap ((x : Int) + (x : Int) / (d : Int)) = (y : Int) := by
  rw [show ((x : Int) / (d : Int)) = ((x / d : Nat) : Int) from (Int.natCast_ediv x d).symm, ← Int.natCast_add, ← e, u64_in _ hy]
theorem and_sh {x d m y : Nat} (e : y = (x / d + x) &&& m) (hx : x / d + x < 18446744073709551616) (hm : m < 18446744073709551616) : bits .and .u64 (IntKind.u64.wrap ((x : Int) / (d : Int) + (x : Int))) (m : Int) = (y : Int) := by
  rw [show ((x : Int) / (d : Int)) = ((x / d : Nat) : Int) from (Int.natCast_ediv x d).symm, ← Int.natCast_add, u64_in _ hx, u64_and_nat _ _ hx hm, ← e]
theorem and_sh' {x d m y : Nat} (e : y = (x / d + x) &&& m) (hx : x / d + x < 18446744073709551616) (hm : m < 18446744073709551616) : bits .and .u64 ((x : Int) / (d : Int) + (x : Int)) (m : Int) = (y : Int) := by
  rw [show ((x : Int) / (d : Int)) = ((x / d : Nat) : Int) from (Int.natCast_ediv x d).symm, ← Int.natCast_add, u64_and_nat _ _ hx hm, ← e]
theorem and127 {x y : Nat} (e : x % 128 = y) (hx : x < 9223372036854775808) : bits .and .i64 (x : Int) 127 = (y : Int) := by
  rw [show (127 : Int) = ((127 : Nat) : Int) from rfl, i64_and_nat _ _ hx (by omega), ← e]
  congr 1
  exact Nat.and_two_pow_sub_one_eq_mod (n := 7) x
theorem i64_nat {x : Nat} (hx : x < 9223372036854775808) : IntKind.i64.wrap (x : Int) = (x : Int) := IntWalk.i64_in _ (by omega)
theorem w64_nat {x : Nat} (hx : x < 9223372036854775808) : wrap64 (x : Int) = (x : Int) := IntWalk.wrap64_in _ ⟨by omega, by omega⟩
end Go.Proofs.YtbhbhfplpbcfiaaGreatDoor
end

section
namespace Go.Proofs.YtbhbhfplpbcfiaaGreatDoor
open Go.RowKit Go.Sort
set_option linter.unusedSimpArgs false
set_option linter.unusedVariables false

theorem u64_bit (q k : Nat) (hq : q < 18446744073709551616) : bits .and .u64 ((q : Int) / 2 ^ k) 1 = if q.testBit k then 1 else 0 := by
  have h1 : ((q : Int) / 2 ^ k) = ((q / 2 ^ k : Nat) : Int) := by simp
  have h2 : q / 2 ^ k ≤ q := Nat.div_le_self _ _
  rw [h1, show (1 : Int) = ((1 : Nat) : Int) from rfl, u64_and_nat _ _ (by omega) (by omega), Nat.and_one_is_mod, Nat.testBit_eq_decide_div_mod_eq]
  rcases Nat.mod_two_eq_zero_or_one (q / 2 ^ k) with h | h <;> simp [h]
def hasB (m : Int) (ws : List Nat) (x : Int) : Bool := srightB m ws && decide (0 ≤ x ∧ x < (2 ^ m.toNat : Nat)) && bitAt ws x.toNat
set_option maxRecDepth 100000 in
set_option maxHeartbeats 8000000 in
theorem shas_any (m x : Int) (A : Option Addr) (len c : Nat) (ws : List Nat) (w : World) (h : SetArg w m A len c ws) :
    Calls Tryz.prog 44 #[setA m A len c, .int .i64 x] w fun e w' => e = .returned (.bool (hasB m ws x)) ∧ Below w.heap.size w w' := by
  have HR := Lib.hid (fun W' (h : SetArg W' m A len c ws) => sright_any m A len c ws W' h)
  obtain ⟨q, hq⟩ : ∃ q, hasB m ws x = q := ⟨_, rfl⟩
  rw [hq]
  unfold hasB at hq
  have HQ := Lib.hid hq
  clear hq
  have HLT := Lib.hid h.lt
  have HC : Hid (len ≤ 9223372036854775807) := Lib.hid (by have := Nat.le_trans h.hcap h.hmax; unfold maxLen at this; omega)
  have hc : srightB m ws = false ∨ (∃ n : Nat, m = n ∧ SOk n ws ∧ srightB m ws = true) := by
    cases hr : srightB m ws
    · exact .inl rfl
    · obtain ⟨n, rfl, ok⟩ := sright_nat h.lt hr
      exact .inr ⟨n, rfl, ok, rfl⟩
  rcases hc with hr | ⟨n, rfl, ok, hr⟩
  · rw [hr] at HR
    have HQ2 : Hid (q = false) := Lib.hid (by rw [← HQ.out, hr]; rfl)
    clear hr
    unfold setA at *
    obtain ⟨W0, hW0⟩ : ∃ W0, W0 = (w.alloc (.cells #[.int .i64 m, .slice A len c] 38)) := ⟨_, rfl⟩
    have hb0 : Below w.heap.size w W0 := by rw [hW0]; exact ((Below.refl _ _).alloc (by simp) (.cells #[.int .i64 m, .slice A len c] 38))
    have hv0 : SetVar W0 (w.heap.size) m A len c ws := by
      have := SetVar.new h
      rw [hW0]; exact this
    have HWW := Lib.hid hW0
    have HB := Lib.hid hb0
    have Va := Lib.hid hv0
    clear hb0 hv0 h 
    go_enter Tryz.func44, Tryz.ntmps44
    go_wp2_with fail
    rw [← HWW.out]
    clear hW0
    have kVa0 := Va.out.c0
    have kVa1 := Va.out.c1
    go_wp2_with fail
    refine (HR.out _ Va.out.arg).mono ?_
    rintro e x1 ⟨rfl, hb1⟩
    clear kVa0 kVa1
    have Va' := Lib.hid (Va.out.on hb1)
    clear Va
    have Va := Va'
    clear Va'
    have HB' := Lib.hid (HB.out.trans (hb1.mono HB.out.size))
    clear HB
    have HB := HB'
    clear HB'
    clear hb1
    have kVa0 := Va.out.c0
    have kVa1 := Va.out.c1
    go_wp2_with fail
    go_ret
    exact ⟨ret_bool HQ2.out.symm, HB.out⟩
  · rw [hr] at HR HQ
    have hn := ok.n16
    have hpw := wrap64_pow n (by omega)
    have hN := pow16 hn
    have hlen := h.hlen
    rw [Bool.true_and, Int.toNat_natCast] at HQ
    have hIX : ∀ y, y < 2 ^ n → y / 64 < len := fun y hy => by rw [← hlen, ok.len]; exact idx_lt hy
    generalize 2 ^ n = N at *
    clear hr ok hlen
    by_cases h0 : 0 ≤ x
    · by_cases h1 : x < N
      · obtain ⟨y, rfl⟩ := Int.eq_ofNat_of_zero_le h0
        have hix := hIX y (by omega)
        have HBT := Lib.hid (u64_bit (wat ws (y / 64)) (y % 64) (wat_lt HLT.out _))
        have HQ2 : Hid (bitAt ws y = q) := Lib.hid (by rw [← HQ.out, decide_eq_true ⟨h0, h1⟩, Bool.true_and, Int.toNat_natCast])
        obtain ⟨b1, off1, rfl, hb1, hword1⟩ := h.word (w' := w) (by omega)
        have HW := Lib.hid (fun W hW => hword1 W _ hW hix)
        clear hword1
        have hq1 : ((y : Int) / 64) = ((y / 64 : Nat) : Int) := by omega
        have hr1 : ((y : Int) % 64) = ((y % 64 : Nat) : Int) := by omega
        have hr64 : y % 64 < 64 := Nat.mod_lt _ (by omega)
        have HBE : Hid ((wat ws (y / 64)).testBit (y % 64) = q) := Lib.hid HQ2.out
        have hlc := HC.out
        unfold setA at *
        obtain ⟨W0, hW0⟩ : ∃ W0, W0 = (w.alloc (.cells #[.int .i64 n, .slice (some ⟨b1, off1, none⟩) len c] 38)) := ⟨_, rfl⟩
        have hb0 : Below w.heap.size w W0 := by rw [hW0]; exact ((Below.refl _ _).alloc (by simp) (.cells #[.int .i64 n, .slice (some ⟨b1, off1, none⟩) len c] 38))
        have hv0 : SetVar W0 (w.heap.size) n (some ⟨b1, off1, none⟩) len c ws := by
          have := SetVar.new h
          rw [hW0]; exact this
        have HWW := Lib.hid hW0
        have HB := Lib.hid hb0
        have Va := Lib.hid hv0
        clear hb0 hv0 h hIX
        go_enter Tryz.func44, Tryz.ntmps44
        go_wp2_with fail
        rw [← HWW.out]
        clear hW0
        have kVa0 := Va.out.c0
        have kVa1 := Va.out.c1
        go_wp2_with fail
        refine (HR.out _ Va.out.arg).mono ?_
        rintro e x1 ⟨rfl, hb1⟩
        clear kVa0 kVa1
        have Va' := Lib.hid (Va.out.on hb1)
        clear Va
        have Va := Va'
        clear Va'
        have HB' := Lib.hid (HB.out.trans (hb1.mono HB.out.size))
        clear HB
        have HB := HB'
        clear HB'
        clear hb1
        have kVa0 := Va.out.c0
        have kVa1 := Va.out.c1
        have hword := HW.out _ HB.out
        have hbt := HBT.out
        rw [HBE.out] at hbt
        generalize hqq : y / 64 = qq at *
        generalize y % 64 = r at *
        generalize wat ws qq = v at *
        clear hqq
        cases q
        all_goals
          simp only [Bool.false_eq_true, if_false, if_true] at hbt
          go_wp2_with fail
          go_ret
          exact ⟨rfl, HB.out⟩
      · have HQ2 : Hid (q = false) := Lib.hid (by rw [← HQ.out, decide_eq_false (by omega), Bool.false_and])
        clear hIX
        unfold setA at *
        obtain ⟨W0, hW0⟩ : ∃ W0, W0 = (w.alloc (.cells #[.int .i64 n, .slice A len c] 38)) := ⟨_, rfl⟩
        have hb0 : Below w.heap.size w W0 := by rw [hW0]; exact ((Below.refl _ _).alloc (by simp) (.cells #[.int .i64 n, .slice A len c] 38))
        have hv0 : SetVar W0 (w.heap.size) n A len c ws := by
          have := SetVar.new h
          rw [hW0]; exact this
        have HWW := Lib.hid hW0
        have HB := Lib.hid hb0
        have Va := Lib.hid hv0
        clear hb0 hv0 h 
        go_enter Tryz.func44, Tryz.ntmps44
        go_wp2_with fail
        rw [← HWW.out]
        clear hW0
        have kVa0 := Va.out.c0
        have kVa1 := Va.out.c1
        go_wp2_with fail
        refine (HR.out _ Va.out.arg).mono ?_
        rintro e x1 ⟨rfl, hb1⟩
        clear kVa0 kVa1
        have Va' := Lib.hid (Va.out.on hb1)
        clear Va
        have Va := Va'
        clear Va'
        have HB' := Lib.hid (HB.out.trans (hb1.mono HB.out.size))
        clear HB
        have HB := HB'
        clear HB'
        clear hb1
        have kVa0 := Va.out.c0
        have kVa1 := Va.out.c1
        go_wp2_with fail
        go_ret
        exact ⟨ret_bool HQ2.out.symm, HB.out⟩
    · have HQ2 : Hid (q = false) := Lib.hid (by rw [← HQ.out, decide_eq_false (by omega), Bool.false_and])
      clear hIX
      unfold setA at *
      obtain ⟨W0, hW0⟩ : ∃ W0, W0 = (w.alloc (.cells #[.int .i64 n, .slice A len c] 38)) := ⟨_, rfl⟩
      have hb0 : Below w.heap.size w W0 := by rw [hW0]; exact ((Below.refl _ _).alloc (by simp) (.cells #[.int .i64 n, .slice A len c] 38))
      have hv0 : SetVar W0 (w.heap.size) n A len c ws := by
        have := SetVar.new h
        rw [hW0]; exact this
      have HWW := Lib.hid hW0
      have HB := Lib.hid hb0
      have Va := Lib.hid hv0
      clear hb0 hv0 h 
      go_enter Tryz.func44, Tryz.ntmps44
      go_wp2_with fail
      rw [← HWW.out]
      clear hW0
      have kVa0 := Va.out.c0
      have kVa1 := Va.out.c1
      go_wp2_with fail
      refine (HR.out _ Va.out.arg).mono ?_
      rintro e x1 ⟨rfl, hb1⟩
      clear kVa0 kVa1
      have Va' := Lib.hid (Va.out.on hb1)
      clear Va
      have Va := Va'
      clear Va'
      have HB' := Lib.hid (HB.out.trans (hb1.mono HB.out.size))
      clear HB
      have HB := HB'
      clear HB'
      clear hb1
      have kVa0 := Va.out.c0
      have kVa1 := Va.out.c1
      go_wp2_with fail
      go_ret
      exact ⟨ret_bool HQ2.out.symm, HB.out⟩
def popSum (ws : List Nat) (k : Nat) : Nat := ((List.range k).map fun j => popN (wat ws j) 64).sum
theorem popSum_succ (ws : List Nat) (k : Nat) : popSum ws (k + 1) = popSum ws k + popN (wat ws k) 64 := by unfold popSum; rw [range_snoc, List.sum_append]; simp
theorem popSum_le (ws : List Nat) : ∀ k, popSum ws k ≤ 64 * k
  | 0 => by simp [popSum]
  | k + 1 => by rw [popSum_succ]; have := popSum_le ws k; have := popN_le (wat ws k) 64; omega
def countB (m : Int) (ws : List Nat) : Nat := if srightB m ws then popSum ws ws.length else 0
end Go.Proofs.YtbhbhfplpbcfiaaGreatDoor
end
