/- Plain: sets of assignments as words of 64 bits, and as tables. -/
import Derived.Test.YtdhfpnbpkbelmaaDoorRec
namespace Go.Proofs.YtdhfpnbpkbelmaaDoor
set_option linter.unusedSimpArgs false
set_option linter.unusedVariables false

/-- how many words -/
def wordsN (n : Nat) : Nat := max 1 (2 ^ n / 64)
/-- the bits of a word that may be set -/
def fullN (n : Nat) : Nat := if 6 ≤ n then 18446744073709551615 else 2 ^ 2 ^ n - 1
/-- is an assignment in it? -/
def bitAt (ws : List Nat) (x : Nat) : Bool := (ws[x / 64]?.getD 0).testBit (x % 64)
/-- the table -/
def tabS (n : Nat) (ws : List Nat) : List Bool := (List.range (2 ^ n)).map (bitAt ws)
/-- a number of its bits -/
def ofBits (f : Nat → Bool) : Nat → Nat
  | 0 => 0
  | m + 1 => ofBits f m + (if f m then 2 ^ m else 0)
theorem ofBits_lt (f : Nat → Bool) : ∀ m, ofBits f m < 2 ^ m
  | 0 => by simp [ofBits]
  | m + 1 => by
    have := ofBits_lt f m
    rw [ofBits, Nat.pow_succ]
    split <;> omega
theorem testBit_ofBits (f : Nat → Bool) (m : Nat) : ∀ j, (ofBits f m).testBit j = (decide (j < m) && f j) := by
  induction m with
  | zero => intro j; simp [ofBits]
  | succ m ih =>
    intro j
    have hlt := ofBits_lt f m
    rw [ofBits]
    by_cases hf : f m = true
    · rw [if_pos hf, Nat.add_comm]
      rcases Nat.lt_trichotomy j m with h | h | h
      · rw [Nat.testBit_two_pow_add_gt h, ih]
        simp [h, show j < m + 1 by omega]
      · subst h
        rw [Nat.testBit_two_pow_add_eq, ih]
        simp [hf]
      · rw [Nat.testBit_lt_two_pow (Nat.lt_of_lt_of_le (show 2 ^ m + ofBits f m < 2 ^ (m + 1) by rw [Nat.pow_succ]; omega) (Nat.pow_le_pow_right (by omega) (by omega)))]
        simp [show ¬ j < m + 1 by omega]
    · rw [if_neg hf, Nat.add_zero, ih]
      rcases Nat.lt_trichotomy j m with h | h | h
      · simp [h, show j < m + 1 by omega]
      · subst h; simp [hf]
      · simp [show ¬ j < m by omega, show ¬ j < m + 1 by omega]
/-- the words of a table -/
def packT (t : List Bool) : List Nat := (List.range ((t.length + 63) / 64)).map fun k => ofBits (fun j => t[64 * k + j]?.getD false) 64
theorem packT_length (t : List Bool) : (packT t).length = (t.length + 63) / 64 := by simp [packT]
theorem bitAt_pack (t : List Bool) (x : Nat) : bitAt (packT t) x = t[x]?.getD false := by
  unfold bitAt packT
  by_cases hx : x / 64 < (t.length + 63) / 64
  · rw [List.getElem?_map, List.getElem?_range hx]
    simp only [Option.map_some, Option.getD_some]
    rw [testBit_ofBits, decide_eq_true (Nat.mod_lt _ (by omega)), Bool.true_and, Nat.div_add_mod]
  · rw [List.getElem?_eq_none (by simpa using hx), List.getElem?_eq_none (by omega)]
    simp
theorem packT_lt (t : List Bool) : ∀ v ∈ packT t, v < 18446744073709551616 := fun v hv => by
  unfold packT at hv
  rw [List.mem_map] at hv
  obtain ⟨k, _, rfl⟩ := hv
  exact ofBits_lt _ 64
/-- a set that may be -/
structure SOk (n : Nat) (ws : List Nat) : Prop where
  n16 : n ≤ 16
  len : ws.length = wordsN n
  lt : ∀ v ∈ ws, v < 18446744073709551616
  hi : ∀ x, 2 ^ n ≤ x → x < 64 → bitAt ws x = false
theorem pow_split {n : Nat} (h : 6 ≤ n) : 2 ^ n = 64 * 2 ^ (n - 6) := by
  obtain ⟨m, rfl⟩ := Nat.exists_eq_add_of_le h
  rw [Nat.add_sub_cancel_left, Nat.pow_add]
theorem wordsN_big {n : Nat} (h : 6 ≤ n) : wordsN n = 2 ^ (n - 6) := by
  unfold wordsN
  rw [pow_split h, Nat.mul_div_cancel_left _ (by omega)]
  have := Nat.one_le_two_pow (n := n - 6)
  omega
theorem pow_lt64 {n : Nat} (h : ¬ 6 ≤ n) : 2 ^ n ≤ 32 := Nat.pow_le_pow_right (by omega) (show n ≤ 5 by omega)
theorem wordsN_small {n : Nat} (h : ¬ 6 ≤ n) : wordsN n = 1 := by
  unfold wordsN
  have := pow_lt64 h
  omega
theorem wordsN_ceil (n : Nat) : wordsN n = (2 ^ n + 63) / 64 := by
  by_cases h : 6 ≤ n
  · rw [wordsN_big h, pow_split h]; omega
  · rw [wordsN_small h]
    have := pow_lt64 h
    have := Nat.one_le_two_pow (n := n)
    omega
theorem wordsN_pos (n : Nat) : 1 ≤ wordsN n := by unfold wordsN; omega
theorem wordsN_le {n : Nat} (h : n ≤ 16) : wordsN n ≤ 1024 := by
  have : 2 ^ n ≤ 2 ^ 16 := Nat.pow_le_pow_right (by omega) h
  unfold wordsN; omega
theorem tabS_length (n : Nat) (ws : List Nat) : (tabS n ws).length = 2 ^ n := by simp [tabS]
theorem tabS_get (n : Nat) (ws : List Nat) (x : Nat) : (tabS n ws)[x]?.getD false = (decide (x < 2 ^ n) && bitAt ws x) := by
  unfold tabS
  by_cases h : x < 2 ^ n
  · rw [List.getElem?_map, List.getElem?_range h]; simp [h]
  · rw [List.getElem?_eq_none (by simpa using h)]; simp [h]
theorem SOk.pack {n : Nat} (hn : n ≤ 16) {t : List Bool} (ht : t.length = 2 ^ n) : SOk n (packT t) :=
  ⟨hn, by rw [packT_length, ht, wordsN_ceil], packT_lt t, fun x hx _ => by rw [bitAt_pack, List.getElem?_eq_none (by omega)]; rfl⟩
/-- two sets with the same assignments are the same -/
theorem SOk.ext {n : Nat} {a b : List Nat} (ha : SOk n a) (hb : SOk n b) (h : ∀ x, x < 2 ^ n → bitAt a x = bitAt b x) : a = b := by
  have hall : ∀ x, x < 64 * wordsN n → bitAt a x = bitAt b x := fun x hx => by
    by_cases h1 : x < 2 ^ n
    · exact h x h1
    · by_cases h6 : 6 ≤ n
      · rw [wordsN_big h6, ← pow_split h6] at hx; omega
      · rw [wordsN_small h6] at hx
        rw [ha.hi x (by omega) (by omega), hb.hi x (by omega) (by omega)]
  apply List.ext_getElem (by rw [ha.len, hb.len])
  intro k h1 h2
  apply Nat.eq_of_testBit_eq
  intro j
  by_cases hj : j < 64
  · have := hall (64 * k + j) (by rw [ha.len] at h1; omega)
    unfold bitAt at this
    rw [show (64 * k + j) / 64 = k by omega, show (64 * k + j) % 64 = j by omega, List.getElem?_eq_getElem h1, List.getElem?_eq_getElem h2] at this
    exact this
  · rw [Nat.testBit_lt_two_pow (Nat.lt_of_lt_of_le (ha.lt _ (List.getElem_mem h1)) (show 18446744073709551616 ≤ 2 ^ j from (show 2 ^ 64 ≤ 2 ^ j from Nat.pow_le_pow_right (by omega) (by omega)))),
      Nat.testBit_lt_two_pow (Nat.lt_of_lt_of_le (hb.lt _ (List.getElem_mem h2)) (show 18446744073709551616 ≤ 2 ^ j from (show 2 ^ 64 ≤ 2 ^ j from Nat.pow_le_pow_right (by omega) (by omega))))]
theorem SOk.pack_tab {n : Nat} {ws : List Nat} (h : SOk n ws) : packT (tabS n ws) = ws :=
  (SOk.pack h.n16 (tabS_length n ws)).ext h fun x hx => by rw [bitAt_pack, tabS_get, decide_eq_true hx, Bool.true_and]
theorem tab_pack {n : Nat} {t : List Bool} (ht : t.length = 2 ^ n) : tabS n (packT t) = t := by
  apply List.ext_getElem (by rw [tabS_length, ht])
  intro x h1 h2
  have h3 := tabS_get n (packT t) x
  rw [List.getElem?_eq_getElem h1, bitAt_pack, List.getElem?_eq_getElem h2] at h3
  simp only [Option.getD_some] at h3
  rw [h3, decide_eq_true (by rw [tabS_length] at h1; exact h1), Bool.true_and]
/-- a set of its bits is that of a table -/
theorem SOk.eq_pack {n : Nat} {ws : List Nat} (h : SOk n ws) {t : List Bool} (ht : t.length = 2 ^ n) (hb : ∀ x, x < 2 ^ n → bitAt ws x = t[x]?.getD false) : ws = packT t :=
  h.ext (SOk.pack h.n16 ht) fun x hx => by rw [bitAt_pack, hb x hx]
theorem bitAt_map {f : Nat → Nat} {m k j : Nat} (hk : k < m) (hj : j < 64) : bitAt ((List.range m).map f) (64 * k + j) = (f k).testBit j := by
  unfold bitAt
  rw [show (64 * k + j) / 64 = k by omega, show (64 * k + j) % 64 = j by omega, List.getElem?_map, List.getElem?_range hk]
  rfl
theorem bitAt_range {f : Nat → Nat} {m x : Nat} (hx : x / 64 < m) : bitAt ((List.range m).map f) x = (f (x / 64)).testBit (x % 64) := by
  have := bitAt_map (f := f) (m := m) (k := x / 64) (j := x % 64) hx (Nat.mod_lt _ (by omega))
  rwa [Nat.div_add_mod] at this
theorem idx_lt {n x : Nat} (hx : x < 2 ^ n) : x / 64 < wordsN n := by
  rw [wordsN_ceil]; omega
/-- the word at a place -/
def wat (ws : List Nat) (k : Nat) : Nat := ws[k]?.getD 0
theorem wat_bit (ws : List Nat) (x : Nat) : (wat ws (x / 64)).testBit (x % 64) = bitAt ws x := rfl
theorem wat_lt {ws : List Nat} (h : ∀ v ∈ ws, v < 18446744073709551616) (k : Nat) : wat ws k < 18446744073709551616 := by
  unfold wat
  by_cases hk : k < ws.length
  · rw [List.getElem?_eq_getElem hk]; exact h _ (List.getElem_mem hk)
  · rw [List.getElem?_eq_none (by omega)]; simp
theorem range_wat {ws : List Nat} {m : Nat} (h : ws.length = m) : (List.range m).map (wat ws) = ws := by
  apply List.ext_getElem (by simp [h])
  intro i h1 h2
  simp [wat, List.getElem?_eq_getElem h2]
theorem fullN_lt (n : Nat) : fullN n < 18446744073709551616 := by
  unfold fullN
  split
  · omega
  · rename_i h
    have h1 := pow_lt64 h
    have : 2 ^ 2 ^ n ≤ 2 ^ 32 := Nat.pow_le_pow_right (by omega) h1
    omega
theorem fullN_bit (n j : Nat) (hj : j < 64) : (fullN n).testBit j = decide (j < 2 ^ n) := by
  unfold fullN
  split
  · rename_i h
    have : 2 ^ 6 ≤ 2 ^ n := Nat.pow_le_pow_right (by omega) h
    rw [decide_eq_true (by omega), show (18446744073709551615 : Nat) = 2 ^ 64 - 1 from rfl, Nat.testBit_two_pow_sub_one]
    simpa using hj
  · rw [Nat.testBit_two_pow_sub_one]
/-- a set made word by word -/
theorem SOk.made {n : Nat} (hn : n ≤ 16) {f : Nat → Nat} (h1 : ∀ k, k < wordsN n → f k < 18446744073709551616) (h2 : ∀ j, 2 ^ n ≤ j → j < 64 → (f 0).testBit j = false) : SOk n ((List.range (wordsN n)).map f) :=
  ⟨hn, by simp, fun v hv => by
    rw [List.mem_map] at hv
    obtain ⟨k, hk, rfl⟩ := hv
    exact h1 k (by simpa using hk), fun x hx hx2 => by
    have := bitAt_map (f := f) (m := wordsN n) (k := 0) (j := x) (wordsN_pos n) hx2
    rw [Nat.mul_zero, Nat.zero_add] at this
    rw [this]
    exact h2 x hx hx2⟩
/-- words so far -/
def filled (g : Nat → Nat) (m k : Nat) : List Nat := (List.range m).map fun i => if i < k then g i else 0
theorem filled_zero (g : Nat → Nat) (m : Nat) : filled g m 0 = List.replicate m 0 := by
  unfold filled
  apply List.ext_getElem (by simp)
  intro i h1 h2
  simp
theorem filled_all (g : Nat → Nat) (m : Nat) : filled g m m = (List.range m).map g := by
  unfold filled
  apply List.map_congr_left
  intro i hi
  rw [if_pos (by simpa using hi)]
theorem filled_set (g : Nat → Nat) (m k : Nat) (h : k < m) : (filled g m k).set k (g k) = filled g m (k + 1) := by
  unfold filled
  apply List.ext_getElem (by simp)
  intro i h1 h2
  simp only [List.getElem_set, List.getElem_map, List.getElem_range]
  by_cases he : k = i
  · subst he; simp
  · rw [if_neg he]
    by_cases hi : i < k
    · rw [if_pos hi, if_pos (by omega)]
    · rw [if_neg hi, if_neg (by omega)]
theorem filled_length (g : Nat → Nat) (m k : Nat) : (filled g m k).length = m := by simp [filled]
theorem filled_at (g : Nat → Nat) (m k i : Nat) (h : i < m) : (filled g m k)[i]? = some (if i < k then g i else 0) := by
  unfold filled
  rw [List.getElem?_map, List.getElem?_range h]
  rfl
end Go.Proofs.YtdhfpnbpkbelmaaDoor
