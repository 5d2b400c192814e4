/- Plain: a variable as 1 or 0, word by word. -/
import Derived.Test.YtdhfpnbpkbelmaaDoorSetRc
namespace Go.Proofs.YtdhfpnbpkbelmaaDoor
open Go.RowKit Go.Sort
set_option linter.unusedSimpArgs false
set_option linter.unusedVariables false

def clrN (k u : Nat) : Nat := k &&& (18446744073709551615 - 2 ^ u)
def withW (n v : Nat) (one : Bool) (ws : List Nat) (k : Nat) : Nat :=
  if 6 ≤ v then wat ws (if one then k ||| 2 ^ (v - 6) else clrN k (v - 6))
  else if one then (wat ws k &&& colN v) ||| (wat ws k &&& colN v) / 2 ^ 2 ^ v
  else ((wat ws k &&& (18446744073709551615 - colN v)) ||| (wat ws k &&& (18446744073709551615 - colN v)) * 2 ^ 2 ^ v % 18446744073709551616) &&& fullN n
theorem i64_andNot_nat (a b : Nat) (ha : a < 9223372036854775808) (hb : b < 9223372036854775808) : bits .andNot .i64 (a : Int) (b : Int) = ((a &&& (18446744073709551615 - b) : Nat) : Int) := by
  have hx : a &&& (18446744073709551615 - b) ≤ a := Nat.and_le_left
  show IntKind.i64.wrap ((BitVec.ofInt 64 (a : Int) &&& ~~~BitVec.ofInt 64 (b : Int)).toNat : Int) = _
  rw [BitVec.toNat_and, BitVec.toNat_not, ofInt_i64 a (by omega), ofInt_i64 b (by omega)]
  have e : 2 ^ 64 - 1 - b = 18446744073709551615 - b := by omega
  rw [e, wrap_i64_nat _ (by omega)]
theorem putV_same {x v b : Nat} (h : (x.testBit v).toNat = b) : putV x v b = x := by
  unfold putV
  have := bit_le x v
  rw [h] at *
  omega
theorem putV_up {x v : Nat} (h : x.testBit v = false) : putV x v 1 = x + 2 ^ v := by
  unfold putV; rw [h]; simp
theorem putV_down {x v : Nat} (h : x.testBit v = true) : putV x v 0 = x - 2 ^ v := by
  unfold putV; rw [h]; simp
theorem pow_le_of_bit {x v : Nat} (h : x.testBit v = true) : 2 ^ v ≤ x := by
  have := bit_le x v
  rw [h] at this
  simpa using this
theorem putV_bit (x v : Nat) (b : Bool) (j : Nat) : (putV x v b.toNat).testBit j = if j = v then b else x.testBit j := by
  by_cases hb : x.testBit v = b
  · rw [putV_same (by rw [hb])]
    split
    · rename_i h; rw [h, hb]
    · rfl
  · have key : ∀ y, y.testBit v = false → (y + 2 ^ v).testBit j = if j = v then true else y.testBit j := fun y hy => by
      have e : y + 2 ^ v = y ||| 2 ^ v := by
        have h1 := Nat.div_add_mod y (2 ^ v)
        apply Nat.eq_of_testBit_eq
        intro i
        rw [Nat.testBit_or, Nat.testBit_two_pow]
        rcases Nat.lt_trichotomy i v with h | h | h
        · rw [Nat.add_comm, Nat.testBit_two_pow_add_gt h, decide_eq_false (by omega), Bool.or_false]
        · subst h
          rw [Nat.add_comm, Nat.testBit_two_pow_add_eq, hy]
          simp
        · have hq : (y / 2 ^ v) % 2 = 0 := by
            have := bit_val y v
            rw [hy] at this
            simpa using this
          rw [decide_eq_false (by omega), Bool.or_false, Nat.testBit_eq_decide_div_mod_eq, Nat.testBit_eq_decide_div_mod_eq]
          have hi : 2 ^ i = 2 ^ v * 2 * 2 ^ (i - v - 1) := by rw [← Nat.pow_succ, ← Nat.pow_add]; congr 1; omega
          rw [hi, ← Nat.div_div_eq_div_mul, ← Nat.div_div_eq_div_mul, ← Nat.div_div_eq_div_mul, ← Nat.div_div_eq_div_mul, Nat.add_div_right _ (Nat.two_pow_pos v)]
          have : (y / 2 ^ v).succ / 2 = y / 2 ^ v / 2 := by omega
          rw [this]
      rw [e, testBit_or_pow]
      split
      · rename_i h; simp [h]
      · rename_i h; rw [decide_eq_false h, Bool.or_false]
    cases b
    · have hx : x.testBit v = true := by simpa using hb
      have hle := pow_le_of_bit hx
      obtain ⟨y, rfl⟩ := Nat.exists_eq_add_of_le' hle
      have hy : y.testBit v = false := by
        have := hx
        rw [Nat.add_comm, Nat.testBit_two_pow_add_eq] at this
        simpa using this
      rw [show false.toNat = 0 from rfl, putV_down hx, Nat.add_sub_cancel, key y hy]
      split
      · rename_i h; rw [h, hy]
      · rfl
    · have hx : x.testBit v = false := by simpa using hb
      rw [show true.toNat = 1 from rfl, putV_up hx, key x hx]
theorem putV_lt {n x v : Nat} (b : Bool) (hx : x < 2 ^ n) (hv : v < n) : putV x v b.toNat < 2 ^ n := by
  apply Nat.lt_pow_two_of_testBit
  intro j hj
  rw [putV_bit, if_neg (by omega)]
  exact Nat.testBit_lt_two_pow (Nat.lt_of_lt_of_le hx (Nat.pow_le_pow_right (by omega) hj))
theorem or_put (k u : Nat) : k ||| 2 ^ u = putV k u true.toNat := by
  apply Nat.eq_of_testBit_eq
  intro j
  rw [putV_bit, testBit_or_pow]
  split
  · rename_i h; simp [h]
  · rename_i h; rw [decide_eq_false h, Bool.or_false]
theorem clr_put (k u : Nat) (hk : k < 18446744073709551616) (hu : u < 64) : clrN k u = putV k u false.toNat := by
  have hp : 2 ^ u < 18446744073709551616 := (show 2 ^ u < 2 ^ 64 from Nat.pow_lt_pow_right (by omega) hu)
  apply Nat.eq_of_testBit_eq
  intro j
  unfold clrN
  rw [putV_bit, Nat.testBit_and]
  by_cases hj : j < 64
  · rw [not_bit hp hj, Nat.testBit_two_pow]
    split
    · rename_i h; simp [h]
    · rename_i h; rw [decide_eq_false (fun e => h e.symm)]; simp
  · have : k.testBit j = false := Nat.testBit_lt_two_pow (Nat.lt_of_lt_of_le hk (show 18446744073709551616 ≤ 2 ^ j from (show 2 ^ 64 ≤ 2 ^ j from Nat.pow_le_pow_right (by omega) (by omega))))
    rw [this]
    split
    · rename_i h; omega
    · rfl
theorem putV_div {x u b : Nat} : putV x (u + 6) b = 64 * putV (x / 64) u b + x % 64 := by
  unfold putV
  have h1 : x.testBit (u + 6) = (x / 64).testBit u := by rw [testBit_div x (u + 6) 6 (by omega)]; rfl
  have h2 := bit_le (x / 64) u
  have h3 : 2 ^ (u + 6) = 64 * 2 ^ u := by rw [Nat.pow_add, Nat.mul_comm]
  have h4 := Nat.div_add_mod x 64
  rw [h1, h3]
  generalize ((x / 64).testBit u).toNat = t at *
  generalize 2 ^ u = p at *
  have e1 : t * (64 * p) = 64 * (t * p) := by rw [Nat.mul_left_comm]
  have e2 : b * (64 * p) = 64 * (b * p) := by rw [Nat.mul_left_comm]
  rw [e1, e2]
  generalize t * p = tp at *
  generalize b * p = bp at *
  omega
theorem putV_mod {x v b : Nat} (hv : v < 6) : putV x v b = 64 * (x / 64) + putV (x % 64) v b := by
  unfold putV
  have h1 : (x % 64).testBit v = x.testBit v := by
    rw [show (64 : Nat) = 2 ^ 6 from rfl, Nat.testBit_mod_two_pow, decide_eq_true hv, Bool.true_and]
  have h2 := bit_le (x % 64) v
  have h4 := Nat.div_add_mod x 64
  rw [h1] at *
  generalize (x.testBit v).toNat * 2 ^ v = tp at *
  omega
theorem col_bit {v j : Nat} (hj : j < 64) : (colN v).testBit j = j.testBit v := by
  unfold colN
  rw [testBit_ofBits, decide_eq_true hj, Bool.true_and]
theorem col_lt (v : Nat) : colN v < 18446744073709551616 := ofBits_lt64 _ (Nat.le_refl _)
theorem add_bit (r v : Nat) : (r + 2 ^ v).testBit v = !r.testBit v := by rw [Nat.add_comm, Nat.testBit_two_pow_add_eq]
theorem sub_bit {r v : Nat} (h : 2 ^ v ≤ r) : (r - 2 ^ v).testBit v = !r.testBit v := by
  have := add_bit (r - 2 ^ v) v
  rw [Nat.sub_add_cancel h] at this
  rw [this, Bool.not_not]
theorem up_lt : ∀ (r : Fin 64) (v : Fin 6), r.val.testBit v.val = false → r.val + 2 ^ v.val < 64 := by decide +kernel
theorem big_bit {a j : Nat} (ha : a < 18446744073709551616) (hj : 64 ≤ j) : a.testBit j = false :=
  Nat.testBit_lt_two_pow (Nat.lt_of_lt_of_le ha (show 18446744073709551616 ≤ 2 ^ j from (show 2 ^ 64 ≤ 2 ^ j from Nat.pow_le_pow_right (by omega) hj)))
/-- within a word: the variable as 1 -/
theorem one_bit {a v r : Nat} (ha : a < 18446744073709551616) (hv : v < 6) (hr : r < 64) : ((a &&& colN v) ||| (a &&& colN v) / 2 ^ 2 ^ v).testBit r = a.testBit (putV r v true.toNat) := by
  rw [Nat.testBit_or, Nat.testBit_div_two_pow, Nat.testBit_and, Nat.testBit_and, col_bit hr]
  cases h : r.testBit v
  · rw [show true.toNat = 1 from rfl, putV_up h]
    have hl := up_lt ⟨r, hr⟩ ⟨v, hv⟩ h
    simp only at hl
    rw [col_bit hl, add_bit, h]
    simp
  · rw [putV_same (by rw [h])]
    by_cases hl : r + 2 ^ v < 64
    · rw [col_bit hl, add_bit, h]
      simp
    · rw [big_bit ha (j := r + 2 ^ v) (by omega)]
      simp
/-- within a word: the variable as 0 -/
theorem zero_bit {a v r : Nat} (ha : a < 18446744073709551616) (hv : v < 6) (hr : r < 64) : ((a &&& (18446744073709551615 - colN v)) ||| (a &&& (18446744073709551615 - colN v)) * 2 ^ 2 ^ v % 18446744073709551616).testBit r = a.testBit (putV r v false.toNat) := by
  have hc := col_lt v
  rw [Nat.testBit_or, show (18446744073709551616 : Nat) = 2 ^ 64 from rfl, Nat.testBit_mod_two_pow, decide_eq_true hr, Bool.true_and, Nat.testBit_mul_two_pow, Nat.testBit_and, Nat.testBit_and, not_bit hc hr, col_bit hr]
  cases h : r.testBit v
  · rw [putV_same (by rw [h])]
    by_cases hl : 2 ^ v ≤ r
    · rw [not_bit hc (Nat.lt_of_le_of_lt (Nat.sub_le _ _) hr), col_bit (Nat.lt_of_le_of_lt (Nat.sub_le _ _) hr), sub_bit hl, h]
      simp
    · rw [decide_eq_false (by omega)]
      simp
  · have hl := pow_le_of_bit h
    rw [show false.toNat = 0 from rfl, putV_down h, not_bit hc (Nat.lt_of_le_of_lt (Nat.sub_le _ _) hr), col_bit (Nat.lt_of_le_of_lt (Nat.sub_le _ _) hr), sub_bit hl, h]
    simp [hl]
theorem withW_lt {n v : Nat} {one : Bool} {ws : List Nat} (hlt : ∀ u ∈ ws, u < 18446744073709551616) (k : Nat) : withW n v one ws k < 18446744073709551616 := by
  unfold withW
  split
  · exact wat_lt hlt _
  · have h := wat_lt hlt k
    split
    · have h1 : wat ws k &&& colN v < 2 ^ 64 := Nat.lt_of_le_of_lt Nat.and_le_left h
      exact Nat.or_lt_two_pow h1 (Nat.lt_of_le_of_lt (Nat.div_le_self _ _) h1)
    · exact Nat.lt_of_le_of_lt Nat.and_le_right (fullN_lt n)
theorem with_ok {n v : Nat} {one : Bool} {ws : List Nat} (hok : SOk n ws) (hv : v < n) : SOk n ((List.range (wordsN n)).map (withW n v one ws)) := by
  refine SOk.made hok.n16 (fun k _ => withW_lt hok.lt k) (fun j h1 h2 => ?_)
  have hz : ∀ i, 2 ^ n ≤ i → (wat ws 0).testBit i = false := fun i hi => by
    by_cases h64 : i < 64
    · have := hok.hi i hi h64
      unfold bitAt at this
      rwa [show i / 64 = 0 by omega, Nat.mod_eq_of_lt h64] at this
    · exact big_bit (wat_lt hok.lt 0) (by omega)
  unfold withW
  split
  · rename_i h6
    exfalso
    have : 2 ^ 6 ≤ 2 ^ n := Nat.pow_le_pow_right (by omega) (by omega)
    omega
  · split
    · rw [Nat.testBit_or, Nat.testBit_div_two_pow, Nat.testBit_and, Nat.testBit_and, hz j h1, hz _ (Nat.le_trans h1 (Nat.le_add_right j (2 ^ v)))]
      simp
    · rw [Nat.testBit_and, fullN_bit n j h2, decide_eq_false (by omega), Bool.and_false]
theorem with_bit {n v : Nat} {one : Bool} {ws : List Nat} (hok : SOk n ws) (hv : v < n) {x : Nat} (hx : x < 2 ^ n) : bitAt ((List.range (wordsN n)).map (withW n v one ws)) x = bitAt ws (putV x v one.toNat) := by
  have hr : x % 64 < 64 := Nat.mod_lt _ (by omega)
  rw [bitAt_range (idx_lt hx)]
  unfold withW
  by_cases h6 : 6 ≤ v
  · rw [if_pos h6]
    obtain ⟨u, rfl⟩ := Nat.exists_eq_add_of_le' h6
    have hq : x / 64 < 18446744073709551616 := by have := pow16 hok.n16; omega
    rw [putV_div, Nat.add_sub_cancel]
    unfold bitAt
    rw [show (64 * putV (x / 64) u one.toNat + x % 64) / 64 = putV (x / 64) u one.toNat by omega, show (64 * putV (x / 64) u one.toNat + x % 64) % 64 = x % 64 by omega]
    cases one
    · rw [if_neg (by decide), clr_put _ _ hq (by have := hok.n16; omega)]; rfl
    · rw [if_pos rfl, or_put]; rfl
  · rw [if_neg h6]
    have hv6 : v < 6 := by omega
    have hpl := putV_lt (n := 6) (x := x % 64) (v := v) one (by omega) hv6
    rw [putV_mod hv6]
    unfold bitAt
    rw [show (64 * (x / 64) + putV (x % 64) v one.toNat) / 64 = x / 64 by omega, show (64 * (x / 64) + putV (x % 64) v one.toNat) % 64 = putV (x % 64) v one.toNat by omega]
    have ha := wat_lt hok.lt (x / 64)
    cases one
    · rw [if_neg (by decide), Nat.testBit_and, fullN_bit n _ hr, decide_eq_true (mod_lt_pow hx), Bool.and_true, zero_bit ha hv6 hr]; rfl
    · rw [if_pos rfl, one_bit ha hv6 hr]; rfl
theorem set_lt {n u k : Nat} (h6 : 6 ≤ n) (hk : k < wordsN n) (hu : u + 6 < n) : k ||| 2 ^ u < wordsN n := by
  rw [wordsN_big h6] at *
  exact Nat.or_lt_two_pow hk (Nat.pow_lt_pow_right (by omega) (by omega))
theorem clr_lt {n u k : Nat} (hk : k < wordsN n) : clrN k u < wordsN n := Nat.lt_of_le_of_lt Nat.and_le_left hk
/-- the table with a variable as 1 or 0 -/
def withT (t : List Bool) (v b : Nat) : List Bool := (List.range t.length).map fun x => tat t (putV x v b)
theorem withT_length (t : List Bool) (v b : Nat) : (withT t v b).length = t.length := by simp [withT]
theorem with_tab {n v : Nat} {one : Bool} {ws : List Nat} (hok : SOk n ws) (hv : v < n) (x : Nat) (hx : x < 2 ^ n) : bitAt ((List.range (wordsN n)).map (withW n v one ws)) x = (withT (tabS n ws) v one.toNat)[x]?.getD false := by
  rw [with_bit hok hv hx]
  unfold withT
  rw [List.getElem?_map, List.getElem?_range (by rw [tabS_length]; exact hx)]
  simp only [Option.map_some, Option.getD_some]
  rw [tat_tab (putV_lt one hx hv)]
end Go.Proofs.YtdhfpnbpkbelmaaDoor
