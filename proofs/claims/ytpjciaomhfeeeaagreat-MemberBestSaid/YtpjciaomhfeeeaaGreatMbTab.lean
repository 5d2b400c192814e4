/- Contracts: the document's tables of an edge by levels (17) and by variables (18), what may be asked (17, 18, 22). -/
import Derived.Test.YtpjciaomhfeeeaaGreatMai
import Derived.Test.YtpjciaomhfeeeaaGreatChn
namespace Go.Proofs.YtpjciaomhfeeeaaGreat
open Go.RowKit Go.Sort
set_option linter.unusedSimpArgs false
set_option linter.unusedVariables false

/-- a number by levels with its bits turned about: the k lowest -/
def revX (y n : Nat) : Nat → Nat
  | 0 => 0
  | k + 1 => revX y n k + (y / pow2 (n - 1 - k) % 2) * 2 ^ k
theorem revX_lt (y n : Nat) : ∀ k, revX y n k < 2 ^ k
  | 0 => by simp [revX]
  | k + 1 => by
    have h := revX_lt y n k
    have h2 : y / pow2 (n - 1 - k) % 2 ≤ 1 := by omega
    have h3 := Nat.mul_le_mul_right (2 ^ k) h2
    rw [revX, Nat.pow_succ]
    omega
theorem revX_bit (y n : Nat) : ∀ k j, (revX y n k).testBit j = (decide (j < k) && y.testBit (n - 1 - j))
  | 0, j => by simp [revX]
  | k + 1, j => by
    rw [revX, Nat.add_comm, Nat.mul_comm, Nat.testBit_two_pow_mul_add _ (revX_lt y n k)]
    by_cases h : j < k
    · rw [if_pos h, revX_bit y n k j]
      simp [h, show j < k + 1 by omega]
    · rw [if_neg h]
      by_cases h2 : j = k
      · subst h2
        rw [Nat.sub_self, testBit_pow2 y]
        rcases Nat.mod_two_eq_zero_or_one (y / pow2 (n - 1 - j)) with h3 | h3 <;> simp [h3]
      · rw [Nat.testBit_lt_two_pow (Nat.lt_of_lt_of_le (show y / pow2 (n - 1 - k) % 2 < 2 by omega) (show 2 ≤ 2 ^ (j - k) by
          have := Nat.pow_le_pow_right (n := 2) (by omega) (show 1 ≤ j - k by omega)
          simpa using this))]
        simp [show ¬ j < k + 1 by omega]
/-- a row filled so far -/
def mixL (new : List Bool) (N j : Nat) : List Bool := new.take j ++ List.replicate (N - j) false
theorem mixL_zero (new : List Bool) (N : Nat) : mixL new N 0 = List.replicate N false := by simp [mixL]
theorem mixL_all {new : List Bool} {N : Nat} (h : new.length = N) : mixL new N N = new := by
  unfold mixL; rw [List.take_of_length_le (by omega)]; simp
theorem mixL_length {new : List Bool} {N j : Nat} (h : new.length = N) (hj : j ≤ N) : (mixL new N j).length = N := by
  unfold mixL; simp; omega
theorem mixL_set {new : List Bool} {N j : Nat} (h : new.length = N) (hj : j < N) {x : Bool} (hx : new[j]?.getD false = x) : (mixL new N j).set j x = mixL new N (j + 1) := by
  subst hx
  apply List.ext_getElem
  · rw [List.length_set, mixL_length h (by omega), mixL_length h (by omega)]
  · intro i hi1 hi2
    rw [List.length_set, mixL_length h (by omega)] at hi1
    simp only [mixL, List.getElem_set, List.getElem_append, List.length_take, List.getElem_take, List.getElem_replicate, h]
    have hm : min j N = j := by omega
    have hm1 : min (j + 1) N = j + 1 := by omega
    simp only [hm, hm1]
    by_cases hji : j = i
    · subst hji
      rw [if_pos rfl, dif_pos (by omega), List.getElem?_eq_getElem (by omega)]; rfl
    · rw [if_neg hji]
      by_cases hlt : i < j
      · rw [dif_pos hlt, dif_pos (by omega)]
      · rw [dif_neg hlt, dif_neg (by omega)]
/-- the table by levels -/
def tabL (cs : List (Option Rec)) (n : Nat) (f : Int) (e : Edg) : List Bool := (List.range (2 ^ n)).map fun y => holdsD cs n f (revX y n n).testBit (n + 1) e 0
theorem tabL_length (cs : List (Option Rec)) (n : Nat) (f : Int) (e : Edg) : (tabL cs n f e).length = 2 ^ n := by simp [tabL]
theorem tabL_at {cs : List (Option Rec)} {n : Nat} {f : Int} {e : Edg} {y : Nat} (hy : y < 2 ^ n) : (tabL cs n f e)[y]?.getD false = holdsD cs n f (revX y n n).testBit (n + 1) e 0 := by
  unfold tabL; rw [List.getElem?_map, List.getElem?_range hy]; rfl
/-- the table by variables -/
def tabV (cs : List (Option Rec)) (n : Nat) (ps : List Int) (f : Int) (e : Edg) : List Bool := (List.range (2 ^ n)).map fun x => (tabL cs n f e)[rdown x ps]?.getD false
theorem tabV_length (cs : List (Option Rec)) (n : Nat) (ps : List Int) (f : Int) (e : Edg) : (tabV cs n ps f e).length = 2 ^ n := by simp [tabV]
theorem tabV_at {cs : List (Option Rec)} {n : Nat} {ps : List Int} {f : Int} {e : Edg} {x : Nat} (hx : x < 2 ^ n) : (tabV cs n ps f e)[x]?.getD false = (tabL cs n f e)[rdown x ps]?.getD false := by
  unfold tabV; rw [List.getElem?_map, List.getElem?_range hx]; rfl
/-- the members of a table, in order -/
def memV (t : List Bool) (ps : List Int) (n k : Nat) : List Int := ((List.range k).filter fun y => t[upM ps n y]?.getD false).map fun y => ((upM ps n y : Nat) : Int)
theorem memV_succ (t : List Bool) (ps : List Int) (n k : Nat) : memV t ps n (k + 1) = memV t ps n k ++ if t[upM ps n k]?.getD false then [((upM ps n k : Nat) : Int)] else [] := by
  unfold memV
  rw [List.range_succ, List.filter_append, List.map_append]
  congr 1
  cases h : t[upM ps n k]?.getD false <;> simp [h]
theorem memV_len (t : List Bool) (ps : List Int) (n k : Nat) : (memV t ps n k).length ≤ k := by
  unfold memV
  rw [List.length_map]
  exact Nat.le_trans (List.length_filter_le _ _) (by simp)
/-- the document's members are the program's -/
theorem mem_all {cs : List (Option Rec)} {n : Nat} {ps : List Int} {f : Int} {e : Edg} (hp : IsPerm ps) (hl : ps.length = n) (h : startC cs n ps.length f e = 0) (hc : Chain cs n) (hF : Fit cs f e 0) :
    memV (tabV cs n ps f e) ps n (2 ^ n) = (allM cs n ps f e).map fun x => ((x : Nat) : Int) := by
  rw [allM_by h hc hF]
  unfold memV byM
  rw [List.map_map]
  have e1 : (List.range (2 ^ n)).filter (fun y => (tabV cs n ps f e)[upM ps n y]?.getD false) = (List.range (2 ^ n)).filter (fun z => holdsD cs n f (fun k => z.testBit (n - 1 - k)) (n + 1) e 0) := by
    refine List.filter_congr fun z hz => ?_
    have hz := List.mem_range.1 hz
    have hu := upM_lt hp z
    rw [hl] at hu
    have hd := rdown_up hp z (by rw [hl]; exact hz)
    rw [hl] at hd
    rw [tabV_at hu, hd, tabL_at hz]
    refine holds_bits hc hF _ _ fun k hk => ?_
    rw [revX_bit]
    simp [hk]
  rw [e1]
  rfl
end Go.Proofs.YtpjciaomhfeeeaaGreat
