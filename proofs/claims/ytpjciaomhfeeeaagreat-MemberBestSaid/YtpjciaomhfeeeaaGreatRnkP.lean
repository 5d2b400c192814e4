/- Plain: how many members, the member at a place, how many stand ahead: the program's ways and the list of members. -/
import Derived.Test.YtpjciaomhfeeeaaGreatChn
namespace Go.Proofs.YtpjciaomhfeeeaaGreat
open Go Go.RowKit
set_option linter.unusedSimpArgs false
set_option linter.unusedVariables false

section
variable {cs : List (Option Rec)} {n f : Int}
theorem memR_shift (m : Nat) (x : Rst) (y : Nat) : memR cs n f m x y = (memR cs n f m x 0).map (y * 2 ^ m + ·) := by
  rw [memR_filter m x y 0, memR_filter m x 0 0, List.map_map]
  congr 1
  funext z
  simp
theorem memR_lt (m : Nat) (x : Rst) : ∀ z ∈ memR cs n f m x 0, z < 2 ^ m := by
  intro z hz
  rw [memR_filter m x 0 0] at hz
  obtain ⟨a, ha, rfl⟩ := List.mem_map.1 hz
  have := List.mem_range.1 (List.mem_filter.1 ha).1
  simpa using this
theorem memR_sorted (m : Nat) (x : Rst) : (memR cs n f m x 0).Pairwise (· < ·) := by
  rw [memR_filter m x 0 0]
  refine List.Pairwise.map _ (fun a b h => by simpa using h) ?_
  exact (List.pairwise_lt_range).filter _
/-- how many members what is left has -/
def cntR (cs : List (Option Rec)) (n f : Int) (m : Nat) (x : Rst) : Nat := (memR cs n f m x 0).length
theorem memR_len (m : Nat) (x : Rst) (y : Nat) : (memR cs n f m x y).length = cntR cs n f m x := by rw [memR_shift, List.length_map]; rfl
theorem cntR_zero (x : Rst) : cntR cs n f 0 x = if x.inn then 1 else 0 := by unfold cntR; rw [memR]; split <;> rfl
theorem cntR_succ (m : Nat) (x : Rst) : cntR cs n f (m + 1) x = if x.inn then cntR cs n f m (halfR cs n f x false) + cntR cs n f m (halfR cs n f x true) else 0 := by
  unfold cntR
  rw [memR]
  split
  · rw [List.length_append, memR_len, memR_len]; rfl
  · rfl
theorem cntR_out {m : Nat} {x : Rst} (h : x.inn = false) : cntR cs n f m x = 0 := by
  cases m with
  | zero => rw [cntR_zero, h]; rfl
  | succ m => rw [cntR_succ, h]; rfl
theorem cntR_le (m : Nat) : ∀ x, cntR cs n f m x ≤ 2 ^ m := by
  induction m with
  | zero => intro x; rw [cntR_zero]; split <;> simp
  | succ m ih =>
    intro x
    rw [cntR_succ, Nat.pow_succ]
    split
    · have := ih (halfR cs n f x false); have := ih (halfR cs n f x true); omega
    · omega
theorem inn_of_cnt {m : Nat} {x : Rst} {k : Nat} (h : k < cntR cs n f m x) : x.inn = true := by
  cases hx : x.inn with
  | true => rfl
  | false => rw [cntR_out hx] at h; omega
/-- the member at a place -/
def nthR (cs : List (Option Rec)) (n f : Int) : Nat → Rst → Nat → Nat → Nat
  | 0, _, _, y => y
  | m + 1, x, k, y => if k < cntR cs n f m (halfR cs n f x false) then nthR cs n f m (halfR cs n f x false) k (2 * y) else nthR cs n f m (halfR cs n f x true) (k - cntR cs n f m (halfR cs n f x false)) (2 * y + 1)
theorem nthR_get : ∀ (m : Nat) (x : Rst) (k y : Nat), k < cntR cs n f m x → (memR cs n f m x y)[k]? = some (nthR cs n f m x k y)
  | 0, x, k, y, h => by
    have hi := inn_of_cnt h
    rw [cntR_zero, if_pos hi] at h
    obtain rfl : k = 0 := by omega
    rw [memR, if_pos hi]; rfl
  | m + 1, x, k, y, h => by
    have hi := inn_of_cnt h
    rw [cntR_succ, if_pos hi] at h
    rw [memR, if_pos hi, nthR]
    by_cases hk : k < cntR cs n f m (halfR cs n f x false)
    · rw [if_pos hk, List.getElem?_append_left (by rw [memR_len]; exact hk)]
      exact nthR_get m _ k (2 * y) hk
    · rw [if_neg hk, List.getElem?_append_right (by rw [memR_len]; omega), memR_len]
      exact nthR_get m _ _ (2 * y + 1) (by omega)
theorem nthR_lt (m : Nat) (x : Rst) (k : Nat) (h : k < cntR cs n f m x) : nthR cs n f m x k 0 < 2 ^ m := memR_lt m x _ (List.mem_of_getElem? (nthR_get m x k 0 h))
/-- how many members stand ahead of a number -/
def rankR (cs : List (Option Rec)) (n f : Int) (b : Nat → Bool) : Nat → Rst → Nat
  | 0, _ => 0
  | m + 1, x => if x.inn then (if b m then cntR cs n f m (halfR cs n f x false) else 0) + rankR cs n f b m (halfR cs n f x (b m)) else 0
theorem filter_all {l : List Nat} {p : Nat → Bool} (h : ∀ z ∈ l, p z = true) : l.filter p = l := List.filter_eq_self.2 h
theorem rankR_eq (y : Nat) : ∀ (m : Nat) (x : Rst), rankR cs n f y.testBit m x = ((memR cs n f m x 0).filter (fun z => decide (z < y % 2 ^ m))).length
  | 0, x => by
    rw [rankR, List.filter_eq_nil_iff.2 (fun z _ => by rw [Nat.pow_zero, Nat.mod_one]; simp)]; rfl
  | m + 1, x => by
    have hp := Nat.two_pow_pos m
    have hmod : y % 2 ^ (m + 1) = (y.testBit m).toNat * 2 ^ m + y % 2 ^ m := by
      rw [Nat.pow_succ, Nat.mod_mul, Nat.testBit_eq_decide_div_mod_eq]
      rcases Nat.mod_two_eq_zero_or_one (y / 2 ^ m) with h | h <;> simp [h] <;> omega
    rw [rankR, memR]
    by_cases hi : x.inn = true
    · rw [if_pos hi, if_pos hi, List.filter_append, List.length_append]
      rw [memR_shift m _ (2 * 0 + 1), Nat.mul_zero, List.filter_map, List.length_map]
      have hl := memR_lt (cs := cs) (n := n) (f := f) m (halfR cs n f x false)
      have hy := Nat.mod_lt y hp
      rw [rankR_eq y m]
      cases hb : y.testBit m with
      | true =>
        rw [hb] at hmod
        simp only [Bool.toNat_true, Nat.one_mul] at hmod
        rw [if_pos rfl, hmod]
        rw [filter_all (l := memR cs n f m (halfR cs n f x false) 0) (fun z hz => by have := hl z hz; simp; omega)]
        congr 2
        refine List.filter_congr fun z _ => ?_
        simp only [Function.comp_apply]
        apply decide_eq_decide.2
        omega
      | false =>
        rw [hb] at hmod
        simp only [Bool.toNat_false, Nat.zero_mul, Nat.zero_add] at hmod
        rw [if_neg (by simp), hmod, Nat.zero_add]
        rw [(List.filter_eq_nil_iff (l := memR cs n f m (halfR cs n f x true) 0)).2 (fun z _ => by simp only [Function.comp_apply]; simp; omega)]
        rfl
    · rw [if_neg hi, if_neg hi]; rfl
theorem filter_at (l : List Nat) (h : l.Pairwise (· < ·)) : ∀ (k z : Nat), l[k]? = some z → (l.filter (fun x => decide (x < z))).length = k := by
  induction l with
  | nil => intro k z hk; simp at hk
  | cons a r ih =>
    intro k z hk
    obtain ⟨h1, h2⟩ := List.pairwise_cons.1 h
    cases k with
    | zero =>
      simp at hk
      subst hk
      rw [List.filter_cons_of_neg (by simp), List.filter_eq_nil_iff.2 (fun x hx => by have := h1 x hx; simp; omega)]
      rfl
    | succ k =>
      have hk' : r[k]? = some z := by simpa using hk
      have := h1 z (List.mem_of_getElem? hk')
      rw [List.filter_cons_of_pos (by simpa using this), List.length_cons, ih h2 k z hk']
/-- the rank of the member at a place is that place -/
theorem rank_nth (m : Nat) (x : Rst) (k : Nat) (h : k < cntR cs n f m x) : rankR cs n f (nthR cs n f m x k 0).testBit m x = k := by
  rw [rankR_eq, Nat.mod_eq_of_lt (nthR_lt m x k h)]
  exact filter_at _ (memR_sorted m x) k _ (nthR_get m x k 0 h)
end
theorem memR_by {cs : List (Option Rec)} {n : Nat} {f : Int} {e : Edg} (hc : Chain cs n) (hF : Fit cs f e 0) : memR cs n f n (atR cs e 0) 0 = byM cs n f e := by
  unfold byM
  rw [memR_filter n _ 0 0, Nat.zero_mul]
  have e0 : (fun x => 0 + x : Nat → Nat) = id := funext fun x => by simp
  rw [e0, List.map_id]
  refine List.filter_congr fun z _ => ?_
  rw [show ((0 : Int)) = ((0 : Nat) : Int) from rfl, inR_holds hc n 0 (n + 1) e (by simp) hF (by omega), Nat.zero_add]
end Go.Proofs.YtpjciaomhfeeeaaGreat
