/- Plain facts on pairs that stand otherwise than in order, and on exchanges of neighbours. -/
import Derived.Test.YtomibgonhdkhdaaPermC
import Derived.Test.YtomibgonhdkhdaaPermU
namespace Go.Proofs.Ytomibgonhdkhdaa
open Go.RowKit
set_option linter.unusedSimpArgs false
set_option linter.unusedVariables false

/-- pairs that stand otherwise than in order -/
def inv : List Int → Nat
  | [] => 0
  | x :: r => r.countP (fun y => decide (y < x)) + inv r

theorem inv_append1 (l : List Int) (x : Int) : inv (l ++ [x]) = inv l + l.countP (fun y => decide (x < y)) := by
  induction l with
  | nil => rfl
  | cons z r ih =>
    simp only [List.cons_append, inv, ih, List.countP_append, List.countP_cons, List.countP_nil]
    by_cases h : x < z <;> simp [h] <;> omega

/-- pairs of the first m numbers, as they are counted -/
def pairsTo (zs : List Int) : Nat → Nat
  | 0 => 0
  | m + 1 => pairsTo zs m + (zs.take m).countP (fun y => decide (zs[m]?.getD 0 < y))
theorem pairsTo_eq (zs : List Int) : ∀ m, m ≤ zs.length → pairsTo zs m = inv (zs.take m) := by
  intro m
  induction m with
  | zero => intro _; rfl
  | succ m ih =>
    intro h
    rw [take_succ_getD zs m (by omega), inv_append1, ← ih (by omega)]; rfl

theorem swapL_cons (x : Int) (l : List Int) (k : Nat) : swapL (x :: l) (k + 1) = x :: swapL l k := by simp [swapL]
theorem swapL_zero (a b : Int) (r : List Int) : swapL (a :: b :: r) 0 = b :: a :: r := by simp [swapL]
theorem swapL_countP (p : Int → Bool) : ∀ (l : List Int) (k : Nat), k + 1 < l.length → (swapL l k).countP p = l.countP p := by
  intro l
  induction l with
  | nil => intro k h; simp at h
  | cons x r ih =>
    intro k h
    cases k with
    | zero =>
      cases r with
      | nil => simp at h
      | cons b r => rw [swapL_zero]; simp only [List.countP_cons]; omega
    | succ k => rw [swapL_cons, List.countP_cons, List.countP_cons, ih k (by simpa using h)]

theorem inv_swap_down : ∀ (l : List Int) (k : Nat), k + 1 < l.length → l[k + 1]?.getD 0 < l[k]?.getD 0 → inv (swapL l k) + 1 = inv l := by
  intro l
  induction l with
  | nil => intro k h; simp at h
  | cons x r ih =>
    intro k h hd
    cases k with
    | zero =>
      cases r with
      | nil => simp at h
      | cons b r =>
        rw [swapL_zero]
        simp at hd
        have h2 : ¬ x < b := by omega
        simp only [inv, List.countP_cons, hd, h2, decide_true, decide_false, if_true, if_false, Bool.false_eq_true]
        omega
    | succ k =>
      rw [swapL_cons]
      simp only [inv]
      have := ih k (by simpa using h) (by simpa using hd)
      rw [swapL_countP _ _ _ (by simpa using h)]
      omega
theorem inv_swap_up : ∀ (l : List Int) (k : Nat), k + 1 < l.length → l[k]?.getD 0 < l[k + 1]?.getD 0 → inv (swapL l k) = inv l + 1 := by
  intro l
  induction l with
  | nil => intro k h; simp at h
  | cons x r ih =>
    intro k h hd
    cases k with
    | zero =>
      cases r with
      | nil => simp at h
      | cons b r =>
        rw [swapL_zero]
        simp at hd
        have h2 : ¬ b < x := by omega
        simp only [inv, List.countP_cons, hd, h2, decide_true, decide_false, if_true, if_false, Bool.false_eq_true]
        omega
    | succ k =>
      rw [swapL_cons]
      simp only [inv]
      have := ih k (by simpa using h) (by simpa using hd)
      rw [swapL_countP _ _ _ (by simpa using h)]
      omega
theorem swapL_perm (l : List Int) (k : Nat) (h : k + 1 < l.length) : (swapL l k).Perm l := by
  rw [List.perm_iff_count]
  intro a
  exact swapL_countP _ l k h
theorem IsPerm.of_perm {a b : List Int} (h : IsPerm a) (hp : b.Perm a) : IsPerm b := by
  obtain ⟨h1, h2, h3⟩ := h
  refine ⟨by rw [hp.length_eq]; exact h1, hp.nodup_iff.2 h2, fun z hz => ?_⟩
  rw [hp.length_eq]
  exact h3 z (hp.mem_iff.1 hz)
theorem IsPerm.swap {l : List Int} (h : IsPerm l) {k : Nat} (hk : k + 1 < l.length) : IsPerm (swapL l k) := h.of_perm (swapL_perm l k hk)
theorem IsPerm.inj {l : List Int} (h : IsPerm l) {i j : Nat} (hi : i < l.length) (hj : j < l.length) (he : l[i]?.getD 0 = l[j]?.getD 0) : i = j := by
  rw [List.getElem?_eq_getElem hi, List.getElem?_eq_getElem hj] at he
  have hp := List.pairwise_iff_getElem.1 h.2.1
  rcases Nat.lt_trichotomy i j with h1 | h1 | h1
  · exact absurd he (hp i j hi hj h1)
  · exact h1
  · exact absurd he.symm (hp j i hj hi h1)
/-- a permutation without such pairs is 0, 1, .. -/
theorem sorted_of_inv (l : List Int) (h : inv l = 0) : ∀ i j, i < j → j < l.length → l[i]?.getD 0 ≤ l[j]?.getD 0 := by
  induction l with
  | nil => intro i j _ hj; simp at hj
  | cons x r ih =>
    simp only [inv] at h
    intro i j hij hj
    cases j with
    | zero => omega
    | succ j =>
      cases i with
      | zero =>
        have h0 : r.countP (fun y => decide (y < x)) = 0 := by omega
        rw [List.countP_eq_zero] at h0
        have := h0 _ (getD_mem r j (by simpa using hj))
        simp at this
        simpa using this
      | succ i => simpa using ih (by omega) i j (by omega) (by simpa using hj)
theorem iota_of_sorted (l : List Int) (hp : IsPerm l) (hs : ∀ i j, i < j → j < l.length → l[i]?.getD 0 ≤ l[j]?.getD 0) : l = iota l.length := by
  have hlt : ∀ i j, i < j → j < l.length → l[i]?.getD 0 < l[j]?.getD 0 := fun i j hij hj => by
    rcases Int.lt_or_eq_of_le (hs i j hij hj) with h | h
    · exact h
    · have := hp.inj (by omega) hj h; omega
  have hlo : ∀ i : Nat, i < l.length → (i : Int) ≤ l[i]?.getD 0 := by
    intro i
    induction i with
    | zero => intro h; exact (hp.get h).1
    | succ i ih => intro h; have := ih (by omega); have := hlt i (i + 1) (by omega) h; omega
  have hhi : ∀ d i : Nat, i + d + 1 = l.length → l[i]?.getD 0 ≤ (i : Int) := by
    intro d
    induction d with
    | zero => intro i h; have := (hp.get (k := i) (by omega)).2; omega
    | succ d ih => intro i h; have := ih (i + 1) (by omega); have := hlt i (i + 1) (by omega) (by omega); omega
  apply list_eq_of
  · rw [iota_length]
  · intro j hj
    rw [iota_get hj]
    have := hlo j hj
    have := hhi (l.length - 1 - j) j (by omega)
    omega
/-- otherwise two neighbours stand so -/
theorem descent (l : List Int) (hp : IsPerm l) (h : l ≠ iota l.length) : ∃ k, k + 1 < l.length ∧ l[k + 1]?.getD 0 < l[k]?.getD 0 := by
  rcases Classical.em (∃ k, k + 1 < l.length ∧ l[k + 1]?.getD 0 < l[k]?.getD 0) with h1 | h1
  · exact h1
  · exfalso
    apply h
    apply iota_of_sorted l hp
    intro i j hij hj
    obtain ⟨d, rfl⟩ : ∃ d, j = i + d := ⟨j - i, by omega⟩
    clear hij
    induction d with
    | zero => exact Int.le_refl _
    | succ d ih =>
      have h2 := ih (by omega)
      rcases Int.lt_or_le (l[i + (d + 1)]?.getD 0) (l[i + d]?.getD 0) with h3 | h3
      · exact absurd ⟨i + d, by omega, h3⟩ h1
      · omega
theorem inv_iota (n : Nat) : inv (iota n) = 0 := by
  induction n with
  | zero => rfl
  | succ n ih =>
    rw [iota_succ, inv_append1, ih]
    simp only [Nat.zero_add]
    rw [List.countP_eq_zero]
    intro a ha
    unfold iota at ha
    obtain ⟨i, hi, rfl⟩ := List.mem_map.1 ha
    have := List.mem_range.1 hi
    simp; omega
end Go.Proofs.Ytomibgonhdkhdaa
