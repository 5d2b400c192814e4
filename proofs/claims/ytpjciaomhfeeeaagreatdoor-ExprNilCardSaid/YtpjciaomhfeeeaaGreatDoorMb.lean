/- Contracts of the document's small functions over lists of integers (ramageref02): At, Same, Right, Self, All. Plain facts on permutations of the numbers from 0 on; no program in sight. -/
import Derived.Test.YtpjciaomhfeeeaaGreatDoorMa
section
namespace Go.Proofs.YtpjciaomhfeeeaaGreatDoor
open Go.RowKit
set_option linter.unusedSimpArgs false
set_option linter.unusedVariables false

/-- where x stands first from place k on; -1: nowhere -/
def atL : List Int → Int → Nat → Int
  | [], _, _ => -1
  | z :: r, x, k => if z = x then k else atL r x (k + 1)

theorem atL_hit (zs : List Int) (x : Int) : ∀ (k s : Nat), k < zs.length → zs[k]?.getD 0 = x → (∀ j, j < k → zs[j]?.getD 0 ≠ x) → atL zs x s = (s + k : Nat) := by
  induction zs with
  | nil => intro k s h; simp at h
  | cons z r ih =>
    intro k s h hx hn
    unfold atL
    cases k with
    | zero => simp at hx; simp [hx]
    | succ k =>
      have h0 := hn 0 (by omega)
      simp at h0
      rw [if_neg h0, ih k (s + 1) (by simpa using h) (by simpa using hx) (fun j hj => by simpa using hn (j + 1) (by omega))]
      congr 1; omega
theorem atL_miss (zs : List Int) (x : Int) : ∀ s, (∀ j, j < zs.length → zs[j]?.getD 0 ≠ x) → atL zs x s = -1 := by
  induction zs with
  | nil => intro s _; rfl
  | cons z r ih =>
    intro s hn
    have h0 := hn 0 (by simp)
    simp at h0
    unfold atL
    rw [if_neg h0]
    exact ih _ (fun j hj => by simpa using hn (j + 1) (by simpa using hj))

theorem list_eq_of {xs ys : List Int} (hl : xs.length = ys.length) (h : ∀ j, j < xs.length → xs[j]?.getD 0 = ys[j]?.getD 0) : xs = ys := by
  apply List.ext_getElem hl
  intro i h1 h2
  have := h i h1
  rw [List.getElem?_eq_getElem h1, List.getElem?_eq_getElem h2] at this
  simpa using this

/-- a permutation -/
def IsPerm (zs : List Int) : Prop := zs.length ≤ 16 ∧ zs.Nodup ∧ ∀ z ∈ zs, 0 ≤ z ∧ z < zs.length
instance (zs : List Int) : Decidable (IsPerm zs) := by unfold IsPerm; exact inferInstance
end Go.Proofs.YtpjciaomhfeeeaaGreatDoor
end

section
namespace Go.Proofs.YtpjciaomhfeeeaaGreatDoor
open Go.RowKit
set_option linter.unusedSimpArgs false
set_option linter.unusedVariables false

theorem take_succ_getD (zs : List Int) (k : Nat) (h : k < zs.length) : zs.take (k + 1) = zs.take k ++ [zs[k]?.getD 0] := by
  rw [List.take_add_one, List.getElem?_eq_getElem h]; rfl
theorem getD_mem (zs : List Int) (k : Nat) (h : k < zs.length) : zs[k]?.getD 0 ∈ zs := by
  rw [List.getElem?_eq_getElem h]; exact List.getElem_mem h
theorem mem_getD {zs : List Int} {z : Int} (h : z ∈ zs) : ∃ k, k < zs.length ∧ zs[k]?.getD 0 = z := by
  obtain ⟨k, hk, rfl⟩ := List.getElem_of_mem h
  exact ⟨k, hk, by rw [List.getElem?_eq_getElem hk]; rfl⟩
theorem count_take_succ (zs : List Int) (a : Int) (k : Nat) (h : k < zs.length) :
    (zs.take (k + 1)).count a = (zs.take k).count a + if zs[k]?.getD 0 = a then 1 else 0 := by
  rw [take_succ_getD zs k h, List.count_append, List.count_singleton]
  simp only [beq_iff_eq]

/-- how many of the numbers below m are counted -/
def sumCount (zs : List Int) : Nat → Nat
  | 0 => 0
  | m + 1 => sumCount zs m + zs.count (m : Int)

theorem sumCount_eq (zs : List Int) : ∀ m : Nat, sumCount zs m = zs.countP (fun z => decide (0 ≤ z ∧ z < (m : Int))) := by
  intro m
  induction m with
  | zero =>
    simp only [sumCount]
    symm
    rw [List.countP_eq_zero]
    intro a _; simp
    try omega
  | succ m ih =>
    simp only [sumCount, ih]
    clear ih
    induction zs with
    | nil => rfl
    | cons z r ihr =>
      rw [List.countP_cons, List.countP_cons, List.count_cons, ← ihr]
      by_cases h1 : 0 ≤ z ∧ z < (m : Int)
      · have h2 : ¬ z = (m : Int) := by omega
        have h3 : 0 ≤ z ∧ z < ((m + 1 : Nat) : Int) := by omega
        simp only [h1, h3, decide_true, if_true, beq_iff_eq, h2, if_false]; omega
      · by_cases h2 : z = (m : Int)
        · have h3 : 0 ≤ z ∧ z < ((m + 1 : Nat) : Int) := by omega
          rw [decide_eq_true h3, decide_eq_false h1, if_pos rfl, if_neg (by simp), if_pos (by simp [h2])]; omega
        · have h3 : ¬ (0 ≤ z ∧ z < ((m + 1 : Nat) : Int)) := by omega
          simp only [h1, h3, decide_false, beq_iff_eq, h2, if_false, Bool.false_eq_true]; omega

theorem sumCount_ones (zs : List Int) : ∀ m : Nat, (∀ j : Nat, j < m → zs.count (j : Int) = 1) → sumCount zs m = m := by
  intro m
  induction m with
  | zero => intro _; rfl
  | succ m ih => intro h; simp only [sumCount]; rw [ih (fun j hj => h j (by omega)), h m (by omega)]

theorem sumCount_le (zs : List Int) (hn : zs.Nodup) : ∀ m : Nat, sumCount zs m ≤ m := by
  intro m
  induction m with
  | zero => exact Nat.le_refl _
  | succ m ih => simp only [sumCount]; have := List.nodup_iff_count.1 hn (m : Int); omega

theorem sumCount_lt (zs : List Int) (hn : zs.Nodup) : ∀ m j : Nat, j < m → zs.count (j : Int) = 0 → sumCount zs m < m := by
  intro m
  induction m with
  | zero => intro j h; omega
  | succ m ih =>
    intro j hj h0
    simp only [sumCount]
    rcases Nat.lt_succ_iff_lt_or_eq.1 hj with h | h
    · have := ih j h h0; have := List.nodup_iff_count.1 hn (m : Int); omega
    · subst h; have := sumCount_le zs hn j; omega

/-- all counts one: a permutation (but for its length) -/
theorem right_of_counts (zs : List Int) (h : ∀ j : Nat, j < zs.length → zs.count (j : Int) = 1) : zs.Nodup ∧ ∀ z ∈ zs, 0 ≤ z ∧ z < zs.length := by
  have h1 := sumCount_ones zs zs.length h
  rw [sumCount_eq, List.countP_eq_length] at h1
  have h2 : ∀ z ∈ zs, 0 ≤ z ∧ z < (zs.length : Int) := fun z hz => by simpa using h1 z hz
  refine ⟨List.nodup_iff_count.2 fun a => ?_, h2⟩
  by_cases ha : a ∈ zs
  · obtain ⟨g0, g1⟩ := h2 a ha
    have := h a.toNat (by omega)
    rw [show ((a.toNat : Nat) : Int) = a by omega] at this
    omega
  · rw [List.count_eq_zero.2 ha]; omega

theorem counts_of_right (zs : List Int) (hn : zs.Nodup) (hr : ∀ z ∈ zs, 0 ≤ z ∧ z < (zs.length : Int)) : ∀ j : Nat, j < zs.length → zs.count (j : Int) = 1 := by
  intro j hj
  have h1 : sumCount zs zs.length = zs.length := by
    rw [sumCount_eq, List.countP_eq_length]
    intro a ha; simpa using hr a ha
  have h2 := List.nodup_iff_count.1 hn (j : Int)
  rcases Nat.eq_zero_or_pos (zs.count (j : Int)) with h0 | h0
  · have := sumCount_lt zs hn zs.length j hj h0; omega
  · omega

theorem IsPerm.count {zs : List Int} (h : IsPerm zs) {j : Nat} (hj : j < zs.length) : zs.count (j : Int) = 1 := counts_of_right zs h.2.1 h.2.2 j hj
theorem IsPerm.mem {zs : List Int} (h : IsPerm zs) {j : Int} (h0 : 0 ≤ j) (hj : j < zs.length) : j ∈ zs := by
  have := h.count (j := j.toNat) (by omega)
  rw [show ((j.toNat : Nat) : Int) = j by omega] at this
  exact List.count_pos_iff.1 (by omega)
theorem IsPerm.get {zs : List Int} (h : IsPerm zs) {k : Nat} (hk : k < zs.length) : 0 ≤ zs[k]?.getD 0 ∧ zs[k]?.getD 0 < zs.length := h.2.2 _ (getD_mem zs k hk)

end Go.Proofs.YtpjciaomhfeeeaaGreatDoor
end
