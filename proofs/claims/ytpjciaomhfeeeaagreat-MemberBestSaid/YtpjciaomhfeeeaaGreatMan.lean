/- Plain: the member that costs least: the program's way, and that it is the first of the least. Plain: what an assignment costs by variables is what its number costs by levels. Plain: the first of the least of a list of costs. -/
import Derived.Test.YtpjciaomhfeeeaaGreatRnkP
import Derived.Test.YtpjciaomhfeeeaaGreatMai
import Derived.Test.YtpjciaomhfeeeaaGreatReach
section
namespace Go.Proofs.YtpjciaomhfeeeaaGreat
open Go Go.RowKit
set_option linter.unusedSimpArgs false
set_option linter.unusedVariables false

/-- what costs least of what is left -/
structure Fnd where
  inn : Bool
  cost : Int
  y : Nat
/-- what a number by levels costs: m levels, from l on -/
def costZ (ct : Nat → Int) : Nat → Nat → Nat → Int
  | 0, _, _ => 0
  | m + 1, l, z => (if z.testBit m then ct l else 0) + costZ ct m (l + 1) z
/-- the better one of two halves -/
def joinF (m : Nat) (c : Int) (lo hi : Fnd) : Fnd :=
  if !lo.inn || (hi.inn && decide (hi.cost + c < lo.cost)) then ⟨hi.inn, hi.cost + c, hi.y ||| 2 ^ m⟩ else lo
def bestR (cs : List (Option Rec)) (n f : Int) (ct : Nat → Int) : Nat → Nat → Rst → Fnd
  | 0, _, x => if x.inn then ⟨true, 0, 0⟩ else ⟨false, 0, 0⟩
  | m + 1, l, x => if x.inn then joinF m (ct l) (bestR cs n f ct m (l + 1) (halfR cs n f x false)) (bestR cs n f ct m (l + 1) (halfR cs n f x true)) else ⟨false, 0, 0⟩
theorem costZ_cong (ct : Nat → Int) : ∀ (m l z z' : Nat), (∀ j, j < m → z.testBit j = z'.testBit j) → costZ ct m l z = costZ ct m l z'
  | 0, _, _, _, _ => rfl
  | m + 1, l, z, z', h => by rw [costZ, costZ, h m (by omega), costZ_cong ct m (l + 1) z z' (fun j hj => h j (by omega))]
theorem costZ_lo (ct : Nat → Int) {m l z : Nat} (hz : z < 2 ^ m) : costZ ct (m + 1) l z = costZ ct m (l + 1) z := by
  rw [costZ, Nat.testBit_lt_two_pow hz]; simp
theorem costZ_hi (ct : Nat → Int) {m l z : Nat} (hz : z < 2 ^ m) : costZ ct (m + 1) l (2 ^ m + z) = ct l + costZ ct m (l + 1) z := by
  rw [costZ, Nat.testBit_two_pow_add_eq, Nat.testBit_lt_two_pow hz]
  simp only [Bool.not_false, if_true]
  congr 1
  exact costZ_cong ct m (l + 1) _ _ (fun j hj => Nat.testBit_two_pow_add_gt hj z)
theorem or_add {m y : Nat} (hy : y < 2 ^ m) : y ||| 2 ^ m = 2 ^ m + y := by
  apply Nat.eq_of_testBit_eq
  intro j
  rw [Nat.testBit_or, Nat.testBit_two_pow]
  rcases Nat.lt_trichotomy j m with h | h | h
  · rw [Nat.testBit_two_pow_add_gt h]; simp; omega
  · subst h; rw [Nat.testBit_two_pow_add_eq, Nat.testBit_lt_two_pow hy]; simp
  · have h1 : y.testBit j = false := Nat.testBit_lt_two_pow (Nat.lt_of_lt_of_le hy (Nat.pow_le_pow_right (by omega) (by omega)))
    have h2 : (2 ^ m + y).testBit j = false := Nat.testBit_lt_two_pow (Nat.lt_of_lt_of_le (show 2 ^ m + y < 2 ^ (m + 1) by rw [Nat.pow_succ]; omega) (Nat.pow_le_pow_right (by omega) (by omega)))
    rw [h1, h2]
    simp; omega
/-- b is the first of the least of a list -/
structure IsBest (L : List Nat) (c : Nat → Int) (b : Fnd) : Prop where
  inn : b.inn = !L.isEmpty
  mem : b.inn = true → b.y ∈ L
  cost : b.inn = true → b.cost = c b.y
  le : b.inn = true → ∀ z ∈ L, b.cost ≤ c z
  lt : b.inn = true → ∀ z ∈ L, z < b.y → b.cost < c z
section
variable {cs : List (Option Rec)} {n f : Int}
theorem bestR_is (ct : Nat → Int) : ∀ (m l : Nat) (x : Rst), IsBest (memR cs n f m x 0) (costZ ct m l) (bestR cs n f ct m l x)
  | 0, l, x => by
    rw [bestR, memR]
    cases hx : x.inn with
    | true =>
      exact ⟨rfl, fun _ => by simp, fun _ => rfl, fun _ z hz => by simp at hz; subst hz; exact Int.le_refl _, fun _ z hz h => by simp at hz; subst hz; exact absurd h (by simp)⟩
    | false =>
      exact ⟨rfl, fun h => (by cases h), fun h => (by cases h), fun h => (by cases h), fun h => (by cases h)⟩
  | m + 1, l, x => by
    rw [bestR, memR]
    cases hx : x.inn with
    | false =>
      exact ⟨rfl, fun h => (by cases h), fun h => (by cases h), fun h => (by cases h), fun h => (by cases h)⟩
    | true =>
      simp only [if_true]
      have A := bestR_is ct m (l + 1) (halfR cs n f x false)
      have B := bestR_is ct m (l + 1) (halfR cs n f x true)
      rw [Nat.mul_zero, Nat.zero_add, memR_shift m _ 1, Nat.one_mul]
      have la := memR_lt (cs := cs) (n := n) (f := f) m (halfR cs n f x false)
      have lb := memR_lt (cs := cs) (n := n) (f := f) m (halfR cs n f x true)
      generalize memR cs n f m (halfR cs n f x false) 0 = P at *
      generalize memR cs n f m (halfR cs n f x true) 0 = Q at *
      generalize bestR cs n f ct m (l + 1) (halfR cs n f x false) = p at *
      generalize bestR cs n f ct m (l + 1) (halfR cs n f x true) = q at *
      have ca : ∀ z ∈ P, costZ ct (m + 1) l z = costZ ct m (l + 1) z := fun z hz => costZ_lo ct (la z hz)
      have cb : ∀ z ∈ Q, costZ ct (m + 1) l (2 ^ m + z) = ct l + costZ ct m (l + 1) z := fun z hz => costZ_hi ct (lb z hz)
      have hemp : (!(P ++ Q.map (2 ^ m + ·)).isEmpty) = (p.inn || q.inn) := by
        rw [A.inn, B.inn]
        cases P <;> cases Q <;> rfl
      unfold joinF
      by_cases hc : (!p.inn || (q.inn && decide (q.cost + ct l < p.cost))) = true
      · rw [if_pos hc]
        have hq : q.inn = (p.inn || q.inn) := by
          cases hp : p.inn <;> cases hq : q.inn <;> simp [hp, hq] at hc ⊢
        refine ⟨by rw [hemp]; exact hq, fun h => ?_, fun h => ?_, fun h z hz => ?_, fun h z hz hlt => ?_⟩
        all_goals
          simp only at h
          have h1 := B.mem h
          have h2 := B.cost h
          have hy := or_add (lb _ h1)
        · simp only [hy]
          exact List.mem_append_right _ (List.mem_map.2 ⟨_, h1, rfl⟩)
        · simp only [hy]
          rw [cb _ h1, h2]; omega
        · simp only
          rcases List.mem_append.1 hz with hz | hz
          · rw [ca z hz]
            cases hp : p.inn with
            | false => rw [A.inn] at hp; cases P with
              | nil => cases hz
              | cons a r => simp at hp
            | true =>
              have := A.le hp z hz
              rw [hp, h] at hc
              simp at hc
              omega
          · obtain ⟨a, ha, rfl⟩ := List.mem_map.1 hz
            have := B.le h a ha
            rw [cb a ha]; omega
        · simp only [hy] at hlt
          simp only
          rcases List.mem_append.1 hz with hz | hz
          · rw [ca z hz]
            cases hp : p.inn with
            | false => rw [A.inn] at hp; cases P with
              | nil => cases hz
              | cons a r => simp at hp
            | true =>
              have := A.le hp z hz
              rw [hp, h] at hc
              simp at hc
              omega
          · obtain ⟨a, ha, rfl⟩ := List.mem_map.1 hz
            have := B.lt h a ha (by omega)
            rw [cb a ha]; omega
      · rw [if_neg hc]
        have hp : p.inn = true := by
          cases hp : p.inn with
          | true => rfl
          | false => rw [hp] at hc; simp at hc
        refine ⟨by rw [hemp, hp]; rfl, fun _ => List.mem_append_left _ (A.mem hp), fun _ => by rw [ca _ (A.mem hp)]; exact A.cost hp, fun _ z hz => ?_, fun _ z hz hlt => ?_⟩
        · rcases List.mem_append.1 hz with hz | hz
          · rw [ca z hz]; exact A.le hp z hz
          · obtain ⟨a, ha, rfl⟩ := List.mem_map.1 hz
            have hq : q.inn = true := by rw [B.inn]; cases Q with
              | nil => cases ha
              | cons b r => rfl
            have := B.le hq a ha
            rw [hp, hq] at hc
            simp at hc
            rw [cb a ha]; omega
        · rcases List.mem_append.1 hz with hz | hz
          · rw [ca z hz]; exact A.lt hp z hz hlt
          · obtain ⟨a, ha, rfl⟩ := List.mem_map.1 hz
            have := la _ (A.mem hp)
            omega
/-- two that are the first of the least are the same -/
theorem IsBest.unique {L : List Nat} {c : Nat → Int} {b : Fnd} (h : IsBest L c b) (hi : b.inn = true) {y : Nat} (hy : y ∈ L) (h1 : ∀ z ∈ L, c y ≤ c z) (h2 : ∀ z ∈ L, z < y → c y < c z) : b.y = y ∧ b.cost = c y := by
  have hm := h.mem hi
  have hc := h.cost hi
  rcases Nat.lt_trichotomy b.y y with hl | hl | hl
  · have a1 := h2 _ hm hl
    have a2 := h.le hi y hy
    omega
  · exact ⟨hl, by rw [hc, hl]⟩
  · have a1 := h.lt hi y hy hl
    have a2 := h1 _ hm
    omega
end
end Go.Proofs.YtpjciaomhfeeeaaGreat
end

section
namespace Go.Proofs.YtpjciaomhfeeeaaGreat
open Go Go.RowKit
set_option linter.unusedSimpArgs false
set_option linter.unusedVariables false

/-- a sum over a list -/
def sumL {α : Type} (g : α → Int) : List α → Int
  | [] => 0
  | a :: r => g a + sumL g r
theorem sumL_perm {α : Type} (g : α → Int) {l m : List α} (h : l.Perm m) : sumL g l = sumL g m := by
  induction h with
  | nil => rfl
  | cons x _ ih => simp only [sumL, ih]
  | swap x y l => simp only [sumL]; omega
  | trans _ _ h1 h2 => rw [h1, h2]
theorem sumL_map {α β : Type} (g : β → Int) (k : α → β) : ∀ l : List α, sumL g (l.map k) = sumL (fun a => g (k a)) l
  | [] => rfl
  | a :: r => by simp only [List.map_cons, sumL, sumL_map g k r]
theorem sumL_cong {α : Type} {g g' : α → Int} : ∀ {l : List α}, (∀ a ∈ l, g a = g' a) → sumL g l = sumL g' l
  | [], _ => rfl
  | a :: r, h => by simp only [sumL]; rw [h a (by simp), sumL_cong (l := r) (fun b hb => h b (by simp [hb]))]
theorem sumL_snoc {α : Type} (g : α → Int) (a : α) : ∀ l : List α, sumL g (l ++ [a]) = sumL g l + g a
  | [] => by simp [sumL]
  | b :: r => by simp only [List.cons_append, sumL, sumL_snoc g a r]; omega
theorem perm_nodup {ps : List Int} (hp : IsPerm ps) : ps.Nodup := by
  rw [List.nodup_iff_pairwise_ne, List.pairwise_iff_getElem]
  intro i j hi hj hij he
  have := hp.inj (i := i) (j := j) hi hj (by rw [List.getElem?_eq_getElem hi, List.getElem?_eq_getElem hj]; simpa using he)
  omega
theorem range_perm {ps : List Int} (hp : IsPerm ps) : ((List.range ps.length).map fun v => ((v : Nat) : Int)).Perm ps := by
  refine perm_of_nodup _ _ ?_ (perm_nodup hp) fun x => ?_
  · rw [List.nodup_iff_pairwise_ne]
    refine List.Pairwise.map _ (fun a b h => ?_) (List.pairwise_lt_range)
    omega
  · constructor
    · intro hx
      obtain ⟨v, hv, rfl⟩ := List.mem_map.1 hx
      exact hp.mem (by omega) (by have := List.mem_range.1 hv; omega)
    · intro hx
      obtain ⟨k, hk, he⟩ := mem_getD hx
      have := hp.get (k := k) hk
      rw [he] at this
      exact List.mem_map.2 ⟨x.toNat, List.mem_range.2 (by omega), by omega⟩
/-- what an assignment costs, by variables -/
def costV (ks : List Int) (x : Nat) (k : Nat) : Int := sumL (fun v => if x.testBit v then ks[v]?.getD 0 else 0) (List.range k)
theorem costV_succ (ks : List Int) (x k : Nat) : costV ks x (k + 1) = costV ks x k + if x.testBit k then ks[k]?.getD 0 else 0 := by
  unfold costV
  rw [List.range_succ, sumL_snoc]
theorem costZ_sum (ct : Nat → Int) : ∀ (m l z : Nat), costZ ct m l z = sumL (fun j => if z.testBit (m - 1 - j) then ct (l + j) else 0) (List.range m)
  | 0, _, _ => rfl
  | m + 1, l, z => by
    rw [costZ, costZ_sum ct m (l + 1) z, List.range_succ_eq_map, sumL, sumL_map]
    simp only [Nat.add_zero, Nat.sub_zero, Nat.add_sub_cancel]
    congr 1
    refine sumL_cong fun j hj => ?_
    have := List.mem_range.1 hj
    rw [show m - 1 - j = m - (j + 1) by omega, show l + 1 + j = l + (j + 1) by omega]
theorem up_bit {ps : List Int} (hp : IsPerm ps) (z l : Nat) (hl : l < ps.length) : (upM ps ps.length z).testBit (ps[l]?.getD 0).toNat = z.testBit (ps.length - 1 - l) := by
  unfold upM
  rw [movedTo_testBit, Bool.eq_iff_iff, decide_eq_true_eq]
  have hg := hp.get (k := l) hl
  constructor
  · rintro ⟨j, h1, h2, h3⟩
    have hgj := hp.get (k := ps.length - 1 - j) (by omega)
    have := hp.inj (i := ps.length - 1 - j) (j := l) (by omega) hl (by omega)
    rw [show ps.length - 1 - l = j by omega]
    exact h2
  · intro h2
    exact ⟨ps.length - 1 - l, by omega, h2, by
      show (ps[ps.length - 1 - (ps.length - 1 - l)]?.getD 0).toNat = _
      rw [show ps.length - 1 - (ps.length - 1 - l) = l by omega]⟩
theorem cost_up {ps ks : List Int} (hp : IsPerm ps) (z : Nat) : costV ks (upM ps ps.length z) ps.length = costZ (fun l => ks[(ps[l]?.getD 0).toNat]?.getD 0) ps.length 0 z := by
  have h1 : costV ks (upM ps ps.length z) ps.length = sumL (fun v : Int => if (upM ps ps.length z).testBit v.toNat then ks[v.toNat]?.getD 0 else 0) ps := by
    rw [← sumL_perm _ (range_perm hp), sumL_map]
    unfold costV
    refine sumL_cong fun v _ => ?_
    simp
  have h2 : ps = (List.range ps.length).map fun l => ps[l]?.getD 0 := by
    apply List.ext_getElem (by simp)
    intro i h1 h2
    simp [List.getElem?_eq_getElem h1]
  have h3 : ∀ g : Int → Int, sumL g ps = sumL (fun l => g (ps[l]?.getD 0)) (List.range ps.length) := fun g => by
    conv => lhs; rw [h2]
    rw [sumL_map]
  rw [h1, costZ_sum, h3]
  refine sumL_cong fun l hl => ?_
  have := List.mem_range.1 hl
  rw [up_bit hp z l this, Nat.zero_add]
end Go.Proofs.YtpjciaomhfeeeaaGreat
end

section
namespace Go.Proofs.YtpjciaomhfeeeaaGreat
open Go Go.RowKit
set_option linter.unusedSimpArgs false
set_option linter.unusedVariables false

/-- the place of the first one that costs least of the first k + 1 -/
def bestI (c : Nat → Int) : Nat → Nat
  | 0 => 0
  | k + 1 => if c (k + 1) < c (bestI c k) then k + 1 else bestI c k
theorem bestI_le (c : Nat → Int) : ∀ k, bestI c k ≤ k
  | 0 => Nat.le_refl _
  | k + 1 => by
    have := bestI_le c k
    rw [bestI]
    split <;> omega
theorem bestI_is (c : Nat → Int) : ∀ k, (∀ j, j ≤ k → c (bestI c k) ≤ c j) ∧ ∀ j, j < bestI c k → c (bestI c k) < c j
  | 0 => ⟨fun j hj => by obtain rfl : j = 0 := by omega
                         exact Int.le_refl _, fun j hj => by simp [bestI] at hj⟩
  | k + 1 => by
    obtain ⟨h1, h2⟩ := bestI_is c k
    have h3 := bestI_le c k
    rw [bestI]
    split
    · rename_i hlt
      refine ⟨fun j hj => ?_, fun j hj => ?_⟩
      · rcases Nat.lt_or_ge k j with h | h
        · obtain rfl : j = k + 1 := by omega
          exact Int.le_refl _
        · have := h1 j h; omega
      · have := h1 j (by omega); omega
    · rename_i hlt
      refine ⟨fun j hj => ?_, h2⟩
      rcases Nat.lt_or_ge k j with h | h
      · obtain rfl : j = k + 1 := by omega
        omega
      · exact h1 j h
end Go.Proofs.YtpjciaomhfeeeaaGreat
end
