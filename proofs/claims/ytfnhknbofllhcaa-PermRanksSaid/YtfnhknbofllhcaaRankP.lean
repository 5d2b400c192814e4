/- Plain: ranks and places in order, there and back; each one's next. -/
import Derived.Test.YtfnhknbofllhcaaPermW
import Derived.Test.YtfnhknbofllhcaaPermOf
namespace Go.Proofs.Ytfnhknbofllhcaa
open Go.RowKit
set_option linter.unusedSimpArgs false
set_option linter.unusedVariables false

theorem getElem_cons_erase : ∀ (l : List Int) (q : Nat) (h : q < l.length), (l[q] :: l.eraseIdx q).Perm l := by
  intro l
  induction l with
  | nil => intro q h; simp at h
  | cons z t ih =>
    intro q h
    cases q with
    | zero => exact List.Perm.refl _
    | succ q =>
      have hq : q < t.length := by simpa using h
      simp only [List.getElem_cons_succ, List.eraseIdx_cons_succ]
      exact (List.Perm.swap z (t[q]'hq) _).trans ((ih q hq).cons z)

theorem countP_erase_sorted : ∀ (left : List Int) (q : Nat) (h : q < left.length), left.Pairwise (· < ·) → (left.eraseIdx q).countP (fun y => decide (y < left[q])) = q := by
  intro left
  induction left with
  | nil => intro q h; simp at h
  | cons z t ih =>
    intro q h hs
    rw [List.pairwise_cons] at hs
    cases q with
    | zero =>
      simp only [List.eraseIdx_cons_zero, List.getElem_cons_zero]
      rw [List.countP_eq_zero]
      intro y hy
      have := hs.1 y hy
      simp; omega
    | succ q =>
      have hq : q < t.length := by simpa using h
      simp only [List.eraseIdx_cons_succ, List.getElem_cons_succ, List.countP_cons]
      rw [ih q hq hs.2, if_pos (by simpa using hs.1 _ (List.getElem_mem hq))]

theorem unrank_rank : ∀ (p left : List Int), p.Perm left → left.Pairwise (· < ·) → unrank p.length left (rankL p) = p := by
  intro p
  induction p with
  | nil => intro left _ _; rfl
  | cons x r ih =>
    intro left hp hs
    have hx : x ∈ left := hp.mem_iff.1 (by simp)
    obtain ⟨q, hq, hqe⟩ := List.getElem_of_mem hx
    have hr : r.Perm (left.eraseIdx q) := by
      have h1 := hp.trans (getElem_cons_erase left q hq).symm
      rw [hqe] at h1
      exact h1.cons_inv
    have hc : r.countP (fun y => decide (y < x)) = q := by
      rw [hr.countP_eq, ← hqe]; exact countP_erase_sorted left q hq hs
    have hl := rankL_lt r
    have hd : (q * fact r.length + rankL r) / fact r.length = q := by
      rw [Nat.mul_comm, Nat.mul_add_div (by omega), Nat.div_eq_of_lt hl, Nat.add_zero]
    have hm : (q * fact r.length + rankL r) % fact r.length = rankL r := by
      rw [Nat.mul_comm, Nat.mul_add_mod, Nat.mod_eq_of_lt hl]
    simp only [List.length_cons, unrank, rankL, hc, hd, hm]
    rw [ih (left.eraseIdx q) hr (hs.eraseIdx q), List.getElem?_eq_getElem hq]
    simp [hqe]

theorem rank_unrank : ∀ (k : Nat) (left : List Int) (r : Nat), left.length = k → left.Pairwise (· < ·) → r < fact k → (unrank k left r).Perm left ∧ rankL (unrank k left r) = r := by
  intro k
  induction k with
  | zero =>
    intro left r hl _ hr
    have : left = [] := List.eq_nil_of_length_eq_zero hl
    subst this
    exact ⟨List.Perm.refl _, by simp [unrank, rankL, fact] at hr ⊢; omega⟩
  | succ k ih =>
    intro left r hl hs hr
    have hf := fact_pos k
    have hq : r / fact k < k + 1 := (Nat.div_lt_iff_lt_mul (by omega)).2 hr
    have hql : r / fact k < left.length := by omega
    have h1 := ih (left.eraseIdx (r / fact k)) (r % fact k) (by rw [List.length_eraseIdx, if_pos hql]; omega) (hs.eraseIdx _) (Nat.mod_lt _ (by omega))
    have hx : left[r / fact k]?.getD 0 = left[r / fact k] := by rw [List.getElem?_eq_getElem hql]; rfl
    simp only [unrank, hx]
    refine ⟨(h1.1.cons _).trans (getElem_cons_erase left _ hql), ?_⟩
    simp only [rankL]
    rw [h1.1.countP_eq, countP_erase_sorted left _ hql hs, h1.2, unrank_length]
    exact Nat.div_add_mod' r (fact k)

theorem iota_sorted (n : Nat) : (iota n).Pairwise (· < ·) := by
  unfold iota
  rw [List.pairwise_map]
  exact List.pairwise_lt_range.imp (fun h => by omega)
theorem mem_iota {n : Nat} {z : Int} : z ∈ iota n ↔ 0 ≤ z ∧ z < n := by
  unfold iota
  rw [List.mem_map]
  constructor
  · rintro ⟨i, hi, rfl⟩
    have := List.mem_range.1 hi
    omega
  · rintro ⟨h0, h1⟩
    exact ⟨z.toNat, List.mem_range.2 (by omega), by omega⟩
theorem iota_nodup (n : Nat) : (iota n).Nodup := (iota_sorted n).imp (fun h e => by omega)
theorem IsPerm.perm_iota {p : List Int} (h : IsPerm p) : p.Perm (iota p.length) := by
  rw [List.perm_iff_count]
  intro a
  rw [(iota_nodup _).count, h.2.1.count]
  by_cases ha : 0 ≤ a ∧ a < p.length
  · rw [if_pos (h.mem ha.1 ha.2), if_pos (mem_iota.2 ha)]
  · rw [if_neg (fun e => ha (h.2.2 a e)), if_neg (fun e => ha (mem_iota.1 e))]
theorem IsPerm.of_iota {p : List Int} (hl : p.length ≤ 16) (h : p.Perm (iota p.length)) : IsPerm p :=
  ⟨hl, h.nodup_iff.2 (iota_nodup _), fun z hz => mem_iota.1 (h.mem_iff.1 hz)⟩

theorem rankL_sorted : ∀ l : List Int, l.Pairwise (· < ·) → rankL l = 0 := by
  intro l
  induction l with
  | nil => intro _; rfl
  | cons x r ih =>
    intro h
    rw [List.pairwise_cons] at h
    simp only [rankL]
    rw [ih h.2, List.countP_eq_zero.2 (fun y hy => by have := h.1 y hy; simp; omega)]
    simp
theorem rankL_desc : ∀ l : List Int, l.Pairwise (· > ·) → rankL l + 1 = fact l.length := by
  intro l
  induction l with
  | nil => intro _; rfl
  | cons x r ih =>
    intro h
    rw [List.pairwise_cons] at h
    simp only [rankL, List.length_cons]
    have h1 := ih h.2
    have h2 : r.countP (fun y => decide (y < x)) = r.length := List.countP_eq_length.2 (fun y hy => by have := h.1 y hy; simp; omega)
    rw [h2, fact_succ, Nat.add_mul, Nat.one_mul]
    omega
theorem rankL_pre : ∀ (pre l l' : List Int), l.Perm l' → rankL (pre ++ l) + rankL l' = rankL (pre ++ l') + rankL l := by
  intro pre
  induction pre with
  | nil => intro l l' _; simp; omega
  | cons x r ih =>
    intro l l' h
    have h1 := ih l l' h
    have h2 : (r ++ l).Perm (r ++ l') := List.perm_append_left_iff r |>.2 h
    simp only [List.cons_append, rankL]
    rw [h2.countP_eq, h2.length_eq]
    omega

/-- what follows in order: up to place i as before, there the number at b, all others behind it rising -/
def nextL (p : List Int) (i b : Nat) : List Int := p.take i ++ p[b]?.getD 0 :: (iota p.length).filter (fun x => decide (¬ x ∈ p.take i ++ [p[b]?.getD 0]))
/-- where the next one parts: behind i all fall; b: the least greater one behind -/
def NextAt (p : List Int) (i b : Nat) : Prop :=
  i + 1 < p.length ∧ i < b ∧ b < p.length ∧ (∀ j, i < j → j + 1 < p.length → p[j + 1]?.getD 0 < p[j]?.getD 0) ∧ p[i]?.getD 0 < p[b]?.getD 0 ∧ (∀ j, i < j → j < p.length → p[i]?.getD 0 < p[j]?.getD 0 → p[b]?.getD 0 ≤ p[j]?.getD 0)

theorem desc_of {l : List Int} (h : ∀ j, j + 1 < l.length → l[j + 1]?.getD 0 < l[j]?.getD 0) : l.Pairwise (· > ·) := by
  have h2 : ∀ d i, i + d + 1 < l.length → l[i + d + 1]?.getD 0 < l[i]?.getD 0 := by
    intro d
    induction d with
    | zero => intro i hi; exact h i hi
    | succ d ih =>
      intro i hi
      have h3 := ih i (by omega)
      have h4 := h (i + d + 1) (by omega)
      have e : i + (d + 1) + 1 = i + d + 1 + 1 := by omega
      rw [e]; omega
  rw [List.pairwise_iff_getElem]
  intro i j hi hj hij
  have := h2 (j - i - 1) i (by omega)
  rw [show i + (j - i - 1) + 1 = j by omega, List.getElem?_eq_getElem hi, List.getElem?_eq_getElem hj] at this
  simpa using this

theorem take_drop_at (p : List Int) (i : Nat) (h : i < p.length) : p = p.take i ++ p[i]?.getD 0 :: p.drop (i + 1) := by
  rw [← drop_cons p i h, List.take_append_drop]

theorem next_tail {p : List Int} (hp : IsPerm p) {i b : Nat} (h : NextAt p i b) :
    (p[b]?.getD 0 :: (iota p.length).filter (fun x => decide (¬ x ∈ p.take i ++ [p[b]?.getD 0]))).Perm (p[i]?.getD 0 :: p.drop (i + 1)) := by
  obtain ⟨h1, h2, h3, h4, h5, h6⟩ := h
  have hb : ¬ p[b]?.getD 0 ∈ p.take i := fun hm => by
    obtain ⟨k, hk, hke⟩ := mem_getD hm
    rw [List.length_take] at hk
    rw [List.getElem?_take, if_pos (by omega)] at hke
    have := hp.inj (by omega) h3 hke
    omega
  have hT : (p.take i ++ [p[b]?.getD 0]).Nodup := by
    rw [List.nodup_append]
    exact ⟨hp.2.1.sublist (List.take_sublist _ _), by simp, fun a ha c hc => by simp at hc; subst hc; rintro rfl; exact hb ha⟩
  have hTm : ∀ a, a ∈ p.take i ++ [p[b]?.getD 0] → a ∈ iota p.length := fun a ha => by
    rw [mem_iota]
    rcases List.mem_append.1 ha with h | h
    · exact hp.2.2 a (List.mem_of_mem_take h)
    · simp at h; subst h; exact hp.get h3
  have hall : ((p.take i ++ [p[b]?.getD 0]) ++ (iota p.length).filter (fun x => decide (¬ x ∈ p.take i ++ [p[b]?.getD 0]))).Perm (iota p.length) := by
    rw [List.perm_iff_count]
    intro a
    rw [List.count_append, hT.count, (iota_nodup _).count]
    by_cases ha : a ∈ p.take i ++ [p[b]?.getD 0]
    · rw [if_pos ha, if_pos (hTm a ha), List.count_eq_zero.2 (fun hm => by
        have := (List.mem_filter.1 hm).2
        simp only [decide_eq_true_eq] at this
        exact this ha)]
    · rw [if_neg ha, List.count_filter (by simpa using ha), (iota_nodup _).count, Nat.zero_add]
  have hpp := hall.trans hp.perm_iota.symm
  rw [List.append_assoc] at hpp
  have e := take_drop_at p i (by omega)
  have hpp2 : (p.take i ++ (p[b]?.getD 0 :: (iota p.length).filter (fun x => decide (¬ x ∈ p.take i ++ [p[b]?.getD 0])))).Perm (p.take i ++ p[i]?.getD 0 :: p.drop (i + 1)) := by
    rw [← e]; exact hpp
  exact (List.perm_append_left_iff _).1 hpp2

theorem next_perm {p : List Int} (hp : IsPerm p) {i b : Nat} (h : NextAt p i b) : IsPerm (nextL p i b) ∧ (nextL p i b).length = p.length := by
  have h1 := next_tail hp h
  have e := take_drop_at p i (by have := h.1; omega)
  have h2 : (nextL p i b).Perm p := by
    have h3 : (nextL p i b).Perm (p.take i ++ p[i]?.getD 0 :: p.drop (i + 1)) := (List.perm_append_left_iff _).2 h1
    rw [← e] at h3
    exact h3
  exact ⟨hp.of_perm h2, h2.length_eq⟩

theorem next_rank {p : List Int} (hp : IsPerm p) {i b : Nat} (h : NextAt p i b) : rankL (nextL p i b) = rankL p + 1 := by
  have h1 := next_tail hp h
  obtain ⟨g1, g2, g3, g4, g5, g6⟩ := h
  have e := take_drop_at p i (by omega)
  have h2 := rankL_pre (p.take i) _ _ h1
  rw [← e] at h2
  have hS : (p.drop (i + 1)).Pairwise (· > ·) := desc_of (fun j hj => by
    rw [List.length_drop] at hj
    rw [List.getElem?_drop, List.getElem?_drop]
    have := g4 (i + 1 + j) (by omega) (by omega)
    exact this)
  have hF : ((iota p.length).filter (fun x => decide (¬ x ∈ p.take i ++ [p[b]?.getD 0]))).Pairwise (· < ·) := (iota_sorted _).filter _
  generalize hFe : (iota p.length).filter (fun x => decide (¬ x ∈ p.take i ++ [p[b]?.getD 0])) = F at *
  have r1 := rankL_sorted F hF
  have r2 := rankL_desc (p.drop (i + 1)) hS
  have hlen : F.length = (p.drop (i + 1)).length := by have := h1.length_eq; simpa using this
  -- how many of the tail are less than the number that comes
  have c1 := h1.countP_eq (fun y => decide (y < p[b]?.getD 0))
  rw [List.countP_cons, List.countP_cons, if_neg (by simp), if_pos (by simpa using g5)] at c1
  have c2 : (p.drop (i + 1)).countP (fun y => decide (y < p[b]?.getD 0)) = (p.drop (i + 1)).countP (fun y => decide (y < p[i]?.getD 0)) := by
    apply List.countP_congr
    intro y hy
    obtain ⟨k, hk, hke⟩ := mem_getD hy
    rw [List.length_drop] at hk
    rw [List.getElem?_drop] at hke
    simp only [decide_eq_true_eq]
    constructor
    · intro h
      rcases Int.lt_trichotomy y (p[i]?.getD 0) with h3 | h3 | h3
      · exact h3
      · rw [← hke] at h3
        have := hp.inj (by omega) (by omega) h3
        omega
      · rw [← hke] at h3 h
        have := g6 (i + 1 + k) (by omega) (by omega) h3
        omega
    · intro h; omega
  have hn : rankL (p.take i ++ p[b]?.getD 0 :: F) + rankL (p[i]?.getD 0 :: p.drop (i + 1)) = rankL p + rankL (p[b]?.getD 0 :: F) := h2
  have e1 : rankL (p[b]?.getD 0 :: F) = F.countP (fun y => decide (y < p[b]?.getD 0)) * fact F.length + rankL F := rfl
  have e2 : rankL (p[i]?.getD 0 :: p.drop (i + 1)) = (p.drop (i + 1)).countP (fun y => decide (y < p[i]?.getD 0)) * fact (p.drop (i + 1)).length + rankL (p.drop (i + 1)) := rfl
  have e3 : F.countP (fun y => decide (y < p[b]?.getD 0)) = (p.drop (i + 1)).countP (fun y => decide (y < p[i]?.getD 0)) + 1 := by omega
  rw [e1, e2, e3, hlen, Nat.add_mul, Nat.one_mul, r1] at hn
  have hN : rankL (p.take i ++ p[b]?.getD 0 :: F) = rankL p + 1 := by omega
  unfold nextL
  rw [hFe]
  exact hN
end Go.Proofs.Ytfnhknbofllhcaa
