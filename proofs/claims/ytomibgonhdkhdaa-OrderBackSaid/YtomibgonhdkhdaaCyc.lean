/- Plain: the parity of a permutation by its cycles is that of its pairs. -/
import Derived.Test.YtomibgonhdkhdaaInv
namespace Go.Proofs.Ytomibgonhdkhdaa
open Go.RowKit
set_option linter.unusedSimpArgs false
set_option linter.unusedVariables false

theorem inv_swap_flip {l : List Int} (h : l.Nodup) {k : Nat} (hk : k + 1 < l.length) : (inv (swapL l k) + inv l) % 2 = 1 := by
  have hp := List.pairwise_iff_getElem.1 h k (k + 1) (by omega) hk (by omega)
  have e1 : l[k]?.getD 0 = l[k]'(by omega) := by rw [List.getElem?_eq_getElem (by omega)]; rfl
  have e2 : l[k + 1]?.getD 0 = l[k + 1] := by rw [List.getElem?_eq_getElem hk]; rfl
  rcases Int.lt_trichotomy (l[k]?.getD 0) (l[k + 1]?.getD 0) with h1 | h1 | h1
  · have := inv_swap_up l k hk h1; omega
  · rw [e1, e2] at h1; exact absurd h1 hp
  · have := inv_swap_down l k hk h1; omega

/-- the numbers at a and b exchanged -/
def swapAt (l : List Int) (a b : Nat) : List Int := (l.set a (l[b]?.getD 0)).set b (l[a]?.getD 0)
theorem swapAt_length (l : List Int) (a b : Nat) : (swapAt l a b).length = l.length := by simp [swapAt]
theorem swapAt_get (l : List Int) (a b j : Nat) (ha : a < l.length) (hb : b < l.length) (hab : a ≠ b) : (swapAt l a b)[j]?.getD 0 = if j = a then l[b]?.getD 0 else if j = b then l[a]?.getD 0 else l[j]?.getD 0 := by
  unfold swapAt
  by_cases h1 : j = a
  · subst h1
    rw [List.getElem?_set_ne (by omega), List.getElem?_set_self ha, if_pos rfl]; rfl
  · by_cases h2 : j = b
    · subst h2
      rw [List.getElem?_set_self (by simpa using hb), if_neg h1, if_pos rfl]; rfl
    · rw [List.getElem?_set_ne (by omega), List.getElem?_set_ne (by omega), if_neg h1, if_neg h2]
theorem swapL_get (l : List Int) (k j : Nat) (hk : k + 1 < l.length) : (swapL l k)[j]?.getD 0 = if j = k then l[k + 1]?.getD 0 else if j = k + 1 then l[k]?.getD 0 else l[j]?.getD 0 :=
  swapAt_get l k (k + 1) j (by omega) hk (by omega)
theorem swapAt_flip : ∀ (d : Nat) (l : List Int) (a : Nat), l.Nodup → a + d + 1 < l.length → (inv (swapAt l a (a + d + 1)) + inv l) % 2 = 1 ∧ (swapAt l a (a + d + 1)).Perm l := by
  intro d
  induction d with
  | zero =>
    intro l a hn h
    exact ⟨inv_swap_flip hn h, swapL_perm l a h⟩
  | succ d ih =>
    intro l a hn h
    have hb : a + (d + 1) < l.length := by omega
    have h1 := inv_swap_flip hn (k := a + d + 1) (by omega)
    have p1 := swapL_perm l (a + d + 1) (by omega)
    have n1 : (swapL l (a + d + 1)).Nodup := p1.nodup_iff.2 hn
    have h2 := ih (swapL l (a + d + 1)) a n1 (by rw [swapL_length]; omega)
    have n2 := h2.2.nodup_iff.2 n1
    have hl2 : (swapAt (swapL l (a + d + 1)) a (a + d + 1)).length = l.length := by rw [swapAt_length, swapL_length]
    have h3 := inv_swap_flip n2 (k := a + d + 1) (by omega)
    have p3 := swapL_perm (swapAt (swapL l (a + d + 1)) a (a + d + 1)) (a + d + 1) (by omega)
    have e : swapL (swapAt (swapL l (a + d + 1)) a (a + d + 1)) (a + d + 1) = swapAt l a (a + (d + 1) + 1) := by
      apply list_eq_of
      · rw [swapL_length, hl2, swapAt_length]
      · intro j hj
        rw [swapL_length, hl2] at hj
        rw [swapL_get _ _ _ (by omega), swapAt_get _ _ _ _ (by rw [swapL_length]; omega) (by rw [swapL_length]; omega) (by omega), swapAt_get _ _ _ _ (by rw [swapL_length]; omega) (by rw [swapL_length]; omega) (by omega),
          swapAt_get _ _ _ _ (by rw [swapL_length]; omega) (by rw [swapL_length]; omega) (by omega), swapL_get _ _ _ (by omega), swapL_get _ _ _ (by omega), swapL_get _ _ _ (by omega), swapL_get _ _ _ (by omega), swapAt_get _ _ _ _ (by omega) (by omega) (by omega)]
        have e1 : a + (d + 1) + 1 = a + d + 1 + 1 := by omega
        rw [e1]
        by_cases c1 : j = a <;> by_cases c2 : j = a + d + 1 <;> by_cases c3 : j = a + d + 1 + 1 <;> simp [c1, c2, c3] <;> omega
    rw [e] at h3 p3
    exact ⟨by have := h2.1; omega, p3.trans (h2.2.trans p1)⟩
theorem swapAt_comm (l : List Int) (a b : Nat) (hab : a ≠ b) : swapAt l a b = swapAt l b a := by
  unfold swapAt
  rw [List.set_comm _ _ hab]
theorem swapAt_flip' {l : List Int} (h : l.Nodup) {a b : Nat} (ha : a < l.length) (hb : b < l.length) (hab : a ≠ b) : (inv (swapAt l a b) + inv l) % 2 = 1 ∧ (swapAt l a b).Perm l := by
  rcases Nat.lt_or_gt_of_ne hab with h1 | h1
  · have := swapAt_flip (b - a - 1) l a h (by omega)
    rwa [show a + (b - a - 1) + 1 = b by omega] at this
  · rw [swapAt_comm l a b hab]
    have := swapAt_flip (a - b - 1) l b h (by omega)
    rwa [show b + (a - b - 1) + 1 = a by omega] at this

/-- behind the cycles of all numbers below i: S tells which numbers were met -/
def Out (p : List Int) (i : Nat) (S : List Bool) (odd : Bool) : Prop :=
  S.length = p.length ∧ (∀ x, x < i → x < p.length → S[x]?.getD false = true) ∧ ∃ r : List Int, r.length = p.length ∧ IsPerm r ∧ (∀ x : Nat, x < p.length → S[x]?.getD false = true → r[x]?.getD 0 = (x : Int)) ∧
    (∀ x : Nat, x < p.length → S[x]?.getD false = false → r[x]?.getD 0 = p[x]?.getD 0) ∧ inv p % 2 = (inv r + odd.toNat) % 2
/-- in the middle of the cycle of i, behind c of its numbers, at k -/
def Inn (p : List Int) (i : Nat) (S : List Bool) (odd : Bool) (c k : Nat) : Prop :=
  S.length = p.length ∧ k < p.length ∧ (∀ x, x < i → x < p.length → S[x]?.getD false = true) ∧ ((c = 0 ∧ k = i ∧ Out p i S odd) ∨
    (1 ≤ c ∧ S[i]?.getD false = true ∧ ∃ r : List Int, r.length = p.length ∧ IsPerm r ∧ (∀ x : Nat, x < p.length → x ≠ i → S[x]?.getD false = true → r[x]?.getD 0 = (x : Int)) ∧ r[i]?.getD 0 = (k : Int) ∧
      (∀ x : Nat, x < p.length → S[x]?.getD false = false → r[x]?.getD 0 = p[x]?.getD 0) ∧ inv p % 2 = (inv r + odd.toNat + (c - 1)) % 2))

theorem Out.start {p : List Int} (hp : IsPerm p) : Out p 0 (List.replicate p.length false) false :=
  ⟨by simp, by omega, p, rfl, hp, fun x hx h => by simp [hx] at h, fun x _ _ => rfl, by simp⟩
theorem Out.inn {p : List Int} {i : Nat} {S : List Bool} {odd : Bool} (h : Out p i S odd) (hi : i < p.length) : Inn p i S odd 0 i := ⟨h.1, hi, h.2.1, .inl ⟨rfl, rfl, h⟩⟩

theorem ite_true_of {a b : Bool} {c : Prop} [Decidable c] (h : a = if c then true else b) (hb : ¬ c → b = true) : a = true := by
  rw [h]
  by_cases e : c
  · rw [if_pos e]
  · rw [if_neg e]; exact hb e
theorem Inn.step {p : List Int} {i : Nat} {S : List Bool} {odd : Bool} {c k : Nat} (hp : IsPerm p) (hi : i < p.length) (h : Inn p i S odd c k) (hk : S[k]?.getD false = false) : Inn p i (S.set k true) odd (c + 1) (p[k]?.getD 0).toNat := by
  obtain ⟨hl, hkl, hlt, h⟩ := h
  have hg := hp.get hkl
  have hset : ∀ x, x < p.length → (S.set k true)[x]?.getD false = if x = k then true else S[x]?.getD false := fun x hx => by
    by_cases e : x = k
    · subst e; rw [List.getElem?_set_self (by omega), if_pos rfl]; rfl
    · rw [List.getElem?_set_ne (by omega), if_neg e]
  refine ⟨by rw [List.length_set]; exact hl, by omega, fun x hx hxl => ite_true_of (hset x hxl) (fun _ => hlt x hx hxl), .inr ⟨by omega, ?_, ?_⟩⟩
  · rw [hset i hi]
    rcases h with ⟨_, rfl, _⟩ | ⟨_, h1, _⟩
    · rw [if_pos rfl]
    · by_cases e : i = k
      · rw [if_pos e]
      · rw [if_neg e]; exact h1
  · rcases h with ⟨rfl, rfl, _, _, r, hrl, hrp, hr1, hr2, hpar⟩ | ⟨hc, hsi, r, hrl, hrp, hr1, hri, hr2, hpar⟩
    · refine ⟨r, hrl, hrp, fun x hx hne hs => ?_, ?_, fun x hx hs => ?_, by simpa using hpar⟩
      · rw [hset x hx, if_neg hne] at hs
        exact hr1 x hx hs
      · rw [hr2 k hkl hk]; omega
      · rw [hset x hx] at hs
        split at hs
        · cases hs
        · exact hr2 x hx hs
    · have hik : i ≠ k := fun e => by subst e; rw [hsi] at hk; cases hk
      have hf := swapAt_flip' hrp.2.1 (a := i) (b := k) (by omega) (by omega) hik
      refine ⟨swapAt r i k, by rw [swapAt_length]; exact hrl, hrp.of_perm hf.2, fun x hx hne hs => ?_, ?_, fun x hx hs => ?_, ?_⟩
      · rw [swapAt_get r i k x (by omega) (by omega) hik, if_neg hne]
        rw [hset x hx] at hs
        split at hs
        · rename_i e; rw [if_pos e, hri, e]
        · rename_i e; rw [if_neg e]; exact hr1 x hx hne hs
      · rw [swapAt_get r i k i (by omega) (by omega) hik, if_pos rfl, hr2 k hkl hk]; omega
      · rw [hset x hx] at hs
        split at hs
        · cases hs
        · rename_i e
          have hxi : x ≠ i := fun e2 => by subst e2; rw [hsi] at hs; cases hs
          rw [swapAt_get r i k x (by omega) (by omega) hik, if_neg hxi, if_neg e]
          exact hr2 x hx hs
      · have := hf.1; omega

theorem Inn.stop {p : List Int} {i : Nat} {S : List Bool} {odd : Bool} {c k : Nat} (hp : IsPerm p) (hi : i < p.length) (h : Inn p i S odd c k) (hk : S[k]?.getD false = true) : Out p (i + 1) S (odd != (decide (0 < c) && decide (c % 2 = 0))) := by
  obtain ⟨hl, hkl, hlt, h⟩ := h
  rcases h with ⟨rfl, rfl, h1, h2, r, hrl, hrp, hr1, hr2, hpar⟩ | ⟨hc, hsi, r, hrl, hrp, hr1, hri, hr2, hpar⟩
  · refine ⟨hl, fun x hx hxl => ?_, r, hrl, hrp, hr1, hr2, by simpa using hpar⟩
    rcases Nat.lt_succ_iff_lt_or_eq.1 hx with h | h
    · exact hlt x h hxl
    · subst h; exact hk
  · have hki : k = i := by
      rcases Nat.decEq k i with h | h
      · have h1 := hr1 k hkl h hk
        exact hrp.inj (by omega) (by omega) (by rw [h1, hri])
      · exact h
    subst hki
    refine ⟨hl, fun x hx hxl => ?_, r, hrl, hrp, fun x hx hs => ?_, hr2, ?_⟩
    · rcases Nat.lt_succ_iff_lt_or_eq.1 hx with h | h
      · exact hlt x h hxl
      · subst h; exact hk
    · by_cases e : x = k
      · subst e; exact hri
      · exact hr1 x hx e hs
    · rw [hpar]
      have h0 : decide (0 < c) = true := by simp; omega
      rw [h0, Bool.true_and]
      by_cases he : c % 2 = 0
      · rw [decide_eq_true he]
        cases odd <;> simp <;> omega
      · rw [decide_eq_false he]
        cases odd <;> simp <;> omega

theorem Out.done {p : List Int} {S : List Bool} {odd : Bool} (hp : IsPerm p) (h : Out p p.length S odd) : odd = decide (inv p % 2 = 1) := by
  obtain ⟨hl, hs, r, hrl, hrp, hr1, hr2, hpar⟩ := h
  have : r = iota p.length := list_eq_of (by rw [hrl, iota_length]) (fun j hj => by
    rw [iota_get (by omega)]
    exact hr1 j (by omega) (hs j (by omega) (by omega)))
  rw [this, inv_iota] at hpar
  cases odd <;> simp at hpar <;> simp [hpar]

/-- how many are left -/
def unseen (S : List Bool) : Nat := S.countP (fun b => !b)
theorem unseen_set : ∀ (S : List Bool) (k : Nat), k < S.length → S[k]?.getD false = false → unseen (S.set k true) + 1 = unseen S := by
  intro S
  induction S with
  | nil => intro k h; simp at h
  | cons b r ih =>
    intro k h hk
    cases k with
    | zero => simp at hk; subst hk; simp [unseen]
    | succ k =>
      have := ih k (by simpa using h) (by simpa using hk)
      unfold unseen at *
      simp only [List.set_cons_succ, List.countP_cons]
      omega
end Go.Proofs.Ytomibgonhdkhdaa
