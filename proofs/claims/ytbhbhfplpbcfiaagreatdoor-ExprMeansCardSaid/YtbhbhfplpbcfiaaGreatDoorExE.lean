/- Expressions: their tables; what isn't free plays no part. -/
import Derived.Test.YtbhbhfplpbcfiaaGreatDoorMq
import Derived.Test.YtbhbhfplpbcfiaaGreatDoorSetRuP
import Derived.Test.YtbhbhfplpbcfiaaGreatDoorMh
namespace Go.Proofs.YtbhbhfplpbcfiaaGreatDoor
set_option linter.unusedSimpArgs false
set_option linter.unusedVariables false

/-- the operation of an operator -/
def numOp (op : Nat) : Nat := if op = 38 then 8 else if op = 124 then 14 else if op = 94 then 6 else if op = 62 then 11 else 9
/-- the table of an expression, of n variables -/
def Ex.tabE (n : Nat) : Ex → List Bool
  | .const b => if b then (List.range (2 ^ n)).map fun _ => true else List.replicate (2 ^ n) false
  | .var v => (List.range (2 ^ n)).map fun x => x.testBit v
  | .not x => opT 3 (x.tabE n) (x.tabE n)
  | .pair op a b => opT (numOp op) (a.tabE n) (b.tabE n)
  | .bound each l x => quantT (exO each) (maskL l) (x.tabE n) n
theorem tabE_length (n : Nat) : ∀ (x : Ex), (x.tabE n).length = 2 ^ n
  | .const b => by cases b <;> simp [Ex.tabE]
  | .var v => by simp [Ex.tabE]
  | .not x => by rw [Ex.tabE, opT_length, tabE_length n x]
  | .pair op a b => by rw [Ex.tabE, opT_length, tabE_length n a]
  | .bound each l x => by rw [Ex.tabE, quantT_length, tabE_length n x]
/-- a variable plays no part -/
def Indep (n : Nat) (t : List Bool) (v : Nat) : Prop := t.length = 2 ^ n ∧ ∀ x, x < 2 ^ n → ∀ b c : Bool, tat t (putV x v b.toNat) = tat t (putV x v c.toNat)
theorem putV_twice (x v : Nat) (b c : Bool) : putV (putV x v b.toNat) v c.toNat = putV x v c.toNat := by
  apply Nat.eq_of_testBit_eq
  intro j
  rw [putV_bit, putV_bit, putV_bit]
  split <;> rfl
theorem putV_comm (x v w : Nat) (b c : Bool) (h : w ≠ v) : putV (putV x v b.toNat) w c.toNat = putV (putV x w c.toNat) v b.toNat := by
  apply Nat.eq_of_testBit_eq
  intro j
  rw [putV_bit, putV_bit, putV_bit, putV_bit]
  by_cases h1 : j = w
  · rw [if_pos h1, if_neg (by omega), if_pos h1]
  · rw [if_neg h1, if_neg h1]
theorem Indep.op {n : Nat} {t t' : List Bool} {v : Nat} (o : Nat) (hv : v < n) (h : Indep n t v) (h' : Indep n t' v) : Indep n (opT o t t') v :=
  ⟨by rw [opT_length, h.1], fun x hx b c => by
    rw [tat_op (by rw [h.1]; exact putV_lt b hx hv), tat_op (by rw [h.1]; exact putV_lt c hx hv), h.2 x hx b c, h'.2 x hx b c]⟩
theorem Indep.with_ {n : Nat} {t : List Bool} {v w : Nat} (e : Bool) (hv : v < n) (hw : w < n) (h : Indep n t v ∨ (w = v ∧ t.length = 2 ^ n)) : Indep n (withT t w e.toNat) v := by
  have hl : t.length = 2 ^ n := by rcases h with h | h; exact h.1; exact h.2
  refine ⟨by rw [withT_length, hl], fun x hx b c => ?_⟩
  rw [tat_with (by rw [hl]; exact putV_lt b hx hv), tat_with (by rw [hl]; exact putV_lt c hx hv)]
  by_cases hwv : w = v
  · subst hwv
    rw [putV_twice, putV_twice]
  · rcases h with h | h
    · rw [putV_comm _ _ _ _ _ hwv, putV_comm _ _ _ _ _ hwv]
      exact h.2 _ (putV_lt e hx hw) b c
    · exact absurd h.1 hwv
theorem Indep.quant {n : Nat} {t : List Bool} {v : Nat} (o vars : Nat) (hv : v < n) (ht : t.length = 2 ^ n) : ∀ k, k ≤ n → Indep n t v ∨ (vars.testBit v = true ∧ v < k) → Indep n (quantT o vars t k) v
  | 0, _, h => by
    rcases h with h | h
    · exact h
    · omega
  | k + 1, hk, h => by
    have hl : (quantT o vars t k).length = 2 ^ n := by rw [quantT_length, ht]
    rw [quantT]
    by_cases hb : vars.testBit k = true
    · rw [if_pos hb]
      have key : Indep n (quantT o vars t k) v ∨ (k = v ∧ (quantT o vars t k).length = 2 ^ n) := by
        by_cases hkv : k = v
        · exact .inr ⟨hkv, hl⟩
        · exact .inl (Indep.quant o vars hv ht k (by omega) (by
            rcases h with h | h
            · exact .inl h
            · exact .inr ⟨h.1, by omega⟩))
      exact Indep.op o hv (Indep.with_ false hv (by omega) key) (Indep.with_ true hv (by omega) key)
    · rw [if_neg hb]
      refine Indep.quant o vars hv ht k (by omega) ?_
      rcases h with h | h
      · exact .inl h
      · by_cases hkv : k = v
        · subst hkv; exact absurd h.1 hb
        · exact .inr ⟨h.1, by omega⟩
theorem cut_bit (a m v : Nat) : (cutN a m).testBit v = (a.testBit v && !m.testBit v) := by
  unfold cutN
  rw [Nat.testBit_xor, Nat.testBit_and]
  cases a.testBit v <;> cases m.testBit v <;> rfl
/-- what isn't free plays no part -/
theorem tabE_indep {n v : Nat} (hv : v < n) : ∀ (x : Ex), x.freeN.testBit v = false → Indep n (x.tabE n) v
  | .const d, _ => ⟨tabE_length n _, fun x hx b c => by
    have h1 := putV_lt b hx hv
    have h2 := putV_lt c hx hv
    cases d <;> simp [Ex.tabE, tat, List.getElem?_replicate, h1, h2]⟩
  | .var w, h => ⟨tabE_length n _, fun x hx b c => by
    have h1 := putV_lt b hx hv
    have h2 := putV_lt c hx hv
    have hne : w ≠ v := by
      rintro rfl
      rw [Ex.freeN, Nat.testBit_two_pow_self] at h
      cases h
    have e : ∀ y, y < 2 ^ n → tat (Ex.tabE n (.var w)) y = y.testBit w := fun y hy => by simp [Ex.tabE, tat, hy]
    rw [e _ h1, e _ h2, putV_bit, putV_bit, if_neg hne, if_neg hne]⟩
  | .not x, h => Indep.op 3 hv (tabE_indep hv x h) (tabE_indep hv x h)
  | .pair op a b, h => by
    rw [Ex.freeN, Nat.testBit_or, Bool.or_eq_false_iff] at h
    exact Indep.op _ hv (tabE_indep hv a h.1) (tabE_indep hv b h.2)
  | .bound each l x, h => by
    rw [Ex.freeN, cut_bit] at h
    refine Indep.quant _ _ hv (tabE_length n x) n (Nat.le_refl _) ?_
    cases hx : x.freeN.testBit v with
    | false => exact .inl (tabE_indep hv x hx)
    | true =>
      rw [hx] at h
      simp at h
      exact .inr ⟨h, hv⟩
theorem free_vars {v : Nat} : ∀ (x : Ex), x.freeN.testBit v = true → x.varsN.testBit v = true
  | .const _, h => h
  | .var w, h => h
  | .not x, h => free_vars x h
  | .pair op a b, h => by
    rw [Ex.freeN, Nat.testBit_or, Bool.or_eq_true] at h
    rw [Ex.varsN, Nat.testBit_or, Bool.or_eq_true]
    rcases h with h | h
    · exact .inl (free_vars a h)
    · exact .inr (free_vars b h)
  | .bound each l x, h => by
    rw [Ex.freeN, cut_bit, Bool.and_eq_true] at h
    rw [Ex.varsN, Nat.testBit_or, free_vars x h.1, Bool.true_or]
/-- does it hold of the assignment y? -/
def Ex.holdsE (x : Ex) (n : Nat) (y : Nat) : Bool := tat (x.tabE n) (y % 2 ^ n)
theorem holds_flip {x : Ex} {n y v : Nat} (h : v < n → x.freeN.testBit v = false) (z : Nat) (hz : ∀ j, j ≠ v → z.testBit j = y.testBit j) : x.holdsE n z = x.holdsE n y := by
  unfold Ex.holdsE
  by_cases hv : v < n
  · have h2 : ∀ w : Nat, w % 2 ^ n < 2 ^ n := fun w => Nat.mod_lt _ (Nat.two_pow_pos n)
    have e1 : z % 2 ^ n = putV (y % 2 ^ n) v (z.testBit v).toNat := by
      apply Nat.eq_of_testBit_eq
      intro j
      rw [putV_bit, Nat.testBit_mod_two_pow, Nat.testBit_mod_two_pow]
      by_cases hj : j = v
      · subst hj; simp [hv]
      · rw [if_neg hj, hz j hj]
    have e2 : y % 2 ^ n = putV (y % 2 ^ n) v (y.testBit v).toNat := by
      apply Nat.eq_of_testBit_eq
      intro j
      rw [putV_bit, Nat.testBit_mod_two_pow]
      by_cases hj : j = v
      · subst hj; simp [hv]
      · rw [if_neg hj]
    rw [e1]
    conv => rhs; rw [e2]
    exact (tabE_indep hv x (h hv)).2 _ (h2 y) _ _
  · have : z % 2 ^ n = y % 2 ^ n := by
      apply Nat.eq_of_testBit_eq
      intro j
      rw [Nat.testBit_mod_two_pow, Nat.testBit_mod_two_pow]
      by_cases hj : j = v
      · subst hj; simp [hv]
      · rw [hz j hj]
    rw [this]
end Go.Proofs.YtbhbhfplpbcfiaaGreatDoor
