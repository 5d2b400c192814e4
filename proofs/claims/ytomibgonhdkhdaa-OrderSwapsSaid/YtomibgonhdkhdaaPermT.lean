/- perm.Steps: the steps from one permutation to another one. -/
import Derived.Test.YtomibgonhdkhdaaPermS
namespace Go.Proofs.Ytomibgonhdkhdaa
open Go.RowKit
set_option linter.unusedSimpArgs false
set_option linter.unusedVariables false

/-- d steps down to place i -/
def downs (i : Nat) : Nat → List Int → List Int
  | 0, now => now
  | d + 1, now => downs i d (swapL now (i + d))
def downL (i : Nat) : Nat → List Int
  | 0 => []
  | d + 1 => ((i + d : Nat) : Int) :: downL i d
def stepsM : List Int → Nat → List Int → List Int
  | [], _, _ => []
  | x :: r, i, now => downL i (atL now x 0 - i).toNat ++ stepsM r (i + 1) (downs i (atL now x 0 - i).toNat now)
theorem downs_length (i : Nat) : ∀ d now, (downs i d now).length = now.length
  | 0, _ => rfl
  | d + 1, now => by unfold downs; rw [downs_length, swapL_length]
theorem downL_length (i : Nat) : ∀ d, (downL i d).length = d
  | 0 => rfl
  | d + 1 => by unfold downL; rw [List.length_cons, downL_length]
theorem atL_lt (zs : List Int) (x : Int) : ∀ s : Nat, atL zs x s < (s + zs.length : Nat) := by
  induction zs with
  | nil => intro s; unfold atL; omega
  | cons z r ih =>
    intro s
    unfold atL
    split
    · simp; omega
    · have := ih (s + 1); simp at this ⊢; omega
theorem atL_lo (zs : List Int) (x : Int) : ∀ s : Nat, atL zs x s = -1 ∨ (s : Int) ≤ atL zs x s := by
  induction zs with
  | nil => intro s; exact .inl rfl
  | cons z r ih =>
    intro s
    unfold atL
    split
    · right; omega
    · rcases ih (s + 1) with h | h
      · exact .inl h
      · right; omega
theorem drop_cons (q : List Int) (k : Nat) (h : k < q.length) : q.drop k = q[k]?.getD 0 :: q.drop (k + 1) := by
  rw [List.drop_eq_getElem_cons h, List.getElem?_eq_getElem h]; rfl

end Go.Proofs.Ytomibgonhdkhdaa
