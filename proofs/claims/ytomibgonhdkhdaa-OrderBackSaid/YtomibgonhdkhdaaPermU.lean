/- ramageref02.Steps: the document's steps. -/
import Derived.Test.YtomibgonhdkhdaaPermT
namespace Go.Proofs.Ytomibgonhdkhdaa
open Go.RowKit
set_option linter.unusedSimpArgs false
set_option linter.unusedVariables false

theorem atL_spec (zs : List Int) (x : Int) : ∀ (s k : Nat), atL zs x s = (s + k : Nat) → k < zs.length ∧ zs[k]?.getD 0 = x ∧ ∀ j, j < k → zs[j]?.getD 0 ≠ x := by
  induction zs with
  | nil => intro s k h; unfold atL at h; omega
  | cons z r ih =>
    intro s k h
    unfold atL at h
    split at h
    · have : k = 0 := by omega
      subst this
      refine ⟨by simp, by simpa, fun j hj => by omega⟩
    · cases k with
      | zero =>
        rcases atL_lo r x (s + 1) with h2 | h2
        · omega
        · omega
      | succ k =>
        obtain ⟨h1, h2, h3⟩ := ih (s + 1) k (by rw [h]; congr 1; omega)
        refine ⟨by simp; omega, by simpa using h2, fun j hj => ?_⟩
        cases j with
        | zero => simpa
        | succ j => simpa using h3 j (by omega)

theorem atL_swap (cur : List Int) (x : Int) (m : Nat) (h : atL cur x 0 = ((m + 1 : Nat) : Int)) : atL (swapL cur m) x 0 = (m : Int) := by
  obtain ⟨h1, h2, h3⟩ := atL_spec cur x 0 (m + 1) (by rw [h]; congr 1; omega)
  have := atL_hit (swapL cur m) x m 0 (by rw [swapL_length]; omega) (by
      unfold swapL
      rw [List.getElem?_set_ne (by omega), List.getElem?_set_self (by omega)]
      exact h2) (fun j hj => by
      unfold swapL
      rw [List.getElem?_set_ne (by omega), List.getElem?_set_ne (by omega)]
      exact h3 j (by omega))
  rw [this, Nat.zero_add]

end Go.Proofs.Ytomibgonhdkhdaa
