/- Contract: node.Right. -/
import Derived.Test.YtkbanaaljebhiaaGreatDoorNode
namespace Go.Proofs.YtkbanaaljebhiaaGreatDoor
open Go.RowKit
set_option linter.unusedSimpArgs false
set_option linter.unusedVariables false

theorem right_noA {r : Rec} {n : Int} (h : ¬ (1 ≤ r.form ∧ r.form ≤ 5 ∧ 0 ≤ n ∧ n ≤ 16 ∧ r.top ≤ r.bot ∧ r.bot < n ∧ (r.top = r.bot ∨ r.form = 3 ∨ r.form = 4))) : right r n = false := by unfold right; rw [decide_eq_false h]; rfl
theorem right_lo {r : Rec} {n : Int} (h : plain r.form r.lo (r.bot + 1) n = false) : right r n = false := by unfold right; rw [h]; simp
theorem right_hi {r : Rec} {n : Int} (h : plain r.form r.hi (r.bot + 1) n = false) : right r n = false := by unfold right; rw [h]; simp
theorem right_end {r : Rec} {n : Int} (h : 1 ≤ r.form ∧ r.form ≤ 5 ∧ 0 ≤ n ∧ n ≤ 16 ∧ r.top ≤ r.bot ∧ r.bot < n ∧ (r.top = r.bot ∨ r.form = 3 ∨ r.form = 4)) (h1 : plain r.form r.lo (r.bot + 1) n = true) (h2 : plain r.form r.hi (r.bot + 1) n = true) :
    right r n = if r.form = 2 ∨ r.form = 4 then (r.hi.pos != 0) else (r.lo != r.hi) := by
  unfold right; rw [decide_eq_true h, h1, h2]; split
  · by_cases hp : r.hi.pos = 0 <;> simp [hp]
  · by_cases hp : r.lo = r.hi <;> simp [hp]
theorem ret_edge_eq {a b c d : Int} (h : a = c) (h2 : b = d) : Ending.returned (.bool false) = .returned (.bool ((⟨a, b⟩ : Edg) != ⟨c, d⟩)) := by subst h h2; simp
theorem ret_edge_tag {a b c d : Int} (h : ¬ a = c) : Ending.returned (.bool true) = .returned (.bool ((⟨a, b⟩ : Edg) != ⟨c, d⟩)) := by
  have : (⟨a, b⟩ : Edg) ≠ ⟨c, d⟩ := fun e => h (by injection e)
  rw [(bne_iff_ne).2 this]
theorem ret_edge_pos {a b c d : Int} (h : ¬ b = d) : Ending.returned (.bool true) = .returned (.bool ((⟨a, b⟩ : Edg) != ⟨c, d⟩)) := by
  have : (⟨a, b⟩ : Edg) ≠ ⟨c, d⟩ := fun e => h (by injection e)
  rw [(bne_iff_ne).2 this]
end Go.Proofs.YtkbanaaljebhiaaGreatDoor
