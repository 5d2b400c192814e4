/- What View tells; no store. -/
import Derived.Test.YtfcklfpgjadfmaaDiaC
namespace Go.Proofs.Ytfcklfpgjadfmaa
open Go.RowKit Go.Sort
set_option linter.unusedSimpArgs false
set_option linter.unusedVariables false

/-- what View tells -/
def viewE (z : Bool) (n : Nat) (cs : List (Option Rec)) (e : Edg) (l : Int) : Edg × Edg × Nat :=
  if l < 0 ∨ (n : Int) ≤ l then (.nil, .nil, 3)
  else if leads cs n (fmOf z) e l then (match recAt cs e.pos with | none => (e, if z then .nil else e, 0) | some r => if l < r.top then (e, if z then .nil else e, 0) else (r.lo, r.hi, 0))
  else (.nil, .nil, 1)
theorem viewE_er (z : Bool) (n : Nat) (cs : List (Option Rec)) (e : Edg) (l : Int) : (viewE z n cs e l).2.2 ≤ 6 := by
  unfold viewE
  repeat' split
  all_goals simp
section
variable {z : Bool} {n : Nat} {cs : List (Option Rec)} {l : Int} {e : Edg} {r : Rec}
theorem viewE_var (h : l < 0 ∨ (n : Int) ≤ l) : viewE z n cs e l = (.nil, .nil, 3) := by unfold viewE; rw [if_pos h]
theorem viewE_arg (h : 0 ≤ l ∧ l < n) (h2 : leads cs n (fmOf z) e l = false) : viewE z n cs e l = (.nil, .nil, 1) := by
  unfold viewE
  rw [if_neg (by omega), if_neg (by simp [h2])]
theorem viewE_none (h : 0 ≤ l ∧ l < n) (h2 : leads cs n (fmOf z) e l = true) (h3 : recAt cs e.pos = none) : viewE z n cs e l = (e, if z then .nil else e, 0) := by
  unfold viewE
  rw [if_neg (by omega), if_pos h2, h3]
theorem viewE_high (h : 0 ≤ l ∧ l < n) (h2 : leads cs n (fmOf z) e l = true) (h3 : recAt cs e.pos = some r) (h4 : l < r.top) : viewE z n cs e l = (e, if z then .nil else e, 0) := by
  unfold viewE
  rw [if_neg (by omega), if_pos h2, h3]
  simp only
  rw [if_pos h4]
theorem viewE_at (h : 0 ≤ l ∧ l < n) (h2 : leads cs n (fmOf z) e l = true) (h3 : recAt cs e.pos = some r) (h4 : ¬ l < r.top) : viewE z n cs e l = (r.lo, r.hi, 0) := by
  unfold viewE
  rw [if_neg (by omega), if_pos h2, h3]
  simp only
  rw [if_neg h4]
end
theorem below_sets0 {B : Nat} {w W : World} (h : Below B w W) : Below B w W.drew := h.drew
theorem below_sets2 {B g : Nat} {w W : World} {a b : Value} (hg : B ≤ g) (h : Below B w W) : Below B w ((W.setCell ⟨g, 0, none⟩ a).setCell ⟨g, 1, none⟩ b).drew := ((h.setCell hg _).setCell hg _).drew
theorem below_sets4 {B g g' : Nat} {w W : World} {a b c d : Value} (hg : B ≤ g) (hg' : B ≤ g') (h : Below B w W) : Below B w ((((W.setCell ⟨g, 0, none⟩ a).setCell ⟨g, 1, none⟩ b).setCell ⟨g', 0, none⟩ c).setCell ⟨g', 1, none⟩ d).drew := ((((h.setCell hg _).setCell hg _).setCell hg' _).setCell hg' _).drew
theorem below_set2 {B g : Nat} {w W : World} {a b : Value} (hg : B ≤ g) (h : Below B w W) : Below B w ((W.setCell ⟨g, 0, none⟩ a).setCell ⟨g, 1, none⟩ b) := (h.setCell hg _).setCell hg _
theorem below_set4 {B g g' : Nat} {w W : World} {a b c d : Value} (hg : B ≤ g) (hg' : B ≤ g') (h : Below B w W) : Below B w ((((W.setCell ⟨g, 0, none⟩ a).setCell ⟨g, 1, none⟩ b).setCell ⟨g', 0, none⟩ c).setCell ⟨g', 1, none⟩ d) := (((h.setCell hg _).setCell hg _).setCell hg' _).setCell hg' _
theorem below_set4a {B g g' : Nat} {w W : World} {a b c d : Value} {o : Obj} (hs : B ≤ W.heap.size) (hg : B ≤ g) (hg' : B ≤ g') (h : Below B w W) : Below B w (((((W.setCell ⟨g, 0, none⟩ a).setCell ⟨g, 1, none⟩ b).setCell ⟨g', 0, none⟩ c).setCell ⟨g', 1, none⟩ d).alloc o) := ((((h.setCell hg _).setCell hg _).setCell hg' _).setCell hg' _).alloc (by simpa using hs) _
theorem below_set2a {B g : Nat} {w W : World} {a b : Value} {o : Obj} (hs : B ≤ W.heap.size) (hg : B ≤ g) (h : Below B w W) : Below B w (((W.setCell ⟨g, 0, none⟩ a).setCell ⟨g, 1, none⟩ b).alloc o) := ((h.setCell hg _).setCell hg _).alloc (by simpa using hs) _
theorem leads_nil (f : Int) (e : Edg) (l : Int) (w : World) : Calls Try.prog 59 #[.pointer none, .int .u8 f, .agg e.cells.toArray, .int .i64 l] w fun r w' => r = .returned (.bool false) ∧ Below w.heap.size w w' := by
  obtain ⟨t, q⟩ := e
  simp only [Edg.cells]
  go_enter Try.func59, Try.ntmps59
  go_wp2_with fail
  go_quiet (fail)
  go_wp2_with fail
  go_ret
  exact ⟨rfl, below_drewN ((Below.refl _ _).alloc (Nat.le_refl _) _) _⟩
end Go.Proofs.Ytfcklfpgjadfmaa
