/- Tables of truths in memory. -/
import Derived.Test.YtfcklfpgjadfmaaTextP
import Derived.Test.YtfcklfpgjadfmaaOwn
import Derived.Test.YtfcklfpgjadfmaaFoot
import Derived.Test.YtfcklfpgjadfmaaRec
namespace Go.Proofs.Ytfcklfpgjadfmaa
open Go.RowKit
set_option linter.unusedSimpArgs false
set_option linter.unusedVariables false

/-- a table of truths at a block that is none of F -/
structure TabAt (w : World) (F : List Nat) (b off : Nat) (t : List Bool) : Prop where
  lt : b < w.heap.size
  far : ¬ b ∈ F
  cell : ∀ j, j < t.length → w.cell? ⟨b, off + j, none⟩ = some (.bool (t[j]?.getD false))
section
variable {w w' : World} {F F' G : List Nat} {b off : Nat} {t : List Bool}
theorem TabAt.take (h : TabAt w F b off t) (k : Nat) : TabAt w F b off (t.take k) := ⟨h.lt, h.far, fun j hj => by
  rw [List.length_take] at hj
  rw [h.cell j (by omega), List.getElem?_take, if_pos (by omega)]⟩
theorem TabAt.drop (h : TabAt w F b off t) (k : Nat) : TabAt w F b (off + k) (t.drop k) := ⟨h.lt, h.far, fun j hj => by
  rw [List.length_drop] at hj
  rw [Nat.add_assoc, h.cell _ (by omega), List.getElem?_drop]⟩
theorem TabAt.turn (h : TabAt w F b off t) (hc : Chg F w w') (hF : ∀ k ∈ F', k ∈ F ∨ w.heap.size ≤ k) : TabAt w' F' b off t := by
  have h1 := h.lt
  have h2 := hc.size
  refine ⟨by omega, fun hm => ?_, fun j hj => ?_⟩
  · rcases hF b hm with h3 | h3
    · exact h.far h3
    · omega
  · rw [hc.cell (p := ⟨b, off + j, none⟩) h1 h.far, h.cell j hj]
theorem TabAt.on (h : TabAt w F b off t) (hb : Below w.heap.size w w') : TabAt w' F b off t := by
  have h1 := h.lt
  have h2 := hb.size
  exact ⟨by omega, h.far, fun j hj => by rw [hb.cell (p := ⟨b, off + j, none⟩) h1, h.cell j hj]⟩
theorem TabAt.bools (h : TabAt w F b off t) : RowF Value.bool false w w.heap.size (some ⟨b, off, none⟩) t := fun _ => ⟨b, off, rfl, h.lt, h.cell⟩
theorem TabAt.nil_ (h : TabAt w F b off t) : TabAt w [] b off t := ⟨h.lt, (fun hm => by cases hm), h.cell⟩
end

theorem half_of (m : Nat) : Int.tdiv ((2 * m : Nat) : Int) 2 = (m : Int) := by
  rw [show ((2 * m : Nat) : Int) = ((2 * m : Nat) : Int) from rfl, Int.tdiv_eq_ediv_of_nonneg (by omega)]
  omega
end Go.Proofs.Ytfcklfpgjadfmaa
