/- Iterators: what stands between two rounds. -/
import Derived.Test.YtbhbhfplpbcfiaaSeqF
import Derived.Shelf.Abstract
import Derived.Shelf.RegionOpen
import Derived.OwnWalkIn
import Derived.TacticsInMore
import Derived.LoopNIn
import Derived.LoopIn
namespace Go.Proofs.Ytbhbhfplpbcfiaa
open Go Go.RowKit Go.Shelf
set_option linter.unusedSimpArgs false
set_option linter.unusedVariables false

/-- what stands between two rounds: the body's word, and which blocks have turned since the iterator began -/
def Sofar (I : List Nat → List Nat → World → Prop) (Fp0 : List Nat) (W : World) (Fp : List Nat) (pre : List Nat) (wr : World) : Prop := I Fp pre wr ∧ Grows Fp0 Fp W ∧ Chg Fp0 W wr
theorem grows_chg {F F' G : List Nat} {w W W' : World} (hg : Grows F F' w) (hc : Chg F w W) (hg2 : Grows F' G W) (hc2 : Chg F' W W') : Grows F G w ∧ Chg F w W' := by
  have hs := hc.size
  refine ⟨fun k hk => ?_, hc.trans hc2 hg⟩
  rcases hg2 k hk with h | h
  · exact hg k h
  · exact .inr (by omega)
theorem chg_local {α : Type} {B : Nat} {I : List Nat → List α → World → Prop} (h : Local B I) {Fp : List Nat} {pre : List α} {W W' : World} (hi : I Fp pre W) (hb : Below W.heap.size W W') : I Fp pre W' :=
  h Fp pre W W' hi hb.os hb.tape hb.output hb.size fun k hk _ => hb.block k hk
end Go.Proofs.Ytbhbhfplpbcfiaa
