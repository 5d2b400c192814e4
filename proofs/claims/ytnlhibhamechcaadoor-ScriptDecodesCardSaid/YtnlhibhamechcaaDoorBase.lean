/- General words for memory: slices of integers that read as lists, owned rows, frames. -/
import Derived.Test.YtnlhibhamechcaaDoorRows
import Derived.WalkKit
import Derived.ProofKit
import Derived.Below
import Derived.Lib.Hide
import Derived.BigQuiet
import Derived.Deep.QuietTactic
import Derived.Outline
import Derived.Deep.Draws
import Derived.Deep.AppendLies
import Derived.Maps.AppendAt
import Derived.RegionTactic
import Derived.BigRegion
import Derived.WalkSpells
namespace Go.Proofs.YtnlhibhamechcaaDoor
open Go.RowKit
set_option linter.unusedSimpArgs false
set_option linter.unusedVariables false

/-- A slice at address A reads as the list xs: each cell holds f of the element; it lies in a block below B. (d: what stands for an element beyond the end.) -/
def RowF {α : Type} (f : α → Value) (d : α) (w : World) (B : Nat) (A : Option Addr) (xs : List α) : Prop :=
  0 < xs.length → ∃ b off, A = some ⟨b, off, none⟩ ∧ b < B ∧ ∀ j, j < xs.length → w.cell? ⟨b, off + j, none⟩ = some (f (xs[j]?.getD d))
/-- ints, bools -/
abbrev Ints := RowF (Value.int .i64) 0
abbrev Bools := RowF Value.bool false

section
variable {α : Type} {f : α → Value} {d : α} {w w' : World} {B B' : Nat} {A : Option Addr} {zs : List α}
theorem RowF.nil_ : RowF f d w B A [] := fun h => absurd h (by simp)
theorem RowF.keep (h : RowF f d w B A zs) (hk : ∀ p : Addr, p.block < B → w'.cell? p = w.cell? p) : RowF f d w' B A zs := fun hn => by
  obtain ⟨b, off, e, hb, hc⟩ := h hn
  exact ⟨b, off, e, hb, fun j hj => (hk _ hb).trans (hc j hj)⟩
theorem RowF.more (h : RowF f d w B A zs) (hB : B ≤ B') : RowF f d w B' A zs := fun hn => by
  obtain ⟨b, off, e, hb, hc⟩ := h hn
  exact ⟨b, off, e, by omega, hc⟩
theorem RowF.below {C : Nat} (h : RowF f d w B A zs) (hb : Below C w w') (hC : B ≤ C) : RowF f d w' B A zs := h.keep fun _ hp => hb.cell (Nat.lt_of_lt_of_le hp hC)
theorem RowF.below' (h : RowF f d w B A zs) (hb : Below B w w') : RowF f d w' B A zs := h.keep fun _ hp => hb.cell hp
/-- behind a call: all of the old heap is as it was -/
theorem RowF.on (h : RowF f d w w.heap.size A zs) (hb : Below w.heap.size w w') : RowF f d w' w'.heap.size A zs := (h.below' hb).more hb.size
theorem RowF.drewN (h : RowF f d w B A zs) (k : Nat) : RowF f d (w.drewN k) B A zs := h
theorem RowF.drewN' (h : RowF f d w w.heap.size A zs) (k : Nat) : RowF f d (w.drewN k) (w.drewN k).heap.size A zs := h
theorem RowF.drew (h : RowF f d w B A zs) : RowF f d w.drew B A zs := h
theorem RowF.alloc (h : RowF f d w B A zs) (hB : B ≤ w.heap.size) (o : Obj) : RowF f d (w.alloc o) B A zs := h.keep fun p hp => World.cell?_alloc_lt w o p (by omega)
theorem RowF.setCell (h : RowF f d w B A zs) {p : Addr} (hB : B ≤ p.block) (u : Value) : RowF f d (w.setCell p u) B A zs :=
  h.keep fun q hq => World.cell?_setCell_other w p q u (fun e => by subst e; omega)
theorem RowF.cut (h : RowF f d w B A zs) {k cap : Nat} (hk : k ≤ zs.length) (hc : zs.length ≤ cap) :
    RowF f d w B (if cap = k then A else A.map (fun a => ⟨a.block, a.off + k, none⟩)) (zs.drop k) := fun hn => by
  rw [List.length_drop] at hn
  obtain ⟨b, off, rfl, hb, hcell⟩ := h (by omega)
  rw [if_neg (by omega)]
  refine ⟨b, off + k, rfl, hb, fun j hj => ?_⟩
  rw [List.length_drop] at hj
  rw [Nat.add_assoc, hcell _ (by omega), List.getElem?_drop]
theorem RowF.take (h : RowF f d w B A zs) (k : Nat) : RowF f d w B A (zs.take k) := fun hn => by
  rw [List.length_take] at hn
  obtain ⟨b, off, rfl, hb, hcell⟩ := h (by omega)
  refine ⟨b, off, rfl, hb, fun j hj => ?_⟩
  rw [List.length_take] at hj
  rw [hcell _ (by omega), List.getElem?_take, if_pos (by omega)]
end

/-- what the frame of a statement's proof tells of a slice of ints that came in -/
theorem ints_of_row {k : IntKind} {w : World} {a : Option Addr} {len cap : Nat} {zs : List Int}
    (h : (a = none ∧ len = 0 ∧ cap = 0 ∧ zs = []) ∨ ∃ x, a = some x ∧ len ≤ cap ∧ cap ≤ maxLen ∧ zs.length = cap ∧ (∀ i, i < zs.length → w.cell? (x.add i) = some (.int k (zs.getD i 0))) ∧ ∀ n ∈ zs, (Lit.int k n).wf = true) :
    ∃ ys : List Int, ys.length = len ∧ len ≤ maxLen ∧ RowF (Value.int k) 0 w w.heap.size a ys ∧ (∀ n ∈ ys, (Lit.int k n).wf = true) ∧ len ≤ cap ∧ cap ≤ maxLen := by
  rcases h with ⟨rfl, rfl, rfl, rfl⟩ | ⟨x, rfl, hl, hm, hz, hcell, hwz⟩
  · exact ⟨[], rfl, by unfold maxLen; omega, RowF.nil_, by simp, by omega, by unfold maxLen; omega⟩
  · have hlen : (zs.take len).length = len := by rw [List.length_take]; omega
    refine ⟨zs.take len, hlen, by omega, fun hn => ?_, fun n hn => hwz n (List.mem_of_mem_take hn), hl, hm⟩
    rw [hlen] at hn
    have h0 := hcell 0 (by omega)
    obtain ⟨b, off, spot⟩ := x
    have hspot : spot = none := by simpa [Addr.add] using World.cell?_spot h0
    subst hspot
    refine ⟨b, off, rfl, ?_, fun j hj => ?_⟩
    · rcases Nat.lt_or_ge b w.heap.size with h | h
      · exact h
      · rw [Addr.add_lit] at h0
        simp [World.cell?, Array.getElem?_eq_none h] at h0
    · rw [hlen] at hj
      have := hcell j (by omega)
      rw [Addr.add_lit] at this
      rw [this, List.getElem?_take, if_pos hj]
      simp
theorem i64_of_wf {n : Int} (h : (Lit.int .i64 n).wf = true) : -9223372036854775808 ≤ n ∧ n ≤ 9223372036854775807 := by simpa [Lit.wf, IntKind.min, IntKind.max, IntKind.signed, IntKind.bits] using h
theorem own_below {w w' : World} {base e size n : Nat} {v : Value} {xs : List Value} (h : w.ownsRow base e size v n xs) (hb : Below w.heap.size w w') : w'.ownsRow base e size v n xs := by
  rcases h with ⟨hl, h | ⟨g, cap, cur, hv, hg, hh, hr⟩⟩
  · exact ⟨hl, .inl h⟩
  · refine ⟨hl, .inr ⟨g, cap, cur, hv, hg, ?_, hr⟩⟩
    rw [hb.block g (by
      rcases Nat.lt_or_ge g w.heap.size with hlt | hge
      · exact hlt
      · rw [Array.getElem?_eq_none hge] at hh; cases hh)]
    exact hh
theorem own_mono {w : World} {base base' e size n : Nat} {v : Value} {xs : List Value} (h : w.ownsRow base e size v n xs) (hb : base' ≤ base) : w.ownsRow base' e size v n xs := by
  rcases h with ⟨hl, h | ⟨g, cap, cur, hv, hg, hr⟩⟩
  · exact ⟨hl, .inl h⟩
  · exact ⟨hl, .inr ⟨g, cap, cur, hv, Nat.le_trans hb hg, hr⟩⟩
theorem own_drewN {w : World} {base e size n : Nat} {v : Value} {xs : List Value} (h : w.ownsRow base e size v n xs) (k : Nat) : (w.drewN k).ownsRow base e size v n xs := h
theorem own_slice {w : World} {base e size n : Nat} {v : Value} {xs : List Value} (h : w.ownsRow base e size v n xs) : ∃ A c, v = .slice A n c := by
  rcases h with ⟨_, ⟨rfl, rfl⟩ | ⟨g, cap, cur, rfl, _⟩⟩
  · exact ⟨_, _, rfl⟩
  · exact ⟨_, _, rfl⟩
theorem below_drewN {B : Nat} {a w : World} (h : Below B a w) (n : Nat) : Below B a (w.drewN n) := ⟨h.os, h.tape, h.output, h.size, h.block⟩

theorem info_int : (Tryd.prog.info? 3).map (fun i => (i.zero, i.size, i.bytes)) = some (some (.int .i64 0), 1, 8) := by kernel_rfl
/-- inside a region that draws: a callee whose contract leaves the world alone -/
theorem q_same {P : Program} {f : FuncId} {args : Array Value} {w : World} {n : Nat} {v : Value}
    (h : Calls P f args (w.drewN n) fun e w' => e = .returned v ∧ w.drewN n = w') : Calls P f args (w.drewN n) fun e w'' => e = .returned v ∧ ∃ m, w'' = w.drewN m :=
  h.mono fun _ _ ⟨he, hm⟩ => ⟨he, n, hm.symm⟩
theorem ret_int {k : IntKind} {a b : Int} (h : a = b) : Ending.returned (.int k a) = .returned (.int k b) := by rw [h]
theorem ret_bool {a b : Bool} (h : a = b) : Ending.returned (.bool a) = .returned (.bool b) := by rw [h]
end Go.Proofs.YtnlhibhamechcaaDoor
