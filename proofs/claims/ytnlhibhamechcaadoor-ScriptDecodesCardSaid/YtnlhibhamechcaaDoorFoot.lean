/- Footprints: only the blocks of F may have turned. -/
import Derived.Test.YtnlhibhamechcaaDoorOwn
namespace Go.Proofs.YtnlhibhamechcaaDoor
open Go.RowKit
set_option linter.unusedSimpArgs false
set_option linter.unusedVariables false

/-- of the blocks that were there only those of F may have turned -/
structure Chg (F : List Nat) (w w' : World) : Prop where
  os : w'.os = w.os
  tape : w'.tape = w.tape
  output : w'.output = w.output
  size : w.heap.size ≤ w'.heap.size
  block : ∀ k, k < w.heap.size → ¬ k ∈ F → w'.heap[k]? = w.heap[k]?

section
variable {F G : List Nat} {w w' w'' : World}
theorem Chg.refl (F : List Nat) (w : World) : Chg F w w := ⟨rfl, rfl, rfl, Nat.le_refl _, fun _ _ _ => rfl⟩
theorem Chg.trans (h : Chg F w w') (k : Chg G w' w'') (hG : ∀ x ∈ G, x ∈ F ∨ w.heap.size ≤ x) : Chg F w w'' := by
  refine ⟨k.os.trans h.os, k.tape.trans h.tape, k.output.trans h.output, Nat.le_trans h.size k.size, fun i hi hn => ?_⟩
  refine (k.block i (Nat.lt_of_lt_of_le hi h.size) (fun hm => ?_)).trans (h.block i hi hn)
  rcases hG i hm with h1 | h1
  · exact hn h1
  · omega
theorem Chg.mono (h : Chg F w w') (hF : ∀ x ∈ F, x ∈ G ∨ w.heap.size ≤ x) : Chg G w w' := by
  refine ⟨h.os, h.tape, h.output, h.size, fun i hi hn => h.block i hi (fun hm => ?_)⟩
  rcases hF i hm with h1 | h1
  · exact hn h1
  · omega
theorem chg_of_below (h : Below w.heap.size w w') : Chg F w w' := ⟨h.os, h.tape, h.output, h.size, fun k hk _ => h.block k hk⟩
theorem Chg.below {B : Nat} (h : Chg F w w') (hB : B ≤ w.heap.size) (hF : ∀ x ∈ F, B ≤ x) : Below B w w' :=
  ⟨h.os, h.tape, h.output, h.size, fun k hk => h.block k (by omega) (fun hm => by have := hF k hm; omega)⟩
theorem Chg.drew (h : Chg F w w') : Chg F w w'.drew := ⟨h.os, h.tape, h.output, h.size, h.block⟩
theorem Chg.drewN (h : Chg F w w') (n : Nat) : Chg F w (w'.drewN n) := ⟨h.os, h.tape, h.output, h.size, h.block⟩
theorem Chg.setCell (h : Chg F w w') {p : Addr} (hp : p.block ∈ F ∨ w.heap.size ≤ p.block) (u : Value) : Chg F w (w'.setCell p u) :=
  ⟨h.os, h.tape, h.output, by simpa [World.setCell] using h.size, fun i hi hn => (Below.heap_setCell w' p u i (by
    rintro rfl
    rcases hp with h1 | h1
    · exact hn h1
    · omega)).trans (h.block i hi hn)⟩
theorem Chg.alloc (h : Chg F w w') (o : Obj) : Chg F w (w'.alloc o) :=
  ⟨h.os, h.tape, h.output, Nat.le_trans h.size (by simp), fun i hi hn => (Below.heap_alloc w' o i (Nat.lt_of_lt_of_le hi h.size)).trans (h.block i hi hn)⟩
theorem Chg.cell (h : Chg F w w') {p : Addr} (hp : p.block < w.heap.size) (hn : ¬ p.block ∈ F) : w'.cell? p = w.cell? p := World.cell?_of_block (w := w) (h.block p.block hp hn)
theorem Chg.frozen (h : Chg F w w') {p : Addr} (hp : p.block < w.heap.size) (hn : ¬ p.block ∈ F) : w'.frozen? p = w.frozen? p := World.frozen?_of_block (w := w) (h.block p.block hp hn)
end

/-- a block that is known whole -/
def Blk (w : World) (g : Nat) (t : TypeId) (cs : Array Value) : Prop := w.heap[g]? = some (.cells cs t (0, 0))
section
variable {w w' : World} {g : Nat} {t : TypeId} {cs : Array Value} {F : List Nat}
theorem Blk.lt (h : Blk w g t cs) : g < w.heap.size := by
  rcases Nat.lt_or_ge g w.heap.size with hlt | hge
  · exact hlt
  · unfold Blk at h; rw [Array.getElem?_eq_none hge] at h; cases h
theorem Blk.cell (h : Blk w g t cs) (i : Nat) : w.cell? ⟨g, i, none⟩ = cs[i]? := cell_of_row w g i cs t (0, 0) h
theorem Blk.frozen (h : Blk w g t cs) (i : Nat) : w.frozen? ⟨g, i, none⟩ = false := by
  unfold Blk at h
  simp [World.frozen?, h]
theorem Blk.new (w : World) (t : TypeId) (cs : Array Value) : Blk (w.alloc (.cells cs t)) w.heap.size t cs := heap_alloc_new w _
theorem Blk.alloc (h : Blk w g t cs) (o : Obj) : Blk (w.alloc o) g t cs := (Below.heap_alloc w o g h.lt).trans h
theorem Blk.set_ (h : Blk w g t cs) (i : Nat) (u : Value) : Blk (w.setCell ⟨g, i, none⟩ u) g t (cs.setIfInBounds i u) := by
  unfold Blk at h ⊢
  simp [World.setCell, Array.getElem?_modify, h]
theorem Blk.far (h : Blk w g t cs) {p : Addr} (hp : g ≠ p.block) (u : Value) : Blk (w.setCell p u) g t cs := (Below.heap_setCell w p u g hp).trans h
theorem Blk.chg (h : Blk w g t cs) (hb : Chg F w w') (hg : ¬ g ∈ F) : Blk w' g t cs := (hb.block g h.lt hg).trans h
theorem Blk.ne_ {g' : Nat} {t' : TypeId} {cs' : Array Value} (h : Blk w g t cs) (h' : Blk w g' t' cs') (hne : t ≠ t') : g ≠ g' := by
  rintro rfl
  unfold Blk at h h'
  rw [h] at h'
  injection h' with h'
  injection h' with _ ht
  exact hne ht
end

/-- the block of a slice's own row, as a list -/
def blk (v : Value) : List Nat := v.ownBlock.toList
theorem mem_blk {v : Value} {k : Nat} : k ∈ blk v ↔ v.ownBlock = some k := by
  unfold blk
  cases v.ownBlock <;> simp [eq_comm]

section
variable {α : Type} {f : α → Value} {E : TypeId} {w w' : World} {base : Nat} {v : Value} {xs : List α} {F : List Nat}
theorem OwnF.chg (h : OwnF f E w base v xs) (hb : Chg F w w') (hF : ∀ k ∈ blk v, ¬ k ∈ F) : OwnF f E w' base v xs := by
  rcases h with ⟨hl, h | ⟨g, cap, cur, rfl, hg, hh, hr⟩⟩
  · exact ⟨hl, .inl h⟩
  · refine ⟨hl, .inr ⟨g, cap, cur, rfl, hg, ?_, hr⟩⟩
    rw [hb.block g (by
      rcases Nat.lt_or_ge g w.heap.size with hlt | hge
      · exact hlt
      · rw [Array.getElem?_eq_none hge] at hh; cases hh) (hF g (mem_blk.2 rfl))]
    exact hh
theorem OwnF.blk_lt (h : OwnF f E w base v xs) : ∀ k ∈ blk v, k < w.heap.size := fun k hk => (h.lt k (mem_blk.1 hk)).2
theorem OwnF.blk_ge (h : OwnF f E w base v xs) : ∀ k ∈ blk v, base ≤ k := fun k hk => (h.lt k (mem_blk.1 hk)).1
/-- a row and a block of another element type are two -/
theorem OwnF.ne_blk {g : Nat} {t : TypeId} {cs : Array Value} (h : OwnF f E w base v xs) (hg : Blk w g t cs) (hne : E ≠ t) : ¬ g ∈ blk v := fun hm => by
  rcases h with ⟨_, ⟨rfl, _⟩ | ⟨g', cap, cur, rfl, _, hh, _⟩⟩
  · simp [mem_blk, Value.ownBlock] at hm
  · rw [mem_blk] at hm
    have : g' = g := by simpa [Value.ownBlock] using hm
    subst this
    exact Blk.ne_ (t := E) hh hg hne rfl
/-- to a lower base -/
theorem OwnF.zero (h : OwnF f E w base v xs) : OwnF f E w 0 v xs := h.mono (Nat.zero_le _)
end
theorem Blk.onB {w w' : World} {g : Nat} {t : TypeId} {cs : Array Value} (h : Blk w g t cs) (hb : Below w.heap.size w w') : Blk w' g t cs := h.chg (F := []) (chg_of_below hb) (by simp)
end Go.Proofs.YtnlhibhamechcaaDoor
