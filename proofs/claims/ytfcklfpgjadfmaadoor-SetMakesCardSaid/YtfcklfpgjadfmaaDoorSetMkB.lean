/- SetMakes: the walk, where there are so many variables. -/
import Derived.Test.YtfcklfpgjadfmaaDoorSetMk
import Derived.Deep.OwnRows
namespace Go.Proofs.YtfcklfpgjadfmaaDoor
open Go.RowKit Go.Sort
set_option linter.unusedSimpArgs false
set_option linter.unusedVariables false

/-- four tables of the call's own -/
structure Four (W w : World) (N a b c d : Nat) (ta tb tc td : List Bool) : Prop where
  bel : Below W.heap.size W w
  oa : OwnF Value.bool 4 w W.heap.size (.slice (some ⟨a, 0, none⟩) N N) ta
  ob : OwnF Value.bool 4 w W.heap.size (.slice (some ⟨b, 0, none⟩) N N) tb
  oc : OwnF Value.bool 4 w W.heap.size (.slice (some ⟨c, 0, none⟩) N N) tc
  od : OwnF Value.bool 4 w W.heap.size (.slice (some ⟨d, 0, none⟩) N N) td
section
variable {W w w' : World} {N a b c d : Nat} {ta tb tc td : List Bool}
theorem Four.on (h : Four W w N a b c d ta tb tc td) (hb : Below w.heap.size w w') : Four W w' N a b c d ta tb tc td :=
  ⟨h.bel.trans (hb.mono h.bel.size), h.oa.below hb, h.ob.below hb, h.oc.below hb, h.od.below hb⟩
theorem Four.drew (h : Four W w N a b c d ta tb tc td) : Four W w.drew N a b c d ta tb tc td := h.on (Below.refl _ _).drew
theorem Four.setB (h : Four W w N a b c d ta tb tc td) (hn : [a, b, c, d].Nodup) (k : Nat) (x : Bool) : Four W (w.setCell ⟨b, k, none⟩ (.bool x)) N a b c d ta (tb.set k x) tc td := by
  simp at hn
  exact ⟨h.bel.setCell (h.ob.lt b rfl).1 _, h.oa.set_below' (fun e => hn.1.1 e.symm) _, h.ob.set_ k x, h.oc.set_below' (fun e => hn.2.1.1 e) _, h.od.set_below' (fun e => hn.2.1.2 e) _⟩
theorem Four.setC (h : Four W w N a b c d ta tb tc td) (hn : [a, b, c, d].Nodup) (k : Nat) (x : Bool) : Four W (w.setCell ⟨c, k, none⟩ (.bool x)) N a b c d ta tb (tc.set k x) td := by
  simp at hn
  exact ⟨h.bel.setCell (h.oc.lt c rfl).1 _, h.oa.set_below' (fun e => hn.1.2.1 e.symm) _, h.ob.set_below' (fun e => hn.2.1.1 e.symm) _, h.oc.set_ k x, h.od.set_below' (fun e => hn.2.2 e) _⟩
theorem Four.setD (h : Four W w N a b c d ta tb tc td) (hn : [a, b, c, d].Nodup) (k : Nat) (x : Bool) : Four W (w.setCell ⟨d, k, none⟩ (.bool x)) N a b c d ta tb tc (td.set k x) := by
  simp at hn
  exact ⟨h.bel.setCell (h.od.lt d rfl).1 _, h.oa.set_below' (fun e => hn.1.2.2 e.symm) _, h.ob.set_below' (fun e => hn.2.1.2 e.symm) _, h.oc.set_below' (fun e => hn.2.2 e.symm) _, h.od.set_ k x⟩
theorem Zs.four (h : Zs W w N [a, b, c, d]) : Four W w N a b c d (List.replicate N false) (List.replicate N false) (List.replicate N false) (List.replicate N false) :=
  ⟨h.bel, (h.own a (by simp)).2, (h.own b (by simp)).2, (h.own c (by simp)).2, (h.own d (by simp)).2⟩
end
theorem own_cell {α : Type} {f : α → Value} {E : TypeId} {w : World} {base g n cap : Nat} {xs : List α} (h : OwnF f E w base (.slice (some ⟨g, 0, none⟩) n cap) xs) (k : Nat) (hk : k < xs.length) : ∃ u, w.cell? ⟨g, k, none⟩ = some (f u) ∧ w.frozen? ⟨g, k, none⟩ = false := by
  have h1 := h.at_ k hk
  rw [List.getElem?_eq_getElem hk] at h1
  exact ⟨_, h1⟩
theorem own_new (w : World) (N : Nat) (hN : N ≤ maxLen) : OwnF Value.bool 4 (w.alloc (.cells (madeCells #[.bool false] N) 4)) w.heap.size (.slice (some ⟨w.heap.size, 0, none⟩) N N) (List.replicate N false) := by
  have hl : (madeCells #[Value.bool false] N).toList = List.replicate N (Value.bool false) := toList_madeCells_one _ _
  refine ⟨by simp, .inr ⟨w.heap.size, N, madeCells #[.bool false] N, by simp, Nat.le_refl _, ?_, by simp, hN, ?_, ?_⟩⟩
  · exact Blk.new w _ _
  · rw [← Array.length_toList, hl]; simp
  · rw [hl]; simp
theorem zs4 (W w1 w2 w3 : World) (N : Nat) (hN : N ≤ maxLen) (h1 : w1 = W.alloc (.cells (madeCells #[.bool false] N) 4)) (h2 : w2 = w1.alloc (.cells (madeCells #[.bool false] N) 4)) (h3 : w3 = w2.alloc (.cells (madeCells #[.bool false] N) 4)) :
    Zs W (w3.alloc (.cells (madeCells #[.bool false] N) 4)) N [W.heap.size + 3, W.heap.size + 2, W.heap.size + 1, W.heap.size] := by
  have z1 := Zs.nil.cons (own_new W N hN) ((Below.refl _ _).alloc (Nat.le_refl _) _)
  rw [← h1] at z1
  have z2 := z1.cons (own_new w1 N hN) ((Below.refl _ _).alloc (Nat.le_refl _) _)
  rw [← h2] at z2
  have z3 := z2.cons (own_new w2 N hN) ((Below.refl _ _).alloc (Nat.le_refl _) _)
  rw [← h3] at z3
  have z4 := z3.cons (own_new w3 N hN) ((Below.refl _ _).alloc (Nat.le_refl _) _)
  have e1 : w1.heap.size = W.heap.size + 1 := by rw [h1, World.size_alloc]
  have e2 : w2.heap.size = W.heap.size + 2 := by rw [h2, World.size_alloc, e1]
  have e3 : w3.heap.size = W.heap.size + 3 := by rw [h3, World.size_alloc, e2]
  rw [e1, e2, e3] at z4
  exact z4
theorem allIn_snoc (n : Nat) (l : List Int) (x : Int) : allIn n (l ++ [x]) ↔ allIn n l ∧ 0 ≤ x ∧ x < (2 ^ n : Nat) := by
  unfold allIn
  constructor
  · intro h
    exact ⟨fun y hy => h y (by simp [hy]), h x (by simp)⟩
  · rintro ⟨h1, h2⟩ y hy
    rcases List.mem_append.1 hy with h | h
    · exact h1 y h
    · rw [List.mem_singleton.1 h]; exact h2

end Go.Proofs.YtfcklfpgjadfmaaDoor
