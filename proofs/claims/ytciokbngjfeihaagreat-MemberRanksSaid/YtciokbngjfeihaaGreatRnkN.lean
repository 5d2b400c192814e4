/- nth -/
import Derived.Test.YtciokbngjfeihaaGreatMal
import Derived.Test.YtciokbngjfeihaaGreatMbrD
namespace Go.Proofs.YtciokbngjfeihaaGreat
open Go Go.RowKit Go.Maps
set_option linter.unusedSimpArgs false
set_option linter.unusedVariables false

theorem below_then {w w' w'' : World} (h : Below w.heap.size w w') (hb : Below w'.heap.size w' w'') : Below w.heap.size w w'' := h.trans (hb.mono h.size)
abbrev Z11 : Array Value := #[.bool false, .bool false, .int .u8 0, .int .u8 0, .int .u8 0, .int .u8 0, .int .u32 0, .int .u8 0, .int .u32 0, .int .u8 0, .int .u8 0]
section
variable {w w1 : World} {T T' : TypeId} {cs cs' : Array Value}
theorem newT1 (h : Below (w.alloc (.cells cs T)).heap.size (w.alloc (.cells cs T)) w1) : Blk w1 w.heap.size T cs := (Blk.new _ _ _).onB h
theorem newT1d (h : Below (w.drew.alloc (.cells cs T)).heap.size (w.drew.alloc (.cells cs T)) w1) : Blk w1 w.heap.size T cs := (Blk.new w.drew _ _).onB h
theorem newT2 (h : Below ((w.alloc (.cells cs T)).alloc (.cells cs' T')).heap.size ((w.alloc (.cells cs T)).alloc (.cells cs' T')) w1) : Blk w1 w.heap.size T cs := ((Blk.new w T cs).alloc _).onB h
theorem newT2d (h : Below ((w.drew.alloc (.cells cs T)).alloc (.cells cs' T')).heap.size ((w.drew.alloc (.cells cs T)).alloc (.cells cs' T')) w1) : Blk w1 w.heap.size T cs := ((Blk.new w.drew T cs).alloc _).onB h
theorem newS2 (h : Below ((w.alloc (.cells cs T)).alloc (.cells cs' T')).heap.size ((w.alloc (.cells cs T)).alloc (.cells cs' T')) w1) : Blk w1 (w.heap.size + 1) T' cs' := (Blk.new_at (by simp) _ _).onB h
theorem newS2d (h : Below ((w.drew.alloc (.cells cs T)).alloc (.cells cs' T')).heap.size ((w.drew.alloc (.cells cs T)).alloc (.cells cs' T')) w1) : Blk w1 (w.heap.size + 1) T' cs' := (Blk.new_at (w := w.drew.alloc _) (by simp) _ _).onB h
theorem newT1e (h : Below (w.alloc (.cells cs T)).drew.heap.size (w.alloc (.cells cs T)).drew w1) : Blk w1 w.heap.size T cs := (show Blk (w.alloc (.cells cs T)).drew w.heap.size T cs from Blk.new w T cs).onB h
theorem newT2e (h : Below ((w.alloc (.cells cs T)).alloc (.cells cs' T')).drew.heap.size ((w.alloc (.cells cs T)).alloc (.cells cs' T')).drew w1) : Blk w1 w.heap.size T cs := (show Blk ((w.alloc (.cells cs T)).alloc (.cells cs' T')).drew w.heap.size T cs from (Blk.new w T cs).alloc _).onB h
theorem newS2e (h : Below ((w.alloc (.cells cs T)).alloc (.cells cs' T')).drew.heap.size ((w.alloc (.cells cs T)).alloc (.cells cs' T')).drew w1) : Blk w1 (w.heap.size + 1) T' cs' := (show Blk ((w.alloc (.cells cs T)).alloc (.cells cs' T')).drew (w.heap.size + 1) T' cs' from Blk.new_at (by simp) _ _).onB h
theorem Blk.far11 {g g' : Nat} (v0 v1 v2 v3 v4 v5 v6 v7 v8 v9 v10 : Value) (hne : g ≠ g') (h : Blk w g T cs) : Blk (((((((((((w.setCell ⟨g', 0, none⟩ v0).setCell ⟨g', 1, none⟩ v1).setCell ⟨g', 2, none⟩ v2).setCell ⟨g', 3, none⟩ v3).setCell ⟨g', 4, none⟩ v4).setCell ⟨g', 5, none⟩ v5).setCell ⟨g', 6, none⟩ v6).setCell ⟨g', 7, none⟩ v7).setCell ⟨g', 8, none⟩ v8).setCell ⟨g', 9, none⟩ v9).setCell ⟨g', 10, none⟩ v10) g T cs := (((((((((((h.far (p := ⟨g', 0, none⟩) hne v0).far (p := ⟨g', 1, none⟩) hne v1).far (p := ⟨g', 2, none⟩) hne v2).far (p := ⟨g', 3, none⟩) hne v3).far (p := ⟨g', 4, none⟩) hne v4).far (p := ⟨g', 5, none⟩) hne v5).far (p := ⟨g', 6, none⟩) hne v6).far (p := ⟨g', 7, none⟩) hne v7).far (p := ⟨g', 8, none⟩) hne v8).far (p := ⟨g', 9, none⟩) hne v9).far (p := ⟨g', 10, none⟩) hne v10)
theorem cf11 {g : Nat} {a0 a1 a2 a3 a4 a5 a6 a7 a8 a9 a10 : Value} (h : Blk w g T #[a0, a1, a2, a3, a4, a5, a6, a7, a8, a9, a10]) : (w.cell? ⟨g, 0, none⟩ = some a0 ∧ w.frozen? ⟨g, 0, none⟩ = false) ∧ (w.cell? ⟨g, 1, none⟩ = some a1 ∧ w.frozen? ⟨g, 1, none⟩ = false) ∧ (w.cell? ⟨g, 2, none⟩ = some a2 ∧ w.frozen? ⟨g, 2, none⟩ = false) ∧ (w.cell? ⟨g, 3, none⟩ = some a3 ∧ w.frozen? ⟨g, 3, none⟩ = false) ∧ (w.cell? ⟨g, 4, none⟩ = some a4 ∧ w.frozen? ⟨g, 4, none⟩ = false) ∧ (w.cell? ⟨g, 5, none⟩ = some a5 ∧ w.frozen? ⟨g, 5, none⟩ = false) ∧ (w.cell? ⟨g, 6, none⟩ = some a6 ∧ w.frozen? ⟨g, 6, none⟩ = false) ∧ (w.cell? ⟨g, 7, none⟩ = some a7 ∧ w.frozen? ⟨g, 7, none⟩ = false) ∧ (w.cell? ⟨g, 8, none⟩ = some a8 ∧ w.frozen? ⟨g, 8, none⟩ = false) ∧ (w.cell? ⟨g, 9, none⟩ = some a9 ∧ w.frozen? ⟨g, 9, none⟩ = false) ∧ (w.cell? ⟨g, 10, none⟩ = some a10 ∧ w.frozen? ⟨g, 10, none⟩ = false) :=
  ⟨⟨h.cell 0, h.frozen 0⟩, ⟨h.cell 1, h.frozen 1⟩, ⟨h.cell 2, h.frozen 2⟩, ⟨h.cell 3, h.frozen 3⟩, ⟨h.cell 4, h.frozen 4⟩, ⟨h.cell 5, h.frozen 5⟩, ⟨h.cell 6, h.frozen 6⟩, ⟨h.cell 7, h.frozen 7⟩, ⟨h.cell 8, h.frozen 8⟩, ⟨h.cell 9, h.frozen 9⟩, ⟨h.cell 10, h.frozen 10⟩⟩
end
section
variable {V w4 : World} {T : TypeId} {g g' : Nat} {a0 a1 a2 a3 a4 a5 a6 a7 a8 a9 a10 c0 c1 c2 c3 c4 c5 c6 c7 c8 c9 c10 : Value}
theorem lfA (b4 : Below V.heap.size V w4) : Blk ((w4.alloc (.cells #[a0, a1, a2, a3, a4, a5, a6, a7, a8, a9, a10] T)).alloc (.cells #[c0, c1, c2, c3, c4, c5, c6, c7, c8, c9, c10] T)) (w4.heap.size) T #[a0, a1, a2, a3, a4, a5, a6, a7, a8, a9, a10] ∧ Blk ((w4.alloc (.cells #[a0, a1, a2, a3, a4, a5, a6, a7, a8, a9, a10] T)).alloc (.cells #[c0, c1, c2, c3, c4, c5, c6, c7, c8, c9, c10] T)) (w4.heap.size + 1) T #[c0, c1, c2, c3, c4, c5, c6, c7, c8, c9, c10] ∧ V.heap.size ≤ w4.heap.size ∧ V.heap.size ≤ w4.heap.size + 1 ∧ w4.heap.size ≠ w4.heap.size + 1 ∧ Below V.heap.size V ((w4.alloc (.cells #[a0, a1, a2, a3, a4, a5, a6, a7, a8, a9, a10] T)).alloc (.cells #[c0, c1, c2, c3, c4, c5, c6, c7, c8, c9, c10] T)) :=
  ⟨(Blk.new _ _ _).alloc _, Blk.new_at (by simp) _ _, b4.size, Nat.le_succ_of_le b4.size, by omega, keepC (keepC b4)⟩
theorem lfA' (b4 : Below V.heap.size V w4) : Blk ((w4.alloc (.cells #[c0, c1, c2, c3, c4, c5, c6, c7, c8, c9, c10] T)).alloc (.cells #[a0, a1, a2, a3, a4, a5, a6, a7, a8, a9, a10] T)) (w4.heap.size + 1) T #[a0, a1, a2, a3, a4, a5, a6, a7, a8, a9, a10] ∧ Blk ((w4.alloc (.cells #[c0, c1, c2, c3, c4, c5, c6, c7, c8, c9, c10] T)).alloc (.cells #[a0, a1, a2, a3, a4, a5, a6, a7, a8, a9, a10] T)) (w4.heap.size) T #[c0, c1, c2, c3, c4, c5, c6, c7, c8, c9, c10] ∧ V.heap.size ≤ w4.heap.size + 1 ∧ V.heap.size ≤ w4.heap.size ∧ w4.heap.size + 1 ≠ w4.heap.size ∧ Below V.heap.size V ((w4.alloc (.cells #[c0, c1, c2, c3, c4, c5, c6, c7, c8, c9, c10] T)).alloc (.cells #[a0, a1, a2, a3, a4, a5, a6, a7, a8, a9, a10] T)) :=
  ⟨Blk.new_at (by simp) _ _, (Blk.new _ _ _).alloc _, Nat.le_succ_of_le b4.size, b4.size, by omega, keepC (keepC b4)⟩
theorem lfB (b4 : Below V.heap.size V w4) (p : Blk w4 g T Z11) (hg : V.heap.size ≤ g) : Blk ((((((((((((w4.setCell ⟨g, 0, none⟩ a0).setCell ⟨g, 1, none⟩ a1).setCell ⟨g, 2, none⟩ a2).setCell ⟨g, 3, none⟩ a3).setCell ⟨g, 4, none⟩ a4).setCell ⟨g, 5, none⟩ a5).setCell ⟨g, 6, none⟩ a6).setCell ⟨g, 7, none⟩ a7).setCell ⟨g, 8, none⟩ a8).setCell ⟨g, 9, none⟩ a9).setCell ⟨g, 10, none⟩ a10).alloc (.cells #[c0, c1, c2, c3, c4, c5, c6, c7, c8, c9, c10] T)) (g) T #[a0, a1, a2, a3, a4, a5, a6, a7, a8, a9, a10] ∧ Blk ((((((((((((w4.setCell ⟨g, 0, none⟩ a0).setCell ⟨g, 1, none⟩ a1).setCell ⟨g, 2, none⟩ a2).setCell ⟨g, 3, none⟩ a3).setCell ⟨g, 4, none⟩ a4).setCell ⟨g, 5, none⟩ a5).setCell ⟨g, 6, none⟩ a6).setCell ⟨g, 7, none⟩ a7).setCell ⟨g, 8, none⟩ a8).setCell ⟨g, 9, none⟩ a9).setCell ⟨g, 10, none⟩ a10).alloc (.cells #[c0, c1, c2, c3, c4, c5, c6, c7, c8, c9, c10] T)) (w4.heap.size) T #[c0, c1, c2, c3, c4, c5, c6, c7, c8, c9, c10] ∧ V.heap.size ≤ g ∧ V.heap.size ≤ w4.heap.size ∧ g ≠ w4.heap.size ∧ Below V.heap.size V ((((((((((((w4.setCell ⟨g, 0, none⟩ a0).setCell ⟨g, 1, none⟩ a1).setCell ⟨g, 2, none⟩ a2).setCell ⟨g, 3, none⟩ a3).setCell ⟨g, 4, none⟩ a4).setCell ⟨g, 5, none⟩ a5).setCell ⟨g, 6, none⟩ a6).setCell ⟨g, 7, none⟩ a7).setCell ⟨g, 8, none⟩ a8).setCell ⟨g, 9, none⟩ a9).setCell ⟨g, 10, none⟩ a10).alloc (.cells #[c0, c1, c2, c3, c4, c5, c6, c7, c8, c9, c10] T)) :=
  ⟨(p.rest11 _ _ _ _ _ _ _ _ _ _ _).alloc _, Blk.new_at (by simp) _ _, hg, b4.size, by have := p.lt; omega, keepC (below_rest11 _ _ _ _ _ _ _ _ _ _ _ hg b4)⟩
theorem lfB' (b4 : Below V.heap.size V w4) (p : Blk w4 g T Z11) (hg : V.heap.size ≤ g) : Blk ((((((((((((w4.setCell ⟨g, 0, none⟩ c0).setCell ⟨g, 1, none⟩ c1).setCell ⟨g, 2, none⟩ c2).setCell ⟨g, 3, none⟩ c3).setCell ⟨g, 4, none⟩ c4).setCell ⟨g, 5, none⟩ c5).setCell ⟨g, 6, none⟩ c6).setCell ⟨g, 7, none⟩ c7).setCell ⟨g, 8, none⟩ c8).setCell ⟨g, 9, none⟩ c9).setCell ⟨g, 10, none⟩ c10).alloc (.cells #[a0, a1, a2, a3, a4, a5, a6, a7, a8, a9, a10] T)) (w4.heap.size) T #[a0, a1, a2, a3, a4, a5, a6, a7, a8, a9, a10] ∧ Blk ((((((((((((w4.setCell ⟨g, 0, none⟩ c0).setCell ⟨g, 1, none⟩ c1).setCell ⟨g, 2, none⟩ c2).setCell ⟨g, 3, none⟩ c3).setCell ⟨g, 4, none⟩ c4).setCell ⟨g, 5, none⟩ c5).setCell ⟨g, 6, none⟩ c6).setCell ⟨g, 7, none⟩ c7).setCell ⟨g, 8, none⟩ c8).setCell ⟨g, 9, none⟩ c9).setCell ⟨g, 10, none⟩ c10).alloc (.cells #[a0, a1, a2, a3, a4, a5, a6, a7, a8, a9, a10] T)) (g) T #[c0, c1, c2, c3, c4, c5, c6, c7, c8, c9, c10] ∧ V.heap.size ≤ w4.heap.size ∧ V.heap.size ≤ g ∧ w4.heap.size ≠ g ∧ Below V.heap.size V ((((((((((((w4.setCell ⟨g, 0, none⟩ c0).setCell ⟨g, 1, none⟩ c1).setCell ⟨g, 2, none⟩ c2).setCell ⟨g, 3, none⟩ c3).setCell ⟨g, 4, none⟩ c4).setCell ⟨g, 5, none⟩ c5).setCell ⟨g, 6, none⟩ c6).setCell ⟨g, 7, none⟩ c7).setCell ⟨g, 8, none⟩ c8).setCell ⟨g, 9, none⟩ c9).setCell ⟨g, 10, none⟩ c10).alloc (.cells #[a0, a1, a2, a3, a4, a5, a6, a7, a8, a9, a10] T)) :=
  ⟨Blk.new_at (by simp) _ _, (p.rest11 _ _ _ _ _ _ _ _ _ _ _).alloc _, b4.size, hg, by have := p.lt; omega, keepC (below_rest11 _ _ _ _ _ _ _ _ _ _ _ hg b4)⟩
theorem lfC (b4 : Below V.heap.size V w4) (p : Blk w4 g T Z11) (r : Blk w4 g' T Z11) (hg : V.heap.size ≤ g) (hg' : V.heap.size ≤ g') (hne : g ≠ g') : Blk ((((((((((((((((((((((w4.setCell ⟨g, 0, none⟩ a0).setCell ⟨g, 1, none⟩ a1).setCell ⟨g, 2, none⟩ a2).setCell ⟨g, 3, none⟩ a3).setCell ⟨g, 4, none⟩ a4).setCell ⟨g, 5, none⟩ a5).setCell ⟨g, 6, none⟩ a6).setCell ⟨g, 7, none⟩ a7).setCell ⟨g, 8, none⟩ a8).setCell ⟨g, 9, none⟩ a9).setCell ⟨g, 10, none⟩ a10).setCell ⟨g', 0, none⟩ c0).setCell ⟨g', 1, none⟩ c1).setCell ⟨g', 2, none⟩ c2).setCell ⟨g', 3, none⟩ c3).setCell ⟨g', 4, none⟩ c4).setCell ⟨g', 5, none⟩ c5).setCell ⟨g', 6, none⟩ c6).setCell ⟨g', 7, none⟩ c7).setCell ⟨g', 8, none⟩ c8).setCell ⟨g', 9, none⟩ c9).setCell ⟨g', 10, none⟩ c10) (g) T #[a0, a1, a2, a3, a4, a5, a6, a7, a8, a9, a10] ∧ Blk ((((((((((((((((((((((w4.setCell ⟨g, 0, none⟩ a0).setCell ⟨g, 1, none⟩ a1).setCell ⟨g, 2, none⟩ a2).setCell ⟨g, 3, none⟩ a3).setCell ⟨g, 4, none⟩ a4).setCell ⟨g, 5, none⟩ a5).setCell ⟨g, 6, none⟩ a6).setCell ⟨g, 7, none⟩ a7).setCell ⟨g, 8, none⟩ a8).setCell ⟨g, 9, none⟩ a9).setCell ⟨g, 10, none⟩ a10).setCell ⟨g', 0, none⟩ c0).setCell ⟨g', 1, none⟩ c1).setCell ⟨g', 2, none⟩ c2).setCell ⟨g', 3, none⟩ c3).setCell ⟨g', 4, none⟩ c4).setCell ⟨g', 5, none⟩ c5).setCell ⟨g', 6, none⟩ c6).setCell ⟨g', 7, none⟩ c7).setCell ⟨g', 8, none⟩ c8).setCell ⟨g', 9, none⟩ c9).setCell ⟨g', 10, none⟩ c10) (g') T #[c0, c1, c2, c3, c4, c5, c6, c7, c8, c9, c10] ∧ V.heap.size ≤ g ∧ V.heap.size ≤ g' ∧ g ≠ g' ∧ Below V.heap.size V ((((((((((((((((((((((w4.setCell ⟨g, 0, none⟩ a0).setCell ⟨g, 1, none⟩ a1).setCell ⟨g, 2, none⟩ a2).setCell ⟨g, 3, none⟩ a3).setCell ⟨g, 4, none⟩ a4).setCell ⟨g, 5, none⟩ a5).setCell ⟨g, 6, none⟩ a6).setCell ⟨g, 7, none⟩ a7).setCell ⟨g, 8, none⟩ a8).setCell ⟨g, 9, none⟩ a9).setCell ⟨g, 10, none⟩ a10).setCell ⟨g', 0, none⟩ c0).setCell ⟨g', 1, none⟩ c1).setCell ⟨g', 2, none⟩ c2).setCell ⟨g', 3, none⟩ c3).setCell ⟨g', 4, none⟩ c4).setCell ⟨g', 5, none⟩ c5).setCell ⟨g', 6, none⟩ c6).setCell ⟨g', 7, none⟩ c7).setCell ⟨g', 8, none⟩ c8).setCell ⟨g', 9, none⟩ c9).setCell ⟨g', 10, none⟩ c10) :=
  ⟨Blk.far11 _ _ _ _ _ _ _ _ _ _ _ hne (p.rest11 _ _ _ _ _ _ _ _ _ _ _), (Blk.far11 _ _ _ _ _ _ _ _ _ _ _ (Ne.symm hne) r).rest11 _ _ _ _ _ _ _ _ _ _ _, hg, hg', hne, below_rest11 _ _ _ _ _ _ _ _ _ _ _ hg' (below_rest11 _ _ _ _ _ _ _ _ _ _ _ hg b4)⟩
end
section
variable {w w1 : World} {T T' : TypeId} {g : Nat} {a0 a1 a2 a3 a4 a5 a6 a7 a8 a9 a10 c0 c1 c2 c3 c4 c5 c6 c7 c8 c9 c10 : Value}
theorem cells11 (h : Blk w g T #[a0, a1, a2, a3, a4, a5, a6, a7, a8, a9, a10]) : w.cell? ⟨g, 0, none⟩ = some a0 ∧ w.cell? ⟨g, 1, none⟩ = some a1 ∧ w.cell? ⟨g, 2, none⟩ = some a2 ∧ w.cell? ⟨g, 3, none⟩ = some a3 ∧ w.cell? ⟨g, 4, none⟩ = some a4 ∧ w.cell? ⟨g, 5, none⟩ = some a5 ∧ w.cell? ⟨g, 6, none⟩ = some a6 ∧ w.cell? ⟨g, 7, none⟩ = some a7 ∧ w.cell? ⟨g, 8, none⟩ = some a8 ∧ w.cell? ⟨g, 9, none⟩ = some a9 ∧ w.cell? ⟨g, 10, none⟩ = some a10 :=
  ⟨h.cell 0, h.cell 1, h.cell 2, h.cell 3, h.cell 4, h.cell 5, h.cell 6, h.cell 7, h.cell 8, h.cell 9, h.cell 10⟩
theorem chg11 {F : List Nat} (h : Chg F w w1) (hg : g ∈ F) : Chg F w (((((((((((w1.setCell ⟨g, 0, none⟩ c0).setCell ⟨g, 1, none⟩ c1).setCell ⟨g, 2, none⟩ c2).setCell ⟨g, 3, none⟩ c3).setCell ⟨g, 4, none⟩ c4).setCell ⟨g, 5, none⟩ c5).setCell ⟨g, 6, none⟩ c6).setCell ⟨g, 7, none⟩ c7).setCell ⟨g, 8, none⟩ c8).setCell ⟨g, 9, none⟩ c9).setCell ⟨g, 10, none⟩ c10) :=
  (((((((((((h.setCell (p := ⟨g, 0, none⟩) (.inl hg) c0).setCell (p := ⟨g, 1, none⟩) (.inl hg) c1).setCell (p := ⟨g, 2, none⟩) (.inl hg) c2).setCell (p := ⟨g, 3, none⟩) (.inl hg) c3).setCell (p := ⟨g, 4, none⟩) (.inl hg) c4).setCell (p := ⟨g, 5, none⟩) (.inl hg) c5).setCell (p := ⟨g, 6, none⟩) (.inl hg) c6).setCell (p := ⟨g, 7, none⟩) (.inl hg) c7).setCell (p := ⟨g, 8, none⟩) (.inl hg) c8).setCell (p := ⟨g, 9, none⟩) (.inl hg) c9).setCell (p := ⟨g, 10, none⟩) (.inl hg) c10)
theorem keep11 {R : Value → Option (DataW Unit × List MemPlace)} {zd : DataW Unit} {good : Rst → Value → Prop} {q N : Nat} (h : Tally R zd good w q N) (hne : q ≠ g) : Tally R zd good (((((((((((w.setCell ⟨g, 0, none⟩ c0).setCell ⟨g, 1, none⟩ c1).setCell ⟨g, 2, none⟩ c2).setCell ⟨g, 3, none⟩ c3).setCell ⟨g, 4, none⟩ c4).setCell ⟨g, 5, none⟩ c5).setCell ⟨g, 6, none⟩ c6).setCell ⟨g, 7, none⟩ c7).setCell ⟨g, 8, none⟩ c8).setCell ⟨g, 9, none⟩ c9).setCell ⟨g, 10, none⟩ c10) q N :=
  h.keep (by
    rw [Below.heap_setCell _ ⟨g, 10, none⟩ _ q hne, Below.heap_setCell _ ⟨g, 9, none⟩ _ q hne, Below.heap_setCell _ ⟨g, 8, none⟩ _ q hne, Below.heap_setCell _ ⟨g, 7, none⟩ _ q hne, Below.heap_setCell _ ⟨g, 6, none⟩ _ q hne, Below.heap_setCell _ ⟨g, 5, none⟩ _ q hne, Below.heap_setCell _ ⟨g, 4, none⟩ _ q hne, Below.heap_setCell _ ⟨g, 3, none⟩ _ q hne, Below.heap_setCell _ ⟨g, 2, none⟩ _ q hne, Below.heap_setCell _ ⟨g, 1, none⟩ _ q hne, Below.heap_setCell _ ⟨g, 0, none⟩ _ q hne])
theorem stepE {R : Value → Option (DataW Unit × List MemPlace)} {zd : DataW Unit} {good : Rst → Value → Prop} {q N : Nat} {F : List Nat} (hK : Blk w1 g T #[a0, a1, a2, a3, a4, a5, a6, a7, a8, a9, a10]) (hT : Tally R zd good w1 q N) (hne : q ≠ g) (hC : Chg F w w1) (hg : g ∈ F) :
    Blk (((((((((((w1.setCell ⟨g, 0, none⟩ c0).setCell ⟨g, 1, none⟩ c1).setCell ⟨g, 2, none⟩ c2).setCell ⟨g, 3, none⟩ c3).setCell ⟨g, 4, none⟩ c4).setCell ⟨g, 5, none⟩ c5).setCell ⟨g, 6, none⟩ c6).setCell ⟨g, 7, none⟩ c7).setCell ⟨g, 8, none⟩ c8).setCell ⟨g, 9, none⟩ c9).setCell ⟨g, 10, none⟩ c10) g T #[c0, c1, c2, c3, c4, c5, c6, c7, c8, c9, c10] ∧ Tally R zd good (((((((((((w1.setCell ⟨g, 0, none⟩ c0).setCell ⟨g, 1, none⟩ c1).setCell ⟨g, 2, none⟩ c2).setCell ⟨g, 3, none⟩ c3).setCell ⟨g, 4, none⟩ c4).setCell ⟨g, 5, none⟩ c5).setCell ⟨g, 6, none⟩ c6).setCell ⟨g, 7, none⟩ c7).setCell ⟨g, 8, none⟩ c8).setCell ⟨g, 9, none⟩ c9).setCell ⟨g, 10, none⟩ c10) q N ∧ Chg F w (((((((((((w1.setCell ⟨g, 0, none⟩ c0).setCell ⟨g, 1, none⟩ c1).setCell ⟨g, 2, none⟩ c2).setCell ⟨g, 3, none⟩ c3).setCell ⟨g, 4, none⟩ c4).setCell ⟨g, 5, none⟩ c5).setCell ⟨g, 6, none⟩ c6).setCell ⟨g, 7, none⟩ c7).setCell ⟨g, 8, none⟩ c8).setCell ⟨g, 9, none⟩ c9).setCell ⟨g, 10, none⟩ c10) := ⟨hK.rest11 _ _ _ _ _ _ _ _ _ _ _, keep11 hT hne, chg11 hC hg⟩
end
set_option maxRecDepth 200000 in
set_option maxHeartbeats 16000000 in
theorem nth_any (F G : List Nat) (gs go n room cb : Nat) (cs : List (Option Rec)) (free : List Int) (ps ls : List Int) (f : Int) (q : Nat) (m : Nat) (x : Rst) (lv N k : Nat) (w : World) (hm : lv + m = n) (hx : RstOk n lv x) (hC : TlAt w F gs go n room cb cs free f q) (hO : OrdAt w G go ps ls) (hfit : Fits ps ls) (hqG : q ∉ G) (hpl : ps.length = n) (hT : TallyC cs n f w q N) (hN : N + 2 ^ m ≤ 1000000) (hk : k < cntR cs n f m x) :
    Calls Tryz.prog 45 #[.pointer (some ⟨cb, 0, none⟩), .agg #[.bool x.inn, .bool x.node, .int .u8 x.r.form, .int .u8 x.r.top, .int .u8 x.r.bot, .int .u8 x.r.lo.tag, .int .u32 x.r.lo.pos, .int .u8 x.r.hi.tag, .int .u32 x.r.hi.pos, .int .u8 x.tag, .int .u8 x.l], .int .i64 (k : Nat), .map (some q)] w (TlPost cs n f (upM ps n (nthR cs n f m x k 0)) w q (N + 2 ^ m)) := by
  have hn16 := hC.st.ok.n16
  obtain ⟨W, hW⟩ : ∃ W, W = w.alloc (.cells #[.bool x.inn, .bool x.node, .int .u8 x.r.form, .int .u8 x.r.top, .int .u8 x.r.bot, .int .u8 x.r.lo.tag, .int .u32 x.r.lo.pos, .int .u8 x.r.hi.tag, .int .u32 x.r.hi.pos, .int .u8 x.tag, .int .u8 x.l] 78) := ⟨_, rfl⟩
  have hbW : Below w.heap.size w W := by rw [hW]; exact (Below.refl _ _).alloc (Nat.le_refl _) _
  have hK : Blk W w.heap.size 78 #[.bool x.inn, .bool x.node, .int .u8 x.r.form, .int .u8 x.r.top, .int .u8 x.r.bot, .int .u8 x.r.lo.tag, .int .u32 x.r.lo.pos, .int .u8 x.r.hi.tag, .int .u32 x.r.hi.pos, .int .u8 x.tag, .int .u8 x.l] := by rw [hW]; exact Blk.new w _ _
  have HWW := Lib.hid hW
  have HBW := Lib.hid hbW
  have HK := Lib.hid hK
  have hK0 := hK.lt
  have HT := Lib.hid (hT.on hbW)
  have HC := Lib.hid hC
  have HCC : Hid (∀ W', Chg [q, w.heap.size] W W' → TlAt W' F gs go n room cb cs free f q) := Lib.hid (fun W' h => by
    have h1 := hC.chg (chg_of_below hbW)
    have hF := hC.st.lt
    have hcb := Blk.lt hC.ca
    have h2 := hC.qc
    refine ⟨h1.st.chg h (fun k hk hm => ?_), h1.ca.chg h ?_, h1.hcs, h1.qF, h1.qc⟩
    · simp at hm
      rcases hm with rfl | rfl
      · exact h1.qF hk
      · have := hF _ hk; omega
    · simp
      exact ⟨h2, by omega⟩)
  have HX := Lib.hid hx
  have HO := Lib.hid hO
  have HOC : Hid (∀ W', Chg [q, w.heap.size] W W' → OrdAt W' G go ps ls) := Lib.hid (fun W' h => by
    have hG := hO.lt
    refine (hO.on hbW).chg h (fun k hk hm => ?_)
    simp at hm
    rcases hm with rfl | rfl
    · exact hqG hk
    · have := hG _ hk; omega)
  have HWB : Hid (∀ W', Chg [q, w.heap.size] W W' → Chg [q] w W') := Lib.hid (fun W' h => (chg_of_below (F := [q]) hbW).trans h (fun x hx => by
    simp at hx
    rcases hx with rfl | rfl
    · left; simp
    · right; omega))
  have HKK := Lib.hid hk
  have HBW0 : Hid (w.heap.size < W.heap.size) := Lib.hid hK0
  have hqw := hT.lt
  clear hbW hK hT hC hx hO hk
  go_enter Tryz.func45, Tryz.ntmps45
  go_wp2_with fail
  rw [← HWW.out]
  clear hW
  go_loopw [2, 9] (fun kv yv wr => ∃ (m' k' y' N' : Nat) (x' : Rst), kv = .int .i64 (k' : Int) ∧ yv = .int .i64 (y' : Int) ∧ m' ≤ m ∧ Hid (RstOk n (lv + (m - m') : Nat) x' ∧ k' < cntR cs n f m' x' ∧ nthR cs n f m' x' k' y' = nthR cs n f m x k 0 ∧ y' < 2 ^ (m - m') ∧ Blk wr w.heap.size 78 #[.bool x'.inn, .bool x'.node, .int .u8 x'.r.form, .int .u8 x'.r.top, .int .u8 x'.r.bot, .int .u8 x'.r.lo.tag, .int .u32 x'.r.lo.pos, .int .u8 x'.r.hi.tag, .int .u32 x'.r.hi.pos, .int .u8 x'.tag, .int .u8 x'.l] ∧ TallyC cs n f wr q N' ∧ N' + 2 ^ m' ≤ N + 2 ^ m ∧ Chg [q, w.heap.size] W wr)) (fun kv yv wr => match wr.cell? ⟨w.heap.size, 10, none⟩ with | some (.int _ l) => n - l.toNat | _ => 0)
  case atStart => exact ⟨m, k, 0, N, x, rfl, rfl, Nat.le_refl _, Lib.hid ⟨by rw [Nat.sub_self, Nat.add_zero]; exact HX.out, HKK.out, rfl, by rw [Nat.sub_self]; decide, HK.out, HT.out, Nat.le_refl _, Chg.refl _ _⟩⟩
  case round =>
    obtain ⟨m', k', y', N', x', rfl, rfl, hmm, HR⟩ := hrel
    have hok := HR.out.1
    have hk' := HR.out.2.1
    have hin := inn_of_cnt hk'
    have hl := hok.l hin
    have hl0 := hok.ln
    have hkb := HR.out.2.2.2.2.1
    have hch := HR.out.2.2.2.2.2.2.2
    have hkl := hkb.lt
    have k10 : wr.cell? ⟨w.heap.size, 10, none⟩ = some (.int .u8 x'.l) := hkb.cell 10
    have hcaw := HCC.out wr hch
    have c3 : wr.cell? ⟨cb, 3, none⟩ = some (.int .i64 (n : Nat)) := hcaw.ca.cell 3
    have hcl := Blk.lt hcaw.ca
    have hcv : IntKind.i64.wrap x'.l = x'.l := IntWalk.i64_in _ ⟨by omega, by omega⟩
    have HIN := Lib.hid hin
    clear hcaw hkb hch hin hk' hok
    cases m' with
    | zero =>
      obtain hl1 : x'.l = (n : Int) := by omega
      rw [hl1] at k10 hcv
      have HRES : Hid (nthR cs n f m x k 0 = y') := Lib.hid (by rw [← HR.out.2.2.1]; rfl)
      have HN0 : Hid (N' ≤ N + 2 ^ m) := Lib.hid (by have := HR.out.2.2.2.2.2.2.1; omega)
      have HTN := Lib.hid HR.out.2.2.2.2.2.1
      have HCH := Lib.hid HR.out.2.2.2.2.2.2.2
      have HY : Hid (y' < 2 ^ n) := Lib.hid (Nat.lt_of_lt_of_le HR.out.2.2.2.1 (Nat.pow_le_pow_right (by omega) (by omega)))
      clear HR hl1 hl hl0 hkl
      go_wp2_with fail
      go_quiet (fail)
      refine world_gen (fun V => Below wr.heap.size wr V) (below_drewN (Below.refl _ _) _) ?_
      intro V hbV
      have hcV := chg_thenB HCH.out hbV
      have HU := Lib.hid (castUp_any G gs go n cb y' ps ls f V (HOC.out V hcV) hfit hpl (HCC.out V hcV).ca HY.out)
      have HTV := Lib.hid (HTN.out.on hbV)
      have HCV := Lib.hid hcV
      clear hbV hcV k10 c3 hcv
      go_wp2_with fail
      refine HU.out.mono ?_
      rintro e w2 ⟨rfl, hb2⟩
      have HFIN : Hid (TlPost cs n f (upM ps n (nthR cs n f m x k 0)) w q (N + 2 ^ m) (.returned (.int .i64 (upM ps n y' : Nat))) w2) := Lib.hid ⟨by rw [HRES.out], (HTV.out.on hb2).mono HN0.out, HWB.out _ (chg_thenB HCV.out hb2)⟩
      clear hb2
      go_wp2_with fail
      go_ret
      exact HFIN.out
    | succ m' =>
      have hlt : x'.l < (n : Int) := by omega
      have HL := Lib.hid hl
      have K10 := Lib.hid k10
      obtain ⟨xa, hxa⟩ : ∃ xa, xa = halfR cs n f x' false := ⟨_, rfl⟩
      obtain ⟨xb, hxb⟩ : ∃ xb, xb = halfR cs n f x' true := ⟨_, rfl⟩
      have hhalf : ∀ (one : Bool) (y' : Rst) W', y' = halfR cs n f x' one → TlAt W' F gs go n room cb cs free f q → Calls Tryz.prog 47 #[.pointer (some ⟨cb, 0, none⟩), .agg #[.bool true, .bool x'.node, .int .u8 x'.r.form, .int .u8 x'.r.top, .int .u8 x'.r.bot, .int .u8 x'.r.lo.tag, .int .u32 x'.r.lo.pos, .int .u8 x'.r.hi.tag, .int .u32 x'.r.hi.pos, .int .u8 x'.tag, .int .u8 x'.l], .bool one] W' fun e w' => e = .returned (.agg #[.bool y'.inn, .bool y'.node, .int .u8 y'.r.form, .int .u8 y'.r.top, .int .u8 y'.r.bot, .int .u8 y'.r.lo.tag, .int .u32 y'.r.lo.pos, .int .u8 y'.r.hi.tag, .int .u32 y'.r.hi.pos, .int .u8 y'.tag, .int .u8 y'.l]) ∧ Below W'.heap.size W' w' := fun one y' W' hy' h' => by
        have := half_any F gs go n room cb cs free f x' _ one W' h'.st h'.ca HR.out.1 HIN.out (by omega) h'.hcs
        unfold Rst.cells at this
        rw [HIN.out] at this
        rw [hy']
        exact this
      have HHA := Lib.hid (fun W' (h : Chg [q, w.heap.size] W W') => hhalf false xa W' hxa (HCC.out W' h))
      have HHB := Lib.hid (fun W' (h : Chg [q, w.heap.size] W W') => hhalf true xb W' hxb (HCC.out W' h))
      have HXA := Lib.hid hxa
      have HXB := Lib.hid hxb
      clear hxa hxb hhalf hl
      go_wp2_with fail
      go_quiet (fail)
      refine world_gen (fun V => Below wr.heap.size wr V) (below_drewN (Below.refl _ _) _) ?_
      intro V hbV
      have hchV : Chg [q, w.heap.size] W V := chg_thenB HR.out.2.2.2.2.2.2.2 hbV
      have hkV : Blk V w.heap.size 78 #[.bool true, .bool x'.node, .int .u8 x'.r.form, .int .u8 x'.r.top, .int .u8 x'.r.bot, .int .u8 x'.r.lo.tag, .int .u32 x'.r.lo.pos, .int .u8 x'.r.hi.tag, .int .u32 x'.r.hi.pos, .int .u8 x'.tag, .int .u8 x'.l] := by
        have := HR.out.2.2.2.2.1.onB hbV
        rw [HIN.out] at this
        exact this
      have HKV := Lib.hid hkV
      have HBV := Lib.hid hbV
      have HCV := Lib.hid hchV
      have FACTS : Hid (∀ W', Below V.heap.size V W' → W'.cell? ⟨w.heap.size, 0, none⟩ = some (.bool true) ∧ W'.cell? ⟨w.heap.size, 1, none⟩ = some (.bool x'.node) ∧ W'.cell? ⟨w.heap.size, 2, none⟩ = some (.int .u8 x'.r.form) ∧ W'.cell? ⟨w.heap.size, 3, none⟩ = some (.int .u8 x'.r.top) ∧ W'.cell? ⟨w.heap.size, 4, none⟩ = some (.int .u8 x'.r.bot) ∧ W'.cell? ⟨w.heap.size, 5, none⟩ = some (.int .u8 x'.r.lo.tag) ∧ W'.cell? ⟨w.heap.size, 6, none⟩ = some (.int .u32 x'.r.lo.pos) ∧ W'.cell? ⟨w.heap.size, 7, none⟩ = some (.int .u8 x'.r.hi.tag) ∧ W'.cell? ⟨w.heap.size, 8, none⟩ = some (.int .u32 x'.r.hi.pos) ∧ W'.cell? ⟨w.heap.size, 9, none⟩ = some (.int .u8 x'.tag) ∧ W'.cell? ⟨w.heap.size, 10, none⟩ = some (.int .u8 x'.l)) := Lib.hid (fun W' hW' => by
        have h := hkV.onB hW'
        exact ⟨h.cell 0, h.cell 1, h.cell 2, h.cell 3, h.cell 4, h.cell 5, h.cell 6, h.cell 7, h.cell 8, h.cell 9, h.cell 10⟩)
      obtain ⟨k0, k1, k2, k3, k4, k5, k6, k7, k8, k9, k10⟩ := FACTS.out V (Below.refl _ _)
      clear hchV hkV c3
      go_upto_region 3 with fail
      go_cut [10, 11] (fun p r wx => ∃ b1 b2, p = .pointer (some ⟨b1, 0, none⟩) ∧ r = .pointer (some ⟨b2, 0, none⟩) ∧ Blk wx b1 78 #[.bool xa.inn, .bool xa.node, .int .u8 xa.r.form, .int .u8 xa.r.top, .int .u8 xa.r.bot, .int .u8 xa.r.lo.tag, .int .u32 xa.r.lo.pos, .int .u8 xa.r.hi.tag, .int .u32 xa.r.hi.pos, .int .u8 xa.tag, .int .u8 xa.l] ∧ Blk wx b2 78 #[.bool xb.inn, .bool xb.node, .int .u8 xb.r.form, .int .u8 xb.r.top, .int .u8 xb.r.bot, .int .u8 xb.r.lo.tag, .int .u32 xb.r.lo.pos, .int .u8 xb.r.hi.tag, .int .u32 xb.r.hi.pos, .int .u8 xb.tag, .int .u8 xb.l] ∧ V.heap.size ≤ b1 ∧ V.heap.size ≤ b2 ∧ b1 ≠ b2 ∧ Below V.heap.size V wx)
      case first =>
        have LFA : Hid (∀ u, Below V.heap.size V u → Blk ((u.alloc (.cells #[.bool xa.inn, .bool xa.node, .int .u8 xa.r.form, .int .u8 xa.r.top, .int .u8 xa.r.bot, .int .u8 xa.r.lo.tag, .int .u32 xa.r.lo.pos, .int .u8 xa.r.hi.tag, .int .u32 xa.r.hi.pos, .int .u8 xa.tag, .int .u8 xa.l] 78)).alloc (.cells #[.bool xb.inn, .bool xb.node, .int .u8 xb.r.form, .int .u8 xb.r.top, .int .u8 xb.r.bot, .int .u8 xb.r.lo.tag, .int .u32 xb.r.lo.pos, .int .u8 xb.r.hi.tag, .int .u32 xb.r.hi.pos, .int .u8 xb.tag, .int .u8 xb.l] 78)) (u.heap.size) 78 #[.bool xa.inn, .bool xa.node, .int .u8 xa.r.form, .int .u8 xa.r.top, .int .u8 xa.r.bot, .int .u8 xa.r.lo.tag, .int .u32 xa.r.lo.pos, .int .u8 xa.r.hi.tag, .int .u32 xa.r.hi.pos, .int .u8 xa.tag, .int .u8 xa.l] ∧ Blk ((u.alloc (.cells #[.bool xa.inn, .bool xa.node, .int .u8 xa.r.form, .int .u8 xa.r.top, .int .u8 xa.r.bot, .int .u8 xa.r.lo.tag, .int .u32 xa.r.lo.pos, .int .u8 xa.r.hi.tag, .int .u32 xa.r.hi.pos, .int .u8 xa.tag, .int .u8 xa.l] 78)).alloc (.cells #[.bool xb.inn, .bool xb.node, .int .u8 xb.r.form, .int .u8 xb.r.top, .int .u8 xb.r.bot, .int .u8 xb.r.lo.tag, .int .u32 xb.r.lo.pos, .int .u8 xb.r.hi.tag, .int .u32 xb.r.hi.pos, .int .u8 xb.tag, .int .u8 xb.l] 78)) (u.heap.size + 1) 78 #[.bool xb.inn, .bool xb.node, .int .u8 xb.r.form, .int .u8 xb.r.top, .int .u8 xb.r.bot, .int .u8 xb.r.lo.tag, .int .u32 xb.r.lo.pos, .int .u8 xb.r.hi.tag, .int .u32 xb.r.hi.pos, .int .u8 xb.tag, .int .u8 xb.l] ∧ V.heap.size ≤ u.heap.size ∧ V.heap.size ≤ u.heap.size + 1 ∧ u.heap.size ≠ u.heap.size + 1 ∧ Below V.heap.size V ((u.alloc (.cells #[.bool xa.inn, .bool xa.node, .int .u8 xa.r.form, .int .u8 xa.r.top, .int .u8 xa.r.bot, .int .u8 xa.r.lo.tag, .int .u32 xa.r.lo.pos, .int .u8 xa.r.hi.tag, .int .u32 xa.r.hi.pos, .int .u8 xa.tag, .int .u8 xa.l] 78)).alloc (.cells #[.bool xb.inn, .bool xb.node, .int .u8 xb.r.form, .int .u8 xb.r.top, .int .u8 xb.r.bot, .int .u8 xb.r.lo.tag, .int .u32 xb.r.lo.pos, .int .u8 xb.r.hi.tag, .int .u32 xb.r.hi.pos, .int .u8 xb.tag, .int .u8 xb.l] 78))) := Lib.hid (fun u b => lfA b)
        have LFA' : Hid (∀ u, Below V.heap.size V u → Blk ((u.alloc (.cells #[.bool xb.inn, .bool xb.node, .int .u8 xb.r.form, .int .u8 xb.r.top, .int .u8 xb.r.bot, .int .u8 xb.r.lo.tag, .int .u32 xb.r.lo.pos, .int .u8 xb.r.hi.tag, .int .u32 xb.r.hi.pos, .int .u8 xb.tag, .int .u8 xb.l] 78)).alloc (.cells #[.bool xa.inn, .bool xa.node, .int .u8 xa.r.form, .int .u8 xa.r.top, .int .u8 xa.r.bot, .int .u8 xa.r.lo.tag, .int .u32 xa.r.lo.pos, .int .u8 xa.r.hi.tag, .int .u32 xa.r.hi.pos, .int .u8 xa.tag, .int .u8 xa.l] 78)) (u.heap.size + 1) 78 #[.bool xa.inn, .bool xa.node, .int .u8 xa.r.form, .int .u8 xa.r.top, .int .u8 xa.r.bot, .int .u8 xa.r.lo.tag, .int .u32 xa.r.lo.pos, .int .u8 xa.r.hi.tag, .int .u32 xa.r.hi.pos, .int .u8 xa.tag, .int .u8 xa.l] ∧ Blk ((u.alloc (.cells #[.bool xb.inn, .bool xb.node, .int .u8 xb.r.form, .int .u8 xb.r.top, .int .u8 xb.r.bot, .int .u8 xb.r.lo.tag, .int .u32 xb.r.lo.pos, .int .u8 xb.r.hi.tag, .int .u32 xb.r.hi.pos, .int .u8 xb.tag, .int .u8 xb.l] 78)).alloc (.cells #[.bool xa.inn, .bool xa.node, .int .u8 xa.r.form, .int .u8 xa.r.top, .int .u8 xa.r.bot, .int .u8 xa.r.lo.tag, .int .u32 xa.r.lo.pos, .int .u8 xa.r.hi.tag, .int .u32 xa.r.hi.pos, .int .u8 xa.tag, .int .u8 xa.l] 78)) (u.heap.size) 78 #[.bool xb.inn, .bool xb.node, .int .u8 xb.r.form, .int .u8 xb.r.top, .int .u8 xb.r.bot, .int .u8 xb.r.lo.tag, .int .u32 xb.r.lo.pos, .int .u8 xb.r.hi.tag, .int .u32 xb.r.hi.pos, .int .u8 xb.tag, .int .u8 xb.l] ∧ V.heap.size ≤ u.heap.size + 1 ∧ V.heap.size ≤ u.heap.size ∧ u.heap.size + 1 ≠ u.heap.size ∧ Below V.heap.size V ((u.alloc (.cells #[.bool xb.inn, .bool xb.node, .int .u8 xb.r.form, .int .u8 xb.r.top, .int .u8 xb.r.bot, .int .u8 xb.r.lo.tag, .int .u32 xb.r.lo.pos, .int .u8 xb.r.hi.tag, .int .u32 xb.r.hi.pos, .int .u8 xb.tag, .int .u8 xb.l] 78)).alloc (.cells #[.bool xa.inn, .bool xa.node, .int .u8 xa.r.form, .int .u8 xa.r.top, .int .u8 xa.r.bot, .int .u8 xa.r.lo.tag, .int .u32 xa.r.lo.pos, .int .u8 xa.r.hi.tag, .int .u32 xa.r.hi.pos, .int .u8 xa.tag, .int .u8 xa.l] 78))) := Lib.hid (fun u b => lfA' b)
        have LFB : Hid (∀ u g, Below V.heap.size V u → Blk u g 78 Z11 → V.heap.size ≤ g → Blk ((((((((((((u.setCell ⟨g, 0, none⟩ (.bool xa.inn)).setCell ⟨g, 1, none⟩ (.bool xa.node)).setCell ⟨g, 2, none⟩ (.int .u8 xa.r.form)).setCell ⟨g, 3, none⟩ (.int .u8 xa.r.top)).setCell ⟨g, 4, none⟩ (.int .u8 xa.r.bot)).setCell ⟨g, 5, none⟩ (.int .u8 xa.r.lo.tag)).setCell ⟨g, 6, none⟩ (.int .u32 xa.r.lo.pos)).setCell ⟨g, 7, none⟩ (.int .u8 xa.r.hi.tag)).setCell ⟨g, 8, none⟩ (.int .u32 xa.r.hi.pos)).setCell ⟨g, 9, none⟩ (.int .u8 xa.tag)).setCell ⟨g, 10, none⟩ (.int .u8 xa.l)).alloc (.cells #[.bool xb.inn, .bool xb.node, .int .u8 xb.r.form, .int .u8 xb.r.top, .int .u8 xb.r.bot, .int .u8 xb.r.lo.tag, .int .u32 xb.r.lo.pos, .int .u8 xb.r.hi.tag, .int .u32 xb.r.hi.pos, .int .u8 xb.tag, .int .u8 xb.l] 78)) (g) 78 #[.bool xa.inn, .bool xa.node, .int .u8 xa.r.form, .int .u8 xa.r.top, .int .u8 xa.r.bot, .int .u8 xa.r.lo.tag, .int .u32 xa.r.lo.pos, .int .u8 xa.r.hi.tag, .int .u32 xa.r.hi.pos, .int .u8 xa.tag, .int .u8 xa.l] ∧ Blk ((((((((((((u.setCell ⟨g, 0, none⟩ (.bool xa.inn)).setCell ⟨g, 1, none⟩ (.bool xa.node)).setCell ⟨g, 2, none⟩ (.int .u8 xa.r.form)).setCell ⟨g, 3, none⟩ (.int .u8 xa.r.top)).setCell ⟨g, 4, none⟩ (.int .u8 xa.r.bot)).setCell ⟨g, 5, none⟩ (.int .u8 xa.r.lo.tag)).setCell ⟨g, 6, none⟩ (.int .u32 xa.r.lo.pos)).setCell ⟨g, 7, none⟩ (.int .u8 xa.r.hi.tag)).setCell ⟨g, 8, none⟩ (.int .u32 xa.r.hi.pos)).setCell ⟨g, 9, none⟩ (.int .u8 xa.tag)).setCell ⟨g, 10, none⟩ (.int .u8 xa.l)).alloc (.cells #[.bool xb.inn, .bool xb.node, .int .u8 xb.r.form, .int .u8 xb.r.top, .int .u8 xb.r.bot, .int .u8 xb.r.lo.tag, .int .u32 xb.r.lo.pos, .int .u8 xb.r.hi.tag, .int .u32 xb.r.hi.pos, .int .u8 xb.tag, .int .u8 xb.l] 78)) (u.heap.size) 78 #[.bool xb.inn, .bool xb.node, .int .u8 xb.r.form, .int .u8 xb.r.top, .int .u8 xb.r.bot, .int .u8 xb.r.lo.tag, .int .u32 xb.r.lo.pos, .int .u8 xb.r.hi.tag, .int .u32 xb.r.hi.pos, .int .u8 xb.tag, .int .u8 xb.l] ∧ V.heap.size ≤ g ∧ V.heap.size ≤ u.heap.size ∧ g ≠ u.heap.size ∧ Below V.heap.size V ((((((((((((u.setCell ⟨g, 0, none⟩ (.bool xa.inn)).setCell ⟨g, 1, none⟩ (.bool xa.node)).setCell ⟨g, 2, none⟩ (.int .u8 xa.r.form)).setCell ⟨g, 3, none⟩ (.int .u8 xa.r.top)).setCell ⟨g, 4, none⟩ (.int .u8 xa.r.bot)).setCell ⟨g, 5, none⟩ (.int .u8 xa.r.lo.tag)).setCell ⟨g, 6, none⟩ (.int .u32 xa.r.lo.pos)).setCell ⟨g, 7, none⟩ (.int .u8 xa.r.hi.tag)).setCell ⟨g, 8, none⟩ (.int .u32 xa.r.hi.pos)).setCell ⟨g, 9, none⟩ (.int .u8 xa.tag)).setCell ⟨g, 10, none⟩ (.int .u8 xa.l)).alloc (.cells #[.bool xb.inn, .bool xb.node, .int .u8 xb.r.form, .int .u8 xb.r.top, .int .u8 xb.r.bot, .int .u8 xb.r.lo.tag, .int .u32 xb.r.lo.pos, .int .u8 xb.r.hi.tag, .int .u32 xb.r.hi.pos, .int .u8 xb.tag, .int .u8 xb.l] 78))) := Lib.hid (fun u g b p h => lfB b p h)
        have LFB' : Hid (∀ u g, Below V.heap.size V u → Blk u g 78 Z11 → V.heap.size ≤ g → Blk ((((((((((((u.setCell ⟨g, 0, none⟩ (.bool xb.inn)).setCell ⟨g, 1, none⟩ (.bool xb.node)).setCell ⟨g, 2, none⟩ (.int .u8 xb.r.form)).setCell ⟨g, 3, none⟩ (.int .u8 xb.r.top)).setCell ⟨g, 4, none⟩ (.int .u8 xb.r.bot)).setCell ⟨g, 5, none⟩ (.int .u8 xb.r.lo.tag)).setCell ⟨g, 6, none⟩ (.int .u32 xb.r.lo.pos)).setCell ⟨g, 7, none⟩ (.int .u8 xb.r.hi.tag)).setCell ⟨g, 8, none⟩ (.int .u32 xb.r.hi.pos)).setCell ⟨g, 9, none⟩ (.int .u8 xb.tag)).setCell ⟨g, 10, none⟩ (.int .u8 xb.l)).alloc (.cells #[.bool xa.inn, .bool xa.node, .int .u8 xa.r.form, .int .u8 xa.r.top, .int .u8 xa.r.bot, .int .u8 xa.r.lo.tag, .int .u32 xa.r.lo.pos, .int .u8 xa.r.hi.tag, .int .u32 xa.r.hi.pos, .int .u8 xa.tag, .int .u8 xa.l] 78)) (u.heap.size) 78 #[.bool xa.inn, .bool xa.node, .int .u8 xa.r.form, .int .u8 xa.r.top, .int .u8 xa.r.bot, .int .u8 xa.r.lo.tag, .int .u32 xa.r.lo.pos, .int .u8 xa.r.hi.tag, .int .u32 xa.r.hi.pos, .int .u8 xa.tag, .int .u8 xa.l] ∧ Blk ((((((((((((u.setCell ⟨g, 0, none⟩ (.bool xb.inn)).setCell ⟨g, 1, none⟩ (.bool xb.node)).setCell ⟨g, 2, none⟩ (.int .u8 xb.r.form)).setCell ⟨g, 3, none⟩ (.int .u8 xb.r.top)).setCell ⟨g, 4, none⟩ (.int .u8 xb.r.bot)).setCell ⟨g, 5, none⟩ (.int .u8 xb.r.lo.tag)).setCell ⟨g, 6, none⟩ (.int .u32 xb.r.lo.pos)).setCell ⟨g, 7, none⟩ (.int .u8 xb.r.hi.tag)).setCell ⟨g, 8, none⟩ (.int .u32 xb.r.hi.pos)).setCell ⟨g, 9, none⟩ (.int .u8 xb.tag)).setCell ⟨g, 10, none⟩ (.int .u8 xb.l)).alloc (.cells #[.bool xa.inn, .bool xa.node, .int .u8 xa.r.form, .int .u8 xa.r.top, .int .u8 xa.r.bot, .int .u8 xa.r.lo.tag, .int .u32 xa.r.lo.pos, .int .u8 xa.r.hi.tag, .int .u32 xa.r.hi.pos, .int .u8 xa.tag, .int .u8 xa.l] 78)) (g) 78 #[.bool xb.inn, .bool xb.node, .int .u8 xb.r.form, .int .u8 xb.r.top, .int .u8 xb.r.bot, .int .u8 xb.r.lo.tag, .int .u32 xb.r.lo.pos, .int .u8 xb.r.hi.tag, .int .u32 xb.r.hi.pos, .int .u8 xb.tag, .int .u8 xb.l] ∧ V.heap.size ≤ u.heap.size ∧ V.heap.size ≤ g ∧ u.heap.size ≠ g ∧ Below V.heap.size V ((((((((((((u.setCell ⟨g, 0, none⟩ (.bool xb.inn)).setCell ⟨g, 1, none⟩ (.bool xb.node)).setCell ⟨g, 2, none⟩ (.int .u8 xb.r.form)).setCell ⟨g, 3, none⟩ (.int .u8 xb.r.top)).setCell ⟨g, 4, none⟩ (.int .u8 xb.r.bot)).setCell ⟨g, 5, none⟩ (.int .u8 xb.r.lo.tag)).setCell ⟨g, 6, none⟩ (.int .u32 xb.r.lo.pos)).setCell ⟨g, 7, none⟩ (.int .u8 xb.r.hi.tag)).setCell ⟨g, 8, none⟩ (.int .u32 xb.r.hi.pos)).setCell ⟨g, 9, none⟩ (.int .u8 xb.tag)).setCell ⟨g, 10, none⟩ (.int .u8 xb.l)).alloc (.cells #[.bool xa.inn, .bool xa.node, .int .u8 xa.r.form, .int .u8 xa.r.top, .int .u8 xa.r.bot, .int .u8 xa.r.lo.tag, .int .u32 xa.r.lo.pos, .int .u8 xa.r.hi.tag, .int .u32 xa.r.hi.pos, .int .u8 xa.tag, .int .u8 xa.l] 78))) := Lib.hid (fun u g b p h => lfB' b p h)
        have LFC : Hid (∀ u g g', Below V.heap.size V u → Blk u g 78 Z11 → Blk u g' 78 Z11 → V.heap.size ≤ g → V.heap.size ≤ g' → g ≠ g' → Blk ((((((((((((((((((((((u.setCell ⟨g, 0, none⟩ (.bool xa.inn)).setCell ⟨g, 1, none⟩ (.bool xa.node)).setCell ⟨g, 2, none⟩ (.int .u8 xa.r.form)).setCell ⟨g, 3, none⟩ (.int .u8 xa.r.top)).setCell ⟨g, 4, none⟩ (.int .u8 xa.r.bot)).setCell ⟨g, 5, none⟩ (.int .u8 xa.r.lo.tag)).setCell ⟨g, 6, none⟩ (.int .u32 xa.r.lo.pos)).setCell ⟨g, 7, none⟩ (.int .u8 xa.r.hi.tag)).setCell ⟨g, 8, none⟩ (.int .u32 xa.r.hi.pos)).setCell ⟨g, 9, none⟩ (.int .u8 xa.tag)).setCell ⟨g, 10, none⟩ (.int .u8 xa.l)).setCell ⟨g', 0, none⟩ (.bool xb.inn)).setCell ⟨g', 1, none⟩ (.bool xb.node)).setCell ⟨g', 2, none⟩ (.int .u8 xb.r.form)).setCell ⟨g', 3, none⟩ (.int .u8 xb.r.top)).setCell ⟨g', 4, none⟩ (.int .u8 xb.r.bot)).setCell ⟨g', 5, none⟩ (.int .u8 xb.r.lo.tag)).setCell ⟨g', 6, none⟩ (.int .u32 xb.r.lo.pos)).setCell ⟨g', 7, none⟩ (.int .u8 xb.r.hi.tag)).setCell ⟨g', 8, none⟩ (.int .u32 xb.r.hi.pos)).setCell ⟨g', 9, none⟩ (.int .u8 xb.tag)).setCell ⟨g', 10, none⟩ (.int .u8 xb.l)) (g) 78 #[.bool xa.inn, .bool xa.node, .int .u8 xa.r.form, .int .u8 xa.r.top, .int .u8 xa.r.bot, .int .u8 xa.r.lo.tag, .int .u32 xa.r.lo.pos, .int .u8 xa.r.hi.tag, .int .u32 xa.r.hi.pos, .int .u8 xa.tag, .int .u8 xa.l] ∧ Blk ((((((((((((((((((((((u.setCell ⟨g, 0, none⟩ (.bool xa.inn)).setCell ⟨g, 1, none⟩ (.bool xa.node)).setCell ⟨g, 2, none⟩ (.int .u8 xa.r.form)).setCell ⟨g, 3, none⟩ (.int .u8 xa.r.top)).setCell ⟨g, 4, none⟩ (.int .u8 xa.r.bot)).setCell ⟨g, 5, none⟩ (.int .u8 xa.r.lo.tag)).setCell ⟨g, 6, none⟩ (.int .u32 xa.r.lo.pos)).setCell ⟨g, 7, none⟩ (.int .u8 xa.r.hi.tag)).setCell ⟨g, 8, none⟩ (.int .u32 xa.r.hi.pos)).setCell ⟨g, 9, none⟩ (.int .u8 xa.tag)).setCell ⟨g, 10, none⟩ (.int .u8 xa.l)).setCell ⟨g', 0, none⟩ (.bool xb.inn)).setCell ⟨g', 1, none⟩ (.bool xb.node)).setCell ⟨g', 2, none⟩ (.int .u8 xb.r.form)).setCell ⟨g', 3, none⟩ (.int .u8 xb.r.top)).setCell ⟨g', 4, none⟩ (.int .u8 xb.r.bot)).setCell ⟨g', 5, none⟩ (.int .u8 xb.r.lo.tag)).setCell ⟨g', 6, none⟩ (.int .u32 xb.r.lo.pos)).setCell ⟨g', 7, none⟩ (.int .u8 xb.r.hi.tag)).setCell ⟨g', 8, none⟩ (.int .u32 xb.r.hi.pos)).setCell ⟨g', 9, none⟩ (.int .u8 xb.tag)).setCell ⟨g', 10, none⟩ (.int .u8 xb.l)) (g') 78 #[.bool xb.inn, .bool xb.node, .int .u8 xb.r.form, .int .u8 xb.r.top, .int .u8 xb.r.bot, .int .u8 xb.r.lo.tag, .int .u32 xb.r.lo.pos, .int .u8 xb.r.hi.tag, .int .u32 xb.r.hi.pos, .int .u8 xb.tag, .int .u8 xb.l] ∧ V.heap.size ≤ g ∧ V.heap.size ≤ g' ∧ g ≠ g' ∧ Below V.heap.size V ((((((((((((((((((((((u.setCell ⟨g, 0, none⟩ (.bool xa.inn)).setCell ⟨g, 1, none⟩ (.bool xa.node)).setCell ⟨g, 2, none⟩ (.int .u8 xa.r.form)).setCell ⟨g, 3, none⟩ (.int .u8 xa.r.top)).setCell ⟨g, 4, none⟩ (.int .u8 xa.r.bot)).setCell ⟨g, 5, none⟩ (.int .u8 xa.r.lo.tag)).setCell ⟨g, 6, none⟩ (.int .u32 xa.r.lo.pos)).setCell ⟨g, 7, none⟩ (.int .u8 xa.r.hi.tag)).setCell ⟨g, 8, none⟩ (.int .u32 xa.r.hi.pos)).setCell ⟨g, 9, none⟩ (.int .u8 xa.tag)).setCell ⟨g, 10, none⟩ (.int .u8 xa.l)).setCell ⟨g', 0, none⟩ (.bool xb.inn)).setCell ⟨g', 1, none⟩ (.bool xb.node)).setCell ⟨g', 2, none⟩ (.int .u8 xb.r.form)).setCell ⟨g', 3, none⟩ (.int .u8 xb.r.top)).setCell ⟨g', 4, none⟩ (.int .u8 xb.r.bot)).setCell ⟨g', 5, none⟩ (.int .u8 xb.r.lo.tag)).setCell ⟨g', 6, none⟩ (.int .u32 xb.r.lo.pos)).setCell ⟨g', 7, none⟩ (.int .u8 xb.r.hi.tag)).setCell ⟨g', 8, none⟩ (.int .u32 xb.r.hi.pos)).setCell ⟨g', 9, none⟩ (.int .u8 xb.tag)).setCell ⟨g', 10, none⟩ (.int .u8 xb.l))) := Lib.hid (fun u g g' b p r h h' e => lfC b p r h h' e)
        have g0 : V.heap.size ≤ V.heap.size := Nat.le_refl _
        have g01 : V.heap.size ≤ V.heap.size + 1 := Nat.le_succ _
        go_region_held3 (fun w' => w'.cell? ⟨w.heap.size, 0, none⟩ = some (.bool true) ∧ w'.cell? ⟨w.heap.size, 1, none⟩ = some (.bool x'.node) ∧ w'.cell? ⟨w.heap.size, 2, none⟩ = some (.int .u8 x'.r.form) ∧ w'.cell? ⟨w.heap.size, 3, none⟩ = some (.int .u8 x'.r.top) ∧ w'.cell? ⟨w.heap.size, 4, none⟩ = some (.int .u8 x'.r.bot) ∧ w'.cell? ⟨w.heap.size, 5, none⟩ = some (.int .u8 x'.r.lo.tag) ∧ w'.cell? ⟨w.heap.size, 6, none⟩ = some (.int .u32 x'.r.lo.pos) ∧ w'.cell? ⟨w.heap.size, 7, none⟩ = some (.int .u8 x'.r.hi.tag) ∧ w'.cell? ⟨w.heap.size, 8, none⟩ = some (.int .u32 x'.r.hi.pos) ∧ w'.cell? ⟨w.heap.size, 9, none⟩ = some (.int .u8 x'.tag) ∧ w'.cell? ⟨w.heap.size, 10, none⟩ = some (.int .u8 x'.l)) ((refine FACTS.out _ ?_; with_reducible (repeat (first | exact Below.refl _ _ | exact b2 | exact b4 | refine keepC ?_ | refine Below.drew ?_ | refine below_rest11 _ _ _ _ _ _ _ _ _ _ _ ?_ ?_ | exact g0 | exact g01 | exact g2 | exact g21)))) (first | ((with_reducible show Calls _ 47 #[_, _, .bool false] _ _); refine (HHA.out _ (chg_thenB HCV.out (by with_reducible (repeat (first | exact Below.refl _ _ | exact b2 | exact b4 | refine keepC ?_ | refine Below.drew ?_))))).mono ?_; rintro e w2 ⟨rfl, hb2⟩; have b2 : Below V.heap.size V w2 := below_then (by with_reducible (repeat (first | exact Below.refl _ _ | exact b2 | exact b4 | refine keepC ?_ | refine Below.drew ?_))) hb2; (try (have n1 : Blk w2 V.heap.size 78 Z11 := (by with_reducible (first | exact newT2 hb2 | exact newT2d hb2 | exact newT2e hb2 | exact newT1 hb2 | exact newT1d hb2 | exact newT1e hb2)))); (try (have n2 : Blk w2 (V.heap.size + 1) 78 Z11 := (by with_reducible (first | exact newS2 hb2 | exact newS2d hb2 | exact newS2e hb2)))); have g2 : V.heap.size ≤ w2.heap.size := b2.size; have g21 : V.heap.size ≤ w2.heap.size + 1 := Nat.le_succ_of_le b2.size) | ((with_reducible show Calls _ 47 #[_, _, .bool true] _ _); refine (HHB.out _ (chg_thenB HCV.out (by with_reducible (repeat (first | exact Below.refl _ _ | exact b2 | exact b4 | refine keepC ?_ | refine Below.drew ?_))))).mono ?_; rintro e w4 ⟨rfl, hb4⟩; have b4 : Below V.heap.size V w4 := below_then (by with_reducible (repeat (first | exact Below.refl _ _ | exact b2 | exact b4 | refine keepC ?_ | refine Below.drew ?_))) hb4; have b24 : Below w2.heap.size w2 w4 := below_then (by with_reducible (repeat (first | exact Below.refl _ _ | refine keepC ?_ | refine Below.drew ?_))) hb4; (try (have p1 := n1.onB b24; have p1l := p1.lt; have p1n : ¬ V.heap.size = w4.heap.size := Nat.ne_of_lt p1l; (try (obtain ⟨⟨ax0, ay0⟩, ⟨ax1, ay1⟩, ⟨ax2, ay2⟩, ⟨ax3, ay3⟩, ⟨ax4, ay4⟩, ⟨ax5, ay5⟩, ⟨ax6, ay6⟩, ⟨ax7, ay7⟩, ⟨ax8, ay8⟩, ⟨ax9, ay9⟩, ⟨ax10, ay10⟩⟩ := cf11 p1)))); (try (have p2 := n2.onB b24; have p2l := p2.lt; have p2n : ¬ V.heap.size + 1 = w4.heap.size := Nat.ne_of_lt p2l; (try (obtain ⟨⟨bx0, by0⟩, ⟨bx1, by1⟩, ⟨bx2, by2⟩, ⟨bx3, by3⟩, ⟨bx4, by4⟩, ⟨bx5, by5⟩, ⟨bx6, by6⟩, ⟨bx7, by7⟩, ⟨bx8, by8⟩, ⟨bx9, by9⟩, ⟨bx10, by10⟩⟩ := cf11 p2)))); (try (have r1 : Blk w4 w2.heap.size 78 Z11 := (by with_reducible (first | exact newT2 hb4 | exact newT2d hb4 | exact newT1 hb4 | exact newT1d hb4)); have r1l := r1.lt; have r1n : ¬ w2.heap.size = w4.heap.size := Nat.ne_of_lt r1l; (try (obtain ⟨⟨cx0, cy0⟩, ⟨cx1, cy1⟩, ⟨cx2, cy2⟩, ⟨cx3, cy3⟩, ⟨cx4, cy4⟩, ⟨cx5, cy5⟩, ⟨cx6, cy6⟩, ⟨cx7, cy7⟩, ⟨cx8, cy8⟩, ⟨cx9, cy9⟩, ⟨cx10, cy10⟩⟩ := cf11 r1)))); (try (have r2 : Blk w4 (w2.heap.size + 1) 78 Z11 := (by with_reducible (first | exact newS2 hb4 | exact newS2d hb4)); have r2l := r2.lt; have r2n : ¬ w2.heap.size + 1 = w4.heap.size := Nat.ne_of_lt r2l; (try (obtain ⟨⟨dx0, dy0⟩, ⟨dx1, dy1⟩, ⟨dx2, dy2⟩, ⟨dx3, dy3⟩, ⟨dx4, dy4⟩, ⟨dx5, dy5⟩, ⟨dx6, dy6⟩, ⟨dx7, dy7⟩, ⟨dx8, dy8⟩, ⟨dx9, dy9⟩, ⟨dx10, dy10⟩⟩ := cf11 r2)))); (try (have pr : ¬ V.heap.size = w2.heap.size := Nat.ne_of_lt n1.lt))) | fail)
        all_goals
          go_wp2_with fail
          go_meet
          with_reducible first
            | exact ⟨_, _, rfl, rfl, LFA.out w4 b4⟩
            | exact ⟨_, _, rfl, rfl, LFA'.out w4 b4⟩
            | exact ⟨_, _, rfl, rfl, LFB.out w4 _ b4 p1 g0⟩
            | exact ⟨_, _, rfl, rfl, LFB'.out w4 _ b4 p1 g0⟩
            | exact ⟨_, _, rfl, rfl, LFB.out w4 _ b4 r1 g2⟩
            | exact ⟨_, _, rfl, rfl, LFB'.out w4 _ b4 r1 g2⟩
            | exact ⟨_, _, rfl, rfl, LFC.out w4 _ _ b4 p1 p2 g0 g01 (Nat.ne_of_lt (Nat.lt_succ_self _))⟩
            | exact ⟨_, _, rfl, rfl, LFC.out w4 _ _ b4 p2 p1 g01 g0 (Ne.symm (Nat.ne_of_lt (Nat.lt_succ_self _)))⟩
            | exact ⟨_, _, rfl, rfl, LFC.out w4 _ _ b4 r1 r2 g2 g21 (Nat.ne_of_lt (Nat.lt_succ_self _))⟩
            | exact ⟨_, _, rfl, rfl, LFC.out w4 _ _ b4 r2 r1 g21 g2 (Ne.symm (Nat.ne_of_lt (Nat.lt_succ_self _)))⟩
            | exact ⟨_, _, rfl, rfl, LFC.out w4 _ _ b4 p1 r1 g0 g2 pr⟩
            | exact ⟨_, _, rfl, rfl, LFC.out w4 _ _ b4 r1 p1 g2 g0 (Ne.symm pr)⟩
      obtain ⟨b1, b2, rfl, rfl, B1, B2, hb1, hb2, hne, hbx⟩ := hcut
      have hkc : Blk wc w.heap.size 78 #[.bool true, .bool x'.node, .int .u8 x'.r.form, .int .u8 x'.r.top, .int .u8 x'.r.bot, .int .u8 x'.r.lo.tag, .int .u32 x'.r.lo.pos, .int .u8 x'.r.hi.tag, .int .u32 x'.r.hi.pos, .int .u8 x'.tag, .int .u8 x'.l] := HKV.out.onB hbx
      have hcc : Chg [q, w.heap.size] W wc := chg_thenB HCV.out hbx
      have htc : TallyC cs n f wc q N' := (HR.out.2.2.2.2.2.1.on HBV.out).on hbx
      have oka : RstOk n (lv + (m - m') : Nat) xa := by
        rw [HXA.out, show lv + (m - m') = lv + (m - (m' + 1)) + 1 by omega]
        exact halfR_ok (by omega) (by omega) HR.out.1 HIN.out (by omega) (HCC.out W (Chg.refl _ _)).hcs
      have okb : RstOk n (lv + (m - m') : Nat) xb := by
        rw [HXB.out, show lv + (m - m') = lv + (m - (m' + 1)) + 1 by omega]
        exact halfR_ok (by omega) (by omega) HR.out.1 HIN.out (by omega) (HCC.out W (Chg.refl _ _)).hcs
      have hps : 2 ^ (m' + 1) = 2 * 2 ^ m' := by rw [Nat.pow_succ]; omega
      have hps2 : 2 ^ (m - m') = 2 * 2 ^ (m - (m' + 1)) := by rw [show m - m' = (m - (m' + 1)) + 1 by omega, Nat.pow_succ]; omega
      have hNN := HR.out.2.2.2.2.2.2.1
      have hyy := HR.out.2.2.2.1
      have hpn := pow_le16 (m := m - m') (by omega)
      have hnth : nthR cs n f (m' + 1) x' k' y' = nthR cs n f m x k 0 := HR.out.2.2.1
      have hcnt : k' < cntR cs n f (m' + 1) x' := HR.out.2.1
      rw [nthR, ← HXA.out, ← HXB.out] at hnth
      rw [cntR_succ, if_pos HIN.out, ← HXA.out, ← HXB.out] at hcnt
      have hca := cntR_le (cs := cs) (n := n) (f := f) m' xa
      have HCO := Lib.hid (count_any F gs go n room cb cs free f q m' xa (lv + (m - m')) N' wc (by omega) oka (HCC.out wc hcc) htc (by omega))
      have hb0 : w.heap.size < V.heap.size := by have := HBW0.out; have := HCV.out.size; omega
      have hb1c : b1 < wc.heap.size := B1.lt
      have hb2c : b2 < wc.heap.size := B2.lt
      have hqV : q < w.heap.size := hqw
      have q1 : ¬ b1 = q := by omega
      have q2 : ¬ b2 = q := by omega
      have q3 : ¬ b1 = w.heap.size := by omega
      have q4 : ¬ b2 = w.heap.size := by omega
      have q5 : ¬ w.heap.size = q := by omega
      have HB1 := Lib.hid B1
      have HB2 := Lib.hid B2
      have HKC := Lib.hid hkc
      have HCHC := Lib.hid hcc
      have HOA := Lib.hid oka
      have HOB := Lib.hid okb
      obtain ⟨u0, u1, u2, u3, u4, u5, u6, u7, u8, u9, u10⟩ := cells11 B1
      generalize hna : cntR cs (↑n) f m' xa = na at *
      have HNA := Lib.hid hna
      have HNTH := Lib.hid hnth
      have HCNT := Lib.hid hcnt
      clear B1 B2 hkc hcc htc oka okb hna hnth hcnt k0 k1 k2 k3 k4 k5 k6 k7 k8 k9 k10 hbx FACTS HHA HHB
      go_wp2_with fail
      refine HCO.out.mono ?_
      rintro e w5 ⟨rfl, ht5, hc5⟩
      have C5 := HB1.out.chg hc5 (by simpa using q1)
      have D5 := HB2.out.chg hc5 (by simpa using q2)
      have K5 := HKC.out.chg hc5 (by simpa using q5)
      obtain ⟨v0, v1, v2, v3, v4, v5, v6, v7, v8, v9, v10⟩ := cells11 C5
      obtain ⟨⟨t0, z0⟩, ⟨t1, z1⟩, ⟨t2, z2⟩, ⟨t3, z3⟩, ⟨t4, z4⟩, ⟨t5, z5⟩, ⟨t6, z6⟩, ⟨t7, z7⟩, ⟨t8, z8⟩, ⟨t9, z9⟩, ⟨t10, z10⟩⟩ := cf11 K5
      have hcW5 : Chg [q, w.heap.size] W w5 := HCHC.out.trans hc5 (fun x hx => .inl (by simp at hx; subst hx; simp))
      by_cases hkn : k' < na
      · have hdn : decide ((na : Int) ≤ (k' : Int)) = false := by simpa using hkn
        have E1 : Hid (Blk (((((((((((w5.setCell ⟨w.heap.size, 0, none⟩ (.bool xa.inn)).setCell ⟨w.heap.size, 1, none⟩ (.bool xa.node)).setCell ⟨w.heap.size, 2, none⟩ (.int .u8 xa.r.form)).setCell ⟨w.heap.size, 3, none⟩ (.int .u8 xa.r.top)).setCell ⟨w.heap.size, 4, none⟩ (.int .u8 xa.r.bot)).setCell ⟨w.heap.size, 5, none⟩ (.int .u8 xa.r.lo.tag)).setCell ⟨w.heap.size, 6, none⟩ (.int .u32 xa.r.lo.pos)).setCell ⟨w.heap.size, 7, none⟩ (.int .u8 xa.r.hi.tag)).setCell ⟨w.heap.size, 8, none⟩ (.int .u32 xa.r.hi.pos)).setCell ⟨w.heap.size, 9, none⟩ (.int .u8 xa.tag)).setCell ⟨w.heap.size, 10, none⟩ (.int .u8 xa.l)) w.heap.size 78 #[.bool xa.inn, .bool xa.node, .int .u8 xa.r.form, .int .u8 xa.r.top, .int .u8 xa.r.bot, .int .u8 xa.r.lo.tag, .int .u32 xa.r.lo.pos, .int .u8 xa.r.hi.tag, .int .u32 xa.r.hi.pos, .int .u8 xa.tag, .int .u8 xa.l] ∧ TallyC cs n f (((((((((((w5.setCell ⟨w.heap.size, 0, none⟩ (.bool xa.inn)).setCell ⟨w.heap.size, 1, none⟩ (.bool xa.node)).setCell ⟨w.heap.size, 2, none⟩ (.int .u8 xa.r.form)).setCell ⟨w.heap.size, 3, none⟩ (.int .u8 xa.r.top)).setCell ⟨w.heap.size, 4, none⟩ (.int .u8 xa.r.bot)).setCell ⟨w.heap.size, 5, none⟩ (.int .u8 xa.r.lo.tag)).setCell ⟨w.heap.size, 6, none⟩ (.int .u32 xa.r.lo.pos)).setCell ⟨w.heap.size, 7, none⟩ (.int .u8 xa.r.hi.tag)).setCell ⟨w.heap.size, 8, none⟩ (.int .u32 xa.r.hi.pos)).setCell ⟨w.heap.size, 9, none⟩ (.int .u8 xa.tag)).setCell ⟨w.heap.size, 10, none⟩ (.int .u8 xa.l)) q (N' + (2 ^ m' - 1)) ∧ Chg [q, w.heap.size] W (((((((((((w5.setCell ⟨w.heap.size, 0, none⟩ (.bool xa.inn)).setCell ⟨w.heap.size, 1, none⟩ (.bool xa.node)).setCell ⟨w.heap.size, 2, none⟩ (.int .u8 xa.r.form)).setCell ⟨w.heap.size, 3, none⟩ (.int .u8 xa.r.top)).setCell ⟨w.heap.size, 4, none⟩ (.int .u8 xa.r.bot)).setCell ⟨w.heap.size, 5, none⟩ (.int .u8 xa.r.lo.tag)).setCell ⟨w.heap.size, 6, none⟩ (.int .u32 xa.r.lo.pos)).setCell ⟨w.heap.size, 7, none⟩ (.int .u8 xa.r.hi.tag)).setCell ⟨w.heap.size, 8, none⟩ (.int .u32 xa.r.hi.pos)).setCell ⟨w.heap.size, 9, none⟩ (.int .u8 xa.tag)).setCell ⟨w.heap.size, 10, none⟩ (.int .u8 xa.l))) := Lib.hid (stepE K5 ht5 (Ne.symm q5) hcW5 (by simp))
        clear C5 D5 K5 hc5 ht5 hcW5 u0 u1 u2 u3 u4 u5 u6 u7 u8 u9 u10
        go_wp2_with fail
        have hlA : xa.l = ((lv + (m - m') : Nat) : Int) := HOA.out.l (inn_of_cnt (by rw [HNA.out]; exact hkn))
        have hn1 := HNTH.out
        rw [if_pos hkn, Nat.mul_comm] at hn1
        have HN1 := Lib.hid hn1
        clear hn1
        go_roundw
        case rel => exact ⟨m', k', y' * 2, N' + (2 ^ m' - 1), xa, rfl, by go_num, by omega, Lib.hid ⟨HOA.out, by rw [HNA.out]; exact hkn, HN1.out, by omega, E1.out.1, E1.out.2.1, by omega, E1.out.2.2⟩⟩
        case measure =>
          have e1 := E1.out.1.cell 10
          simp only [List.getElem?_toArray, List.getElem?_cons_zero, List.getElem?_cons_succ] at e1
          have hll := HL.out
          rw [e1, K10.out]; simp only; omega
      · have hdn : decide ((na : Int) ≤ (k' : Int)) = true := by simpa using hkn
        have E1 : Hid (Blk ((((((((((((((((((((((w5.setCell ⟨w.heap.size, 0, none⟩ (.bool xa.inn)).setCell ⟨w.heap.size, 1, none⟩ (.bool xa.node)).setCell ⟨w.heap.size, 2, none⟩ (.int .u8 xa.r.form)).setCell ⟨w.heap.size, 3, none⟩ (.int .u8 xa.r.top)).setCell ⟨w.heap.size, 4, none⟩ (.int .u8 xa.r.bot)).setCell ⟨w.heap.size, 5, none⟩ (.int .u8 xa.r.lo.tag)).setCell ⟨w.heap.size, 6, none⟩ (.int .u32 xa.r.lo.pos)).setCell ⟨w.heap.size, 7, none⟩ (.int .u8 xa.r.hi.tag)).setCell ⟨w.heap.size, 8, none⟩ (.int .u32 xa.r.hi.pos)).setCell ⟨w.heap.size, 9, none⟩ (.int .u8 xa.tag)).setCell ⟨w.heap.size, 10, none⟩ (.int .u8 xa.l)).setCell ⟨w.heap.size, 0, none⟩ (.bool xb.inn)).setCell ⟨w.heap.size, 1, none⟩ (.bool xb.node)).setCell ⟨w.heap.size, 2, none⟩ (.int .u8 xb.r.form)).setCell ⟨w.heap.size, 3, none⟩ (.int .u8 xb.r.top)).setCell ⟨w.heap.size, 4, none⟩ (.int .u8 xb.r.bot)).setCell ⟨w.heap.size, 5, none⟩ (.int .u8 xb.r.lo.tag)).setCell ⟨w.heap.size, 6, none⟩ (.int .u32 xb.r.lo.pos)).setCell ⟨w.heap.size, 7, none⟩ (.int .u8 xb.r.hi.tag)).setCell ⟨w.heap.size, 8, none⟩ (.int .u32 xb.r.hi.pos)).setCell ⟨w.heap.size, 9, none⟩ (.int .u8 xb.tag)).setCell ⟨w.heap.size, 10, none⟩ (.int .u8 xb.l)) w.heap.size 78 #[.bool xb.inn, .bool xb.node, .int .u8 xb.r.form, .int .u8 xb.r.top, .int .u8 xb.r.bot, .int .u8 xb.r.lo.tag, .int .u32 xb.r.lo.pos, .int .u8 xb.r.hi.tag, .int .u32 xb.r.hi.pos, .int .u8 xb.tag, .int .u8 xb.l] ∧ TallyC cs n f ((((((((((((((((((((((w5.setCell ⟨w.heap.size, 0, none⟩ (.bool xa.inn)).setCell ⟨w.heap.size, 1, none⟩ (.bool xa.node)).setCell ⟨w.heap.size, 2, none⟩ (.int .u8 xa.r.form)).setCell ⟨w.heap.size, 3, none⟩ (.int .u8 xa.r.top)).setCell ⟨w.heap.size, 4, none⟩ (.int .u8 xa.r.bot)).setCell ⟨w.heap.size, 5, none⟩ (.int .u8 xa.r.lo.tag)).setCell ⟨w.heap.size, 6, none⟩ (.int .u32 xa.r.lo.pos)).setCell ⟨w.heap.size, 7, none⟩ (.int .u8 xa.r.hi.tag)).setCell ⟨w.heap.size, 8, none⟩ (.int .u32 xa.r.hi.pos)).setCell ⟨w.heap.size, 9, none⟩ (.int .u8 xa.tag)).setCell ⟨w.heap.size, 10, none⟩ (.int .u8 xa.l)).setCell ⟨w.heap.size, 0, none⟩ (.bool xb.inn)).setCell ⟨w.heap.size, 1, none⟩ (.bool xb.node)).setCell ⟨w.heap.size, 2, none⟩ (.int .u8 xb.r.form)).setCell ⟨w.heap.size, 3, none⟩ (.int .u8 xb.r.top)).setCell ⟨w.heap.size, 4, none⟩ (.int .u8 xb.r.bot)).setCell ⟨w.heap.size, 5, none⟩ (.int .u8 xb.r.lo.tag)).setCell ⟨w.heap.size, 6, none⟩ (.int .u32 xb.r.lo.pos)).setCell ⟨w.heap.size, 7, none⟩ (.int .u8 xb.r.hi.tag)).setCell ⟨w.heap.size, 8, none⟩ (.int .u32 xb.r.hi.pos)).setCell ⟨w.heap.size, 9, none⟩ (.int .u8 xb.tag)).setCell ⟨w.heap.size, 10, none⟩ (.int .u8 xb.l)) q (N' + (2 ^ m' - 1)) ∧ Chg [q, w.heap.size] W ((((((((((((((((((((((w5.setCell ⟨w.heap.size, 0, none⟩ (.bool xa.inn)).setCell ⟨w.heap.size, 1, none⟩ (.bool xa.node)).setCell ⟨w.heap.size, 2, none⟩ (.int .u8 xa.r.form)).setCell ⟨w.heap.size, 3, none⟩ (.int .u8 xa.r.top)).setCell ⟨w.heap.size, 4, none⟩ (.int .u8 xa.r.bot)).setCell ⟨w.heap.size, 5, none⟩ (.int .u8 xa.r.lo.tag)).setCell ⟨w.heap.size, 6, none⟩ (.int .u32 xa.r.lo.pos)).setCell ⟨w.heap.size, 7, none⟩ (.int .u8 xa.r.hi.tag)).setCell ⟨w.heap.size, 8, none⟩ (.int .u32 xa.r.hi.pos)).setCell ⟨w.heap.size, 9, none⟩ (.int .u8 xa.tag)).setCell ⟨w.heap.size, 10, none⟩ (.int .u8 xa.l)).setCell ⟨w.heap.size, 0, none⟩ (.bool xb.inn)).setCell ⟨w.heap.size, 1, none⟩ (.bool xb.node)).setCell ⟨w.heap.size, 2, none⟩ (.int .u8 xb.r.form)).setCell ⟨w.heap.size, 3, none⟩ (.int .u8 xb.r.top)).setCell ⟨w.heap.size, 4, none⟩ (.int .u8 xb.r.bot)).setCell ⟨w.heap.size, 5, none⟩ (.int .u8 xb.r.lo.tag)).setCell ⟨w.heap.size, 6, none⟩ (.int .u32 xb.r.lo.pos)).setCell ⟨w.heap.size, 7, none⟩ (.int .u8 xb.r.hi.tag)).setCell ⟨w.heap.size, 8, none⟩ (.int .u32 xb.r.hi.pos)).setCell ⟨w.heap.size, 9, none⟩ (.int .u8 xb.tag)).setCell ⟨w.heap.size, 10, none⟩ (.int .u8 xb.l))) := Lib.hid (stepE (K5.rest11 _ _ _ _ _ _ _ _ _ _ _) (keep11 ht5 (Ne.symm q5)) (Ne.symm q5) (chg11 hcW5 (by simp)) (by simp))
        have hws : wrap64 ((k' : Int) - (na : Int)) = ((k' - na : Nat) : Int) := by
          have := HCNT.out
          have := cntR_le (cs := cs) (n := n) (f := f) m' xb
          rw [IntWalk.wrap64_in _ ⟨by omega, by omega⟩]; omega
        obtain ⟨s0, s1, s2, s3, s4, s5, s6, s7, s8, s9, s10⟩ := cells11 D5
        clear C5 D5 K5 hc5 ht5 hcW5 u0 u1 u2 u3 u4 u5 u6 u7 u8 u9 u10
        go_wp2_with fail
        have hkb : k' - na < cntR cs n f m' xb := by have := HCNT.out; omega
        have hlA : xb.l = ((lv + (m - m') : Nat) : Int) := HOB.out.l (inn_of_cnt hkb)
        have hn1 := HNTH.out
        rw [if_neg hkn, Nat.mul_comm] at hn1
        have HN1 := Lib.hid hn1
        clear hn1
        go_roundw
        case rel => exact ⟨m', k' - na, y' * 2 + 1, N' + (2 ^ m' - 1), xb, by rw [hws], by go_num, by omega, Lib.hid ⟨HOB.out, hkb, HN1.out, by omega, E1.out.1, E1.out.2.1, by omega, E1.out.2.2⟩⟩
        case measure =>
          have e1 := E1.out.1.cell 10
          simp only [List.getElem?_toArray, List.getElem?_cons_zero, List.getElem?_cons_succ] at e1
          have hll := HL.out
          rw [e1, K10.out]; simp only; omega
end Go.Proofs.YtciokbngjfeihaaGreat
