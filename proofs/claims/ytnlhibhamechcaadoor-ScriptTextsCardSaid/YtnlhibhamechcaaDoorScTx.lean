/- ScriptTexts: the walk. -/
import Derived.Test.YtnlhibhamechcaaDoorScAlive
namespace Go.Proofs.YtnlhibhamechcaaDoor
open Go.RowKit Go.Sort
set_option linter.unusedSimpArgs false
set_option linter.unusedVariables false

set_option maxRecDepth 100000 in
set_option maxHeartbeats 8000000 in
theorem sctexts_walk (s : Stp) (hs : s.Wf) (w : World) (hP : Pow w) (hA : Asc w) :
    Calls Tryd.prog 4 #[.agg s.cells.toArray] w fun e w' => e = .returned (.bool true) ∧ Below w.heap.size w w' := by
  obtain ⟨W, hW⟩ : ∃ W, W = w.alloc (.cells s.cells.toArray 32) := ⟨_, rfl⟩
  have hbW : Below w.heap.size w W := by rw [hW]; exact (Below.refl _ _).alloc (Nat.le_refl _) _
  have hBW : Blk W w.heap.size 32 s.cells.toArray := by rw [hW]; exact Blk.new w _ _
  have hPW := hP.on hbW
  have hAW := hA.on hbW
  have c1 := regrown_calls (W := W) (fun W' hW' => (scalive_any W' (hPW.on hW') (hAW.on hW')).mono fun _ _ ⟨he, hb⟩ => ⟨he, hW'.trans (hb.mono hW'.size)⟩)
  have c2 := regrown_calls (W := W) (fun W' hW' => (plain_any s W').mono fun _ _ ⟨he, hb⟩ => ⟨he, hW'.trans (hb.mono hW'.size)⟩)
  have c3 := regrown_calls (W := W) (fun W' hW' => (stext_any s hs W' (hPW.on hW') (hAW.on hW')).mono fun _ _ ⟨he, hb⟩ => ⟨he, hW'.trans (hb.mono hW'.size)⟩)
  have c4 := regrown_calls (W := W) (fun W' hW' => (rtext_any s hs W').mono fun _ _ ⟨he, hb⟩ => ⟨he, hW'.trans (hb.mono hW'.size)⟩)
  generalize s.text = x at *
  obtain ⟨k, f, a, b, c, v, kk, one⟩ := s
  simp only [Stp.cells] at *
  unfold txt at c3 c4
  have HWW := Lib.hid hW
  have HbW := Lib.hid hbW
  have HBW := Lib.hid hBW
  have C := Lib.hid (And.intro c1 (And.intro c2 (And.intro c3 c4)))
  clear c1 c2 c3 c4 hbW hBW hP hA hPW hAW hs
  go_enter Tryd.func4, Tryd.ntmps4
  go_wp2_with fail
  rw [← HWW.out]
  clear hW
  obtain ⟨c1, c2, c3, c4⟩ := C.out
  have j0 : ∀ d os, (grow (redrawn W d) os).cell? ⟨w.heap.size, 0, none⟩ = some (.int .u8 k) := fun d os => cell_regrown (HBW.out.cell 0) d os
  have j1 : ∀ d os, (grow (redrawn W d) os).cell? ⟨w.heap.size, 1, none⟩ = some (.int .u8 f) := fun d os => cell_regrown (HBW.out.cell 1) d os
  have j2 : ∀ d os, (grow (redrawn W d) os).cell? ⟨w.heap.size, 2, none⟩ = some (.int .i64 a) := fun d os => cell_regrown (HBW.out.cell 2) d os
  have j3 : ∀ d os, (grow (redrawn W d) os).cell? ⟨w.heap.size, 3, none⟩ = some (.int .i64 b) := fun d os => cell_regrown (HBW.out.cell 3) d os
  have j4 : ∀ d os, (grow (redrawn W d) os).cell? ⟨w.heap.size, 4, none⟩ = some (.int .i64 c) := fun d os => cell_regrown (HBW.out.cell 4) d os
  have j5 : ∀ d os, (grow (redrawn W d) os).cell? ⟨w.heap.size, 5, none⟩ = some (.int .i64 v) := fun d os => cell_regrown (HBW.out.cell 5) d os
  have j6 : ∀ d os, (grow (redrawn W d) os).cell? ⟨w.heap.size, 6, none⟩ = some (.int .u16 kk) := fun d os => cell_regrown (HBW.out.cell 6) d os
  have j7 : ∀ d os, (grow (redrawn W d) os).cell? ⟨w.heap.size, 7, none⟩ = some (.bool one) := fun d os => cell_regrown (HBW.out.cell 7) d os
  refine wp_region_quiet_below (by kernel_rfl) (by kernel_rfl) ?_
  repeat (first | go_big_quiet_step (first | with_reducible exact c1 _ _ | with_reducible exact c2 _ _ | with_reducible exact c3 _ _ | with_reducible exact c4 _ _ | fail) | quiet_step (first | with_reducible exact c1 _ _ | with_reducible exact c2 _ _ | with_reducible exact c3 _ _ | with_reducible exact c4 _ _ | fail))
  refine wpQuiet_nil ?_
  intro w2 hw'
  have hbel2 : Below W.heap.size W w2 := regrown_below hw'
  clear hw' j0 j1 j2 j3 j4 j5 j6 j7 c1 c2 c3 c4
  go_wp2_with fail
  go_ret
  refine ⟨?_, HbW.out.trans (hbel2.mono HbW.out.size)⟩
  simp
end Go.Proofs.YtnlhibhamechcaaDoor
