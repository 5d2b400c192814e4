/- The walk of NodePlain. -/
import Derived.Test.YtfcklfpgjadfmaaDoorNodeW
namespace Go.Proofs.YtfcklfpgjadfmaaDoor
open Go.RowKit Go.Sort
set_option linter.unusedSimpArgs false
set_option linter.unusedVariables false
set_option maxRecDepth 100000 in
set_option maxHeartbeats 4000000 in
theorem npl_0_lt (l n : Int) (t p : Int) (w : World) (he : (⟨t, p⟩ : Edg).Wf) (hn : n < 0) : Calls Tryd.prog 4 #[.int .u8 0, .agg #[.int .u8 t, .int .u32 p], .int .i64 l, .int .i64 n] w fun r w' => r = .returned (.bool true) ∧ Below w.heap.size w w' := by
  have hff : 0 ≤ (0 : Int) ∧ (0 : Int) ≤ 255 := by omega
  have ho : oneE 0 n = ⟨0, 0⟩ := by unfold oneE; rw [if_neg (by omega)]
  have hF : isFormB 0 = false := isF_no (by omega)
  have hC : chainedB 0 = false := ch_no (by omega)
  obtain ⟨W0, hW0⟩ : ∃ W, W = w.alloc (.cells #[.int .u8 t, .int .u32 p] 25) := ⟨_, rfl⟩
  have hb0 : Below w.heap.size w W0 := by rw [hW0]; exact (Below.refl _ _).alloc (Nat.le_refl _) _
  have HK0 : Hid (Blk W0 w.heap.size 25 #[.int .u8 t, .int .u32 p]) := Lib.hid (by rw [hW0]; exact Blk.new w _ _)
  have C := fun W => And.intro (regrown_calls (W := W) (fun W' hW' => (plain_any 0 ⟨t, p⟩ l n W' hff he).mono fun _ _ ⟨he, hb⟩ => ⟨he, hW'.trans (hb.mono hW'.size)⟩)) (And.intro
    (regrown_calls (W := W) (fun W' hW' => (refPlain_any 0 ⟨t, p⟩ l n W' hff he).mono fun _ _ ⟨he, hb⟩ => ⟨he, hW'.trans (hb.mono hW'.size)⟩)) (And.intro
    (regrown_calls (W := W) (fun W' hW' => (one_any 0 n hff W').mono fun _ _ ⟨he, hb⟩ => ⟨he, hW'.trans (hb.mono hW'.size)⟩)) (And.intro
    (regrown_calls (W := W) (fun W' hW' => (isForm_any 0 W').mono fun _ _ ⟨he, hb⟩ => ⟨he, by rw [← hb]; exact hW'⟩))
    (regrown_calls (W := W) (fun W' hW' => (chained_any 0 W').mono fun _ _ ⟨he, hb⟩ => ⟨he, by rw [← hb]; exact hW'⟩)))))
  simp only [Edg.cells, ho, hF, hC] at C
  generalize plain 0 ⟨t, p⟩ l n = x at *
  have HC := Lib.hid C
  have HB0 := Lib.hid hb0
  have HW0 := Lib.hid hW0
  skip
  clear he hW0 hb0 ho hF hC C hff
  have hEQ := eqlE 0 0 0 0 true (by simp)
  go_enter Tryd.func4, Tryd.ntmps4
  go_wp2_with fail
  rw [← HW0.out]
  refine (nalive_any _).mono ?_
  rintro e w1 ⟨rfl, hb1⟩
  obtain ⟨W, hW⟩ : ∃ W, W = w1.alloc (.cells #[.int .u8 0, .int .u32 0] 25) := ⟨_, rfl⟩
  have hbW : Below W0.heap.size W0 W := by rw [hW]; exact hb1.alloc hb1.size _
  have HK1 : Hid (Blk W w1.heap.size 25 #[.int .u8 0, .int .u32 0]) := Lib.hid (by rw [hW]; exact Blk.new w1 _ _)
  have HW := Lib.hid hW
  have HBW := Lib.hid hbW
  clear hW hbW hb1
  go_wp2_with fail
  rw [← HW.out]
  obtain ⟨c1, c2, c3, c4, c5⟩ := HC.out W
  have hkk := HK0.out.on0 HBW.out
  have j0 : ∀ d os, (grow (redrawn W d) os).cell? ⟨w.heap.size, 0, none⟩ = some (.int .u8 t) := fun d os => cell_regrown (hkk.cell 0) d os
  have j1 : ∀ d os, (grow (redrawn W d) os).cell? ⟨w.heap.size, 1, none⟩ = some (.int .u32 p) := fun d os => cell_regrown (hkk.cell 1) d os
  have j2 : ∀ d os, (grow (redrawn W d) os).cell? ⟨w1.heap.size, 0, none⟩ = some (.int .u8 0) := fun d os => cell_regrown (HK1.out.cell 0) d os
  have j3 : ∀ d os, (grow (redrawn W d) os).cell? ⟨w1.heap.size, 1, none⟩ = some (.int .u32 0) := fun d os => cell_regrown (HK1.out.cell 1) d os
  clear hkk
  refine wp_region_quiet_below (by kernel_rfl) (by kernel_rfl) ?_
  repeat (first | go_big_quiet_step (first | with_reducible exact c1 _ _ | with_reducible exact c2 _ _ | with_reducible exact c3 _ _ | with_reducible exact c4 _ _ | with_reducible exact c5 _ _ | fail) | quiet_step (first | with_reducible exact c1 _ _ | with_reducible exact c2 _ _ | with_reducible exact c3 _ _ | with_reducible exact c4 _ _ | with_reducible exact c5 _ _ | fail))
  refine wpQuiet_nil ?_
  intro w2 hw'
  have hbel2 : Below W.heap.size W w2 := regrown_below hw'
  clear hw' j0 j1 j2 j3 c1 c2 c3 c4 c5
  go_wp2_with fail
  go_ret
  exact ⟨rfl, HB0.out.trans ((HBW.out.trans (hbel2.mono HBW.out.size)).mono HB0.out.size)⟩
set_option maxRecDepth 100000 in
set_option maxHeartbeats 4000000 in
theorem npl_0_gt (l n : Int) (t p : Int) (w : World) (he : (⟨t, p⟩ : Edg).Wf) (hn : 16 < n) : Calls Tryd.prog 4 #[.int .u8 0, .agg #[.int .u8 t, .int .u32 p], .int .i64 l, .int .i64 n] w fun r w' => r = .returned (.bool true) ∧ Below w.heap.size w w' := by
  have hff : 0 ≤ (0 : Int) ∧ (0 : Int) ≤ 255 := by omega
  have ho : oneE 0 n = ⟨0, 0⟩ := by unfold oneE; rw [if_neg (by omega)]
  have hF : isFormB 0 = false := isF_no (by omega)
  have hC : chainedB 0 = false := ch_no (by omega)
  obtain ⟨W0, hW0⟩ : ∃ W, W = w.alloc (.cells #[.int .u8 t, .int .u32 p] 25) := ⟨_, rfl⟩
  have hb0 : Below w.heap.size w W0 := by rw [hW0]; exact (Below.refl _ _).alloc (Nat.le_refl _) _
  have HK0 : Hid (Blk W0 w.heap.size 25 #[.int .u8 t, .int .u32 p]) := Lib.hid (by rw [hW0]; exact Blk.new w _ _)
  have C := fun W => And.intro (regrown_calls (W := W) (fun W' hW' => (plain_any 0 ⟨t, p⟩ l n W' hff he).mono fun _ _ ⟨he, hb⟩ => ⟨he, hW'.trans (hb.mono hW'.size)⟩)) (And.intro
    (regrown_calls (W := W) (fun W' hW' => (refPlain_any 0 ⟨t, p⟩ l n W' hff he).mono fun _ _ ⟨he, hb⟩ => ⟨he, hW'.trans (hb.mono hW'.size)⟩)) (And.intro
    (regrown_calls (W := W) (fun W' hW' => (one_any 0 n hff W').mono fun _ _ ⟨he, hb⟩ => ⟨he, hW'.trans (hb.mono hW'.size)⟩)) (And.intro
    (regrown_calls (W := W) (fun W' hW' => (isForm_any 0 W').mono fun _ _ ⟨he, hb⟩ => ⟨he, by rw [← hb]; exact hW'⟩))
    (regrown_calls (W := W) (fun W' hW' => (chained_any 0 W').mono fun _ _ ⟨he, hb⟩ => ⟨he, by rw [← hb]; exact hW'⟩)))))
  simp only [Edg.cells, ho, hF, hC] at C
  generalize plain 0 ⟨t, p⟩ l n = x at *
  have HC := Lib.hid C
  have HB0 := Lib.hid hb0
  have HW0 := Lib.hid hW0
  skip
  clear he hW0 hb0 ho hF hC C hff
  have hEQ := eqlE 0 0 0 0 true (by simp)
  go_enter Tryd.func4, Tryd.ntmps4
  go_wp2_with fail
  rw [← HW0.out]
  refine (nalive_any _).mono ?_
  rintro e w1 ⟨rfl, hb1⟩
  obtain ⟨W, hW⟩ : ∃ W, W = w1.alloc (.cells #[.int .u8 0, .int .u32 0] 25) := ⟨_, rfl⟩
  have hbW : Below W0.heap.size W0 W := by rw [hW]; exact hb1.alloc hb1.size _
  have HK1 : Hid (Blk W w1.heap.size 25 #[.int .u8 0, .int .u32 0]) := Lib.hid (by rw [hW]; exact Blk.new w1 _ _)
  have HW := Lib.hid hW
  have HBW := Lib.hid hbW
  clear hW hbW hb1
  go_wp2_with fail
  rw [← HW.out]
  obtain ⟨c1, c2, c3, c4, c5⟩ := HC.out W
  have hkk := HK0.out.on0 HBW.out
  have j0 : ∀ d os, (grow (redrawn W d) os).cell? ⟨w.heap.size, 0, none⟩ = some (.int .u8 t) := fun d os => cell_regrown (hkk.cell 0) d os
  have j1 : ∀ d os, (grow (redrawn W d) os).cell? ⟨w.heap.size, 1, none⟩ = some (.int .u32 p) := fun d os => cell_regrown (hkk.cell 1) d os
  have j2 : ∀ d os, (grow (redrawn W d) os).cell? ⟨w1.heap.size, 0, none⟩ = some (.int .u8 0) := fun d os => cell_regrown (HK1.out.cell 0) d os
  have j3 : ∀ d os, (grow (redrawn W d) os).cell? ⟨w1.heap.size, 1, none⟩ = some (.int .u32 0) := fun d os => cell_regrown (HK1.out.cell 1) d os
  clear hkk
  refine wp_region_quiet_below (by kernel_rfl) (by kernel_rfl) ?_
  repeat (first | go_big_quiet_step (first | with_reducible exact c1 _ _ | with_reducible exact c2 _ _ | with_reducible exact c3 _ _ | with_reducible exact c4 _ _ | with_reducible exact c5 _ _ | fail) | quiet_step (first | with_reducible exact c1 _ _ | with_reducible exact c2 _ _ | with_reducible exact c3 _ _ | with_reducible exact c4 _ _ | with_reducible exact c5 _ _ | fail))
  refine wpQuiet_nil ?_
  intro w2 hw'
  have hbel2 : Below W.heap.size W w2 := regrown_below hw'
  clear hw' j0 j1 j2 j3 c1 c2 c3 c4 c5
  go_wp2_with fail
  go_ret
  exact ⟨rfl, HB0.out.trans ((HBW.out.trans (hbel2.mono HBW.out.size)).mono HB0.out.size)⟩
set_option maxRecDepth 100000 in
set_option maxHeartbeats 4000000 in
theorem npl_0_in (l n : Int) (t p : Int) (w : World) (he : (⟨t, p⟩ : Edg).Wf) (hn : 0 ≤ n) (hn2 : n ≤ 16) : Calls Tryd.prog 4 #[.int .u8 0, .agg #[.int .u8 t, .int .u32 p], .int .i64 l, .int .i64 n] w fun r w' => r = .returned (.bool true) ∧ Below w.heap.size w w' := by
  have hff : 0 ≤ (0 : Int) ∧ (0 : Int) ≤ 255 := by omega
  have ho : oneE 0 n = ⟨0, 0⟩ := by unfold oneE; rw [if_neg (by omega)]
  have hF : isFormB 0 = false := isF_no (by omega)
  have hC : chainedB 0 = false := ch_no (by omega)
  obtain ⟨W0, hW0⟩ : ∃ W, W = w.alloc (.cells #[.int .u8 t, .int .u32 p] 25) := ⟨_, rfl⟩
  have hb0 : Below w.heap.size w W0 := by rw [hW0]; exact (Below.refl _ _).alloc (Nat.le_refl _) _
  have HK0 : Hid (Blk W0 w.heap.size 25 #[.int .u8 t, .int .u32 p]) := Lib.hid (by rw [hW0]; exact Blk.new w _ _)
  have C := fun W => And.intro (regrown_calls (W := W) (fun W' hW' => (plain_any 0 ⟨t, p⟩ l n W' hff he).mono fun _ _ ⟨he, hb⟩ => ⟨he, hW'.trans (hb.mono hW'.size)⟩)) (And.intro
    (regrown_calls (W := W) (fun W' hW' => (refPlain_any 0 ⟨t, p⟩ l n W' hff he).mono fun _ _ ⟨he, hb⟩ => ⟨he, hW'.trans (hb.mono hW'.size)⟩)) (And.intro
    (regrown_calls (W := W) (fun W' hW' => (one_any 0 n hff W').mono fun _ _ ⟨he, hb⟩ => ⟨he, hW'.trans (hb.mono hW'.size)⟩)) (And.intro
    (regrown_calls (W := W) (fun W' hW' => (isForm_any 0 W').mono fun _ _ ⟨he, hb⟩ => ⟨he, by rw [← hb]; exact hW'⟩))
    (regrown_calls (W := W) (fun W' hW' => (chained_any 0 W').mono fun _ _ ⟨he, hb⟩ => ⟨he, by rw [← hb]; exact hW'⟩)))))
  simp only [Edg.cells, ho, hF, hC] at C
  generalize plain 0 ⟨t, p⟩ l n = x at *
  have HC := Lib.hid C
  have HB0 := Lib.hid hb0
  have HW0 := Lib.hid hW0
  skip
  clear he hW0 hb0 ho hF hC C hff
  have hEQ := eqlE 0 0 0 0 true (by simp)
  go_enter Tryd.func4, Tryd.ntmps4
  go_wp2_with fail
  rw [← HW0.out]
  refine (nalive_any _).mono ?_
  rintro e w1 ⟨rfl, hb1⟩
  obtain ⟨W, hW⟩ : ∃ W, W = w1.alloc (.cells #[.int .u8 0, .int .u32 0] 25) := ⟨_, rfl⟩
  have hbW : Below W0.heap.size W0 W := by rw [hW]; exact hb1.alloc hb1.size _
  have HK1 : Hid (Blk W w1.heap.size 25 #[.int .u8 0, .int .u32 0]) := Lib.hid (by rw [hW]; exact Blk.new w1 _ _)
  have HW := Lib.hid hW
  have HBW := Lib.hid hbW
  clear hW hbW hb1
  go_wp2_with fail
  rw [← HW.out]
  obtain ⟨c1, c2, c3, c4, c5⟩ := HC.out W
  have hkk := HK0.out.on0 HBW.out
  have j0 : ∀ d os, (grow (redrawn W d) os).cell? ⟨w.heap.size, 0, none⟩ = some (.int .u8 t) := fun d os => cell_regrown (hkk.cell 0) d os
  have j1 : ∀ d os, (grow (redrawn W d) os).cell? ⟨w.heap.size, 1, none⟩ = some (.int .u32 p) := fun d os => cell_regrown (hkk.cell 1) d os
  have j2 : ∀ d os, (grow (redrawn W d) os).cell? ⟨w1.heap.size, 0, none⟩ = some (.int .u8 0) := fun d os => cell_regrown (HK1.out.cell 0) d os
  have j3 : ∀ d os, (grow (redrawn W d) os).cell? ⟨w1.heap.size, 1, none⟩ = some (.int .u32 0) := fun d os => cell_regrown (HK1.out.cell 1) d os
  clear hkk
  refine wp_region_quiet_below (by kernel_rfl) (by kernel_rfl) ?_
  repeat (first | go_big_quiet_step (first | with_reducible exact c1 _ _ | with_reducible exact c2 _ _ | with_reducible exact c3 _ _ | with_reducible exact c4 _ _ | with_reducible exact c5 _ _ | fail) | quiet_step (first | with_reducible exact c1 _ _ | with_reducible exact c2 _ _ | with_reducible exact c3 _ _ | with_reducible exact c4 _ _ | with_reducible exact c5 _ _ | fail))
  refine wpQuiet_nil ?_
  intro w2 hw'
  have hbel2 : Below W.heap.size W w2 := regrown_below hw'
  clear hw' j0 j1 j2 j3 c1 c2 c3 c4 c5
  go_wp2_with fail
  go_ret
  exact ⟨rfl, HB0.out.trans ((HBW.out.trans (hbel2.mono HBW.out.size)).mono HB0.out.size)⟩
set_option maxRecDepth 100000 in
set_option maxHeartbeats 4000000 in
theorem npl_1_lt (l n : Int) (t p : Int) (w : World) (he : (⟨t, p⟩ : Edg).Wf) (hn : n < 0) : Calls Tryd.prog 4 #[.int .u8 1, .agg #[.int .u8 t, .int .u32 p], .int .i64 l, .int .i64 n] w fun r w' => r = .returned (.bool true) ∧ Below w.heap.size w w' := by
  have hff : 0 ≤ (1 : Int) ∧ (1 : Int) ≤ 255 := by omega
  have ho : oneE 1 n = ⟨0, 0⟩ := by unfold oneE; rw [if_neg (by omega)]
  have hF : isFormB 1 = true := isF_yes (by omega)
  have hC : chainedB 1 = false := ch_no (by omega)
  obtain ⟨W0, hW0⟩ : ∃ W, W = w.alloc (.cells #[.int .u8 t, .int .u32 p] 25) := ⟨_, rfl⟩
  have hb0 : Below w.heap.size w W0 := by rw [hW0]; exact (Below.refl _ _).alloc (Nat.le_refl _) _
  have HK0 : Hid (Blk W0 w.heap.size 25 #[.int .u8 t, .int .u32 p]) := Lib.hid (by rw [hW0]; exact Blk.new w _ _)
  have C := fun W => And.intro (regrown_calls (W := W) (fun W' hW' => (plain_any 1 ⟨t, p⟩ l n W' hff he).mono fun _ _ ⟨he, hb⟩ => ⟨he, hW'.trans (hb.mono hW'.size)⟩)) (And.intro
    (regrown_calls (W := W) (fun W' hW' => (refPlain_any 1 ⟨t, p⟩ l n W' hff he).mono fun _ _ ⟨he, hb⟩ => ⟨he, hW'.trans (hb.mono hW'.size)⟩)) (And.intro
    (regrown_calls (W := W) (fun W' hW' => (one_any 1 n hff W').mono fun _ _ ⟨he, hb⟩ => ⟨he, hW'.trans (hb.mono hW'.size)⟩)) (And.intro
    (regrown_calls (W := W) (fun W' hW' => (isForm_any 1 W').mono fun _ _ ⟨he, hb⟩ => ⟨he, by rw [← hb]; exact hW'⟩))
    (regrown_calls (W := W) (fun W' hW' => (chained_any 1 W').mono fun _ _ ⟨he, hb⟩ => ⟨he, by rw [← hb]; exact hW'⟩)))))
  simp only [Edg.cells, ho, hF, hC] at C
  generalize plain 1 ⟨t, p⟩ l n = x at *
  have HC := Lib.hid C
  have HB0 := Lib.hid hb0
  have HW0 := Lib.hid hW0
  skip
  clear he hW0 hb0 ho hF hC C hff
  have hEQ := eqlE 0 0 0 0 true (by simp)
  go_enter Tryd.func4, Tryd.ntmps4
  go_wp2_with fail
  rw [← HW0.out]
  refine (nalive_any _).mono ?_
  rintro e w1 ⟨rfl, hb1⟩
  obtain ⟨W, hW⟩ : ∃ W, W = w1.alloc (.cells #[.int .u8 0, .int .u32 0] 25) := ⟨_, rfl⟩
  have hbW : Below W0.heap.size W0 W := by rw [hW]; exact hb1.alloc hb1.size _
  have HK1 : Hid (Blk W w1.heap.size 25 #[.int .u8 0, .int .u32 0]) := Lib.hid (by rw [hW]; exact Blk.new w1 _ _)
  have HW := Lib.hid hW
  have HBW := Lib.hid hbW
  clear hW hbW hb1
  go_wp2_with fail
  rw [← HW.out]
  obtain ⟨c1, c2, c3, c4, c5⟩ := HC.out W
  have hkk := HK0.out.on0 HBW.out
  have j0 : ∀ d os, (grow (redrawn W d) os).cell? ⟨w.heap.size, 0, none⟩ = some (.int .u8 t) := fun d os => cell_regrown (hkk.cell 0) d os
  have j1 : ∀ d os, (grow (redrawn W d) os).cell? ⟨w.heap.size, 1, none⟩ = some (.int .u32 p) := fun d os => cell_regrown (hkk.cell 1) d os
  have j2 : ∀ d os, (grow (redrawn W d) os).cell? ⟨w1.heap.size, 0, none⟩ = some (.int .u8 0) := fun d os => cell_regrown (HK1.out.cell 0) d os
  have j3 : ∀ d os, (grow (redrawn W d) os).cell? ⟨w1.heap.size, 1, none⟩ = some (.int .u32 0) := fun d os => cell_regrown (HK1.out.cell 1) d os
  clear hkk
  refine wp_region_quiet_below (by kernel_rfl) (by kernel_rfl) ?_
  repeat (first | go_big_quiet_step (first | with_reducible exact c1 _ _ | with_reducible exact c2 _ _ | with_reducible exact c3 _ _ | with_reducible exact c4 _ _ | with_reducible exact c5 _ _ | fail) | quiet_step (first | with_reducible exact c1 _ _ | with_reducible exact c2 _ _ | with_reducible exact c3 _ _ | with_reducible exact c4 _ _ | with_reducible exact c5 _ _ | fail))
  refine wpQuiet_nil ?_
  intro w2 hw'
  have hbel2 : Below W.heap.size W w2 := regrown_below hw'
  clear hw' j0 j1 j2 j3 c1 c2 c3 c4 c5
  go_wp2_with fail
  go_ret
  exact ⟨rfl, HB0.out.trans ((HBW.out.trans (hbel2.mono HBW.out.size)).mono HB0.out.size)⟩
set_option maxRecDepth 100000 in
set_option maxHeartbeats 4000000 in
theorem npl_1_gt (l n : Int) (t p : Int) (w : World) (he : (⟨t, p⟩ : Edg).Wf) (hn : 16 < n) : Calls Tryd.prog 4 #[.int .u8 1, .agg #[.int .u8 t, .int .u32 p], .int .i64 l, .int .i64 n] w fun r w' => r = .returned (.bool true) ∧ Below w.heap.size w w' := by
  have hff : 0 ≤ (1 : Int) ∧ (1 : Int) ≤ 255 := by omega
  have ho : oneE 1 n = ⟨0, 0⟩ := by unfold oneE; rw [if_neg (by omega)]
  have hF : isFormB 1 = true := isF_yes (by omega)
  have hC : chainedB 1 = false := ch_no (by omega)
  obtain ⟨W0, hW0⟩ : ∃ W, W = w.alloc (.cells #[.int .u8 t, .int .u32 p] 25) := ⟨_, rfl⟩
  have hb0 : Below w.heap.size w W0 := by rw [hW0]; exact (Below.refl _ _).alloc (Nat.le_refl _) _
  have HK0 : Hid (Blk W0 w.heap.size 25 #[.int .u8 t, .int .u32 p]) := Lib.hid (by rw [hW0]; exact Blk.new w _ _)
  have C := fun W => And.intro (regrown_calls (W := W) (fun W' hW' => (plain_any 1 ⟨t, p⟩ l n W' hff he).mono fun _ _ ⟨he, hb⟩ => ⟨he, hW'.trans (hb.mono hW'.size)⟩)) (And.intro
    (regrown_calls (W := W) (fun W' hW' => (refPlain_any 1 ⟨t, p⟩ l n W' hff he).mono fun _ _ ⟨he, hb⟩ => ⟨he, hW'.trans (hb.mono hW'.size)⟩)) (And.intro
    (regrown_calls (W := W) (fun W' hW' => (one_any 1 n hff W').mono fun _ _ ⟨he, hb⟩ => ⟨he, hW'.trans (hb.mono hW'.size)⟩)) (And.intro
    (regrown_calls (W := W) (fun W' hW' => (isForm_any 1 W').mono fun _ _ ⟨he, hb⟩ => ⟨he, by rw [← hb]; exact hW'⟩))
    (regrown_calls (W := W) (fun W' hW' => (chained_any 1 W').mono fun _ _ ⟨he, hb⟩ => ⟨he, by rw [← hb]; exact hW'⟩)))))
  simp only [Edg.cells, ho, hF, hC] at C
  generalize plain 1 ⟨t, p⟩ l n = x at *
  have HC := Lib.hid C
  have HB0 := Lib.hid hb0
  have HW0 := Lib.hid hW0
  skip
  clear he hW0 hb0 ho hF hC C hff
  have hEQ := eqlE 0 0 0 0 true (by simp)
  go_enter Tryd.func4, Tryd.ntmps4
  go_wp2_with fail
  rw [← HW0.out]
  refine (nalive_any _).mono ?_
  rintro e w1 ⟨rfl, hb1⟩
  obtain ⟨W, hW⟩ : ∃ W, W = w1.alloc (.cells #[.int .u8 0, .int .u32 0] 25) := ⟨_, rfl⟩
  have hbW : Below W0.heap.size W0 W := by rw [hW]; exact hb1.alloc hb1.size _
  have HK1 : Hid (Blk W w1.heap.size 25 #[.int .u8 0, .int .u32 0]) := Lib.hid (by rw [hW]; exact Blk.new w1 _ _)
  have HW := Lib.hid hW
  have HBW := Lib.hid hbW
  clear hW hbW hb1
  go_wp2_with fail
  rw [← HW.out]
  obtain ⟨c1, c2, c3, c4, c5⟩ := HC.out W
  have hkk := HK0.out.on0 HBW.out
  have j0 : ∀ d os, (grow (redrawn W d) os).cell? ⟨w.heap.size, 0, none⟩ = some (.int .u8 t) := fun d os => cell_regrown (hkk.cell 0) d os
  have j1 : ∀ d os, (grow (redrawn W d) os).cell? ⟨w.heap.size, 1, none⟩ = some (.int .u32 p) := fun d os => cell_regrown (hkk.cell 1) d os
  have j2 : ∀ d os, (grow (redrawn W d) os).cell? ⟨w1.heap.size, 0, none⟩ = some (.int .u8 0) := fun d os => cell_regrown (HK1.out.cell 0) d os
  have j3 : ∀ d os, (grow (redrawn W d) os).cell? ⟨w1.heap.size, 1, none⟩ = some (.int .u32 0) := fun d os => cell_regrown (HK1.out.cell 1) d os
  clear hkk
  refine wp_region_quiet_below (by kernel_rfl) (by kernel_rfl) ?_
  repeat (first | go_big_quiet_step (first | with_reducible exact c1 _ _ | with_reducible exact c2 _ _ | with_reducible exact c3 _ _ | with_reducible exact c4 _ _ | with_reducible exact c5 _ _ | fail) | quiet_step (first | with_reducible exact c1 _ _ | with_reducible exact c2 _ _ | with_reducible exact c3 _ _ | with_reducible exact c4 _ _ | with_reducible exact c5 _ _ | fail))
  refine wpQuiet_nil ?_
  intro w2 hw'
  have hbel2 : Below W.heap.size W w2 := regrown_below hw'
  clear hw' j0 j1 j2 j3 c1 c2 c3 c4 c5
  go_wp2_with fail
  go_ret
  exact ⟨rfl, HB0.out.trans ((HBW.out.trans (hbel2.mono HBW.out.size)).mono HB0.out.size)⟩
set_option maxRecDepth 100000 in
set_option maxHeartbeats 4000000 in
theorem npl_1_in (l n : Int) (t p : Int) (w : World) (he : (⟨t, p⟩ : Edg).Wf) (hn : 0 ≤ n) (hn2 : n ≤ 16) : Calls Tryd.prog 4 #[.int .u8 1, .agg #[.int .u8 t, .int .u32 p], .int .i64 l, .int .i64 n] w fun r w' => r = .returned (.bool true) ∧ Below w.heap.size w w' := by
  have hff : 0 ≤ (1 : Int) ∧ (1 : Int) ≤ 255 := by omega
  have ho : oneE 1 n = ⟨0, 1⟩ := by unfold oneE; rw [if_pos (by omega), if_neg (by omega)]
  have hF : isFormB 1 = true := isF_yes (by omega)
  have hC : chainedB 1 = false := ch_no (by omega)
  obtain ⟨W0, hW0⟩ : ∃ W, W = w.alloc (.cells #[.int .u8 t, .int .u32 p] 25) := ⟨_, rfl⟩
  have hb0 : Below w.heap.size w W0 := by rw [hW0]; exact (Below.refl _ _).alloc (Nat.le_refl _) _
  have HK0 : Hid (Blk W0 w.heap.size 25 #[.int .u8 t, .int .u32 p]) := Lib.hid (by rw [hW0]; exact Blk.new w _ _)
  have C := fun W => And.intro (regrown_calls (W := W) (fun W' hW' => (plain_any 1 ⟨t, p⟩ l n W' hff he).mono fun _ _ ⟨he, hb⟩ => ⟨he, hW'.trans (hb.mono hW'.size)⟩)) (And.intro
    (regrown_calls (W := W) (fun W' hW' => (refPlain_any 1 ⟨t, p⟩ l n W' hff he).mono fun _ _ ⟨he, hb⟩ => ⟨he, hW'.trans (hb.mono hW'.size)⟩)) (And.intro
    (regrown_calls (W := W) (fun W' hW' => (one_any 1 n hff W').mono fun _ _ ⟨he, hb⟩ => ⟨he, hW'.trans (hb.mono hW'.size)⟩)) (And.intro
    (regrown_calls (W := W) (fun W' hW' => (isForm_any 1 W').mono fun _ _ ⟨he, hb⟩ => ⟨he, by rw [← hb]; exact hW'⟩))
    (regrown_calls (W := W) (fun W' hW' => (chained_any 1 W').mono fun _ _ ⟨he, hb⟩ => ⟨he, by rw [← hb]; exact hW'⟩)))))
  simp only [Edg.cells, ho, hF, hC] at C
  generalize plain 1 ⟨t, p⟩ l n = x at *
  have HC := Lib.hid C
  have HB0 := Lib.hid hb0
  have HW0 := Lib.hid hW0
  skip
  clear he hW0 hb0 ho hF hC C hff
  have hEQ := eqlE 0 1 0 1 true (by simp)
  go_enter Tryd.func4, Tryd.ntmps4
  go_wp2_with fail
  rw [← HW0.out]
  refine (nalive_any _).mono ?_
  rintro e w1 ⟨rfl, hb1⟩
  obtain ⟨W, hW⟩ : ∃ W, W = w1.alloc (.cells #[.int .u8 0, .int .u32 1] 25) := ⟨_, rfl⟩
  have hbW : Below W0.heap.size W0 W := by rw [hW]; exact hb1.alloc hb1.size _
  have HK1 : Hid (Blk W w1.heap.size 25 #[.int .u8 0, .int .u32 1]) := Lib.hid (by rw [hW]; exact Blk.new w1 _ _)
  have HW := Lib.hid hW
  have HBW := Lib.hid hbW
  clear hW hbW hb1
  go_wp2_with fail
  rw [← HW.out]
  obtain ⟨c1, c2, c3, c4, c5⟩ := HC.out W
  have hkk := HK0.out.on0 HBW.out
  have j0 : ∀ d os, (grow (redrawn W d) os).cell? ⟨w.heap.size, 0, none⟩ = some (.int .u8 t) := fun d os => cell_regrown (hkk.cell 0) d os
  have j1 : ∀ d os, (grow (redrawn W d) os).cell? ⟨w.heap.size, 1, none⟩ = some (.int .u32 p) := fun d os => cell_regrown (hkk.cell 1) d os
  have j2 : ∀ d os, (grow (redrawn W d) os).cell? ⟨w1.heap.size, 0, none⟩ = some (.int .u8 0) := fun d os => cell_regrown (HK1.out.cell 0) d os
  have j3 : ∀ d os, (grow (redrawn W d) os).cell? ⟨w1.heap.size, 1, none⟩ = some (.int .u32 1) := fun d os => cell_regrown (HK1.out.cell 1) d os
  clear hkk
  refine wp_region_quiet_below (by kernel_rfl) (by kernel_rfl) ?_
  repeat (first | go_big_quiet_step (first | with_reducible exact c1 _ _ | with_reducible exact c2 _ _ | with_reducible exact c3 _ _ | with_reducible exact c4 _ _ | with_reducible exact c5 _ _ | fail) | quiet_step (first | with_reducible exact c1 _ _ | with_reducible exact c2 _ _ | with_reducible exact c3 _ _ | with_reducible exact c4 _ _ | with_reducible exact c5 _ _ | fail))
  refine wpQuiet_nil ?_
  intro w2 hw'
  have hbel2 : Below W.heap.size W w2 := regrown_below hw'
  clear hw' j0 j1 j2 j3 c1 c2 c3 c4 c5
  go_wp2_with fail
  go_ret
  exact ⟨rfl, HB0.out.trans ((HBW.out.trans (hbel2.mono HBW.out.size)).mono HB0.out.size)⟩
set_option maxRecDepth 100000 in
set_option maxHeartbeats 4000000 in
theorem npl_2_lt (l n : Int) (t p : Int) (w : World) (he : (⟨t, p⟩ : Edg).Wf) (hn : n < 0) : Calls Tryd.prog 4 #[.int .u8 2, .agg #[.int .u8 t, .int .u32 p], .int .i64 l, .int .i64 n] w fun r w' => r = .returned (.bool true) ∧ Below w.heap.size w w' := by
  have hff : 0 ≤ (2 : Int) ∧ (2 : Int) ≤ 255 := by omega
  have ho : oneE 2 n = ⟨0, 0⟩ := by unfold oneE; rw [if_neg (by omega)]
  have hF : isFormB 2 = true := isF_yes (by omega)
  have hC : chainedB 2 = false := ch_no (by omega)
  obtain ⟨W0, hW0⟩ : ∃ W, W = w.alloc (.cells #[.int .u8 t, .int .u32 p] 25) := ⟨_, rfl⟩
  have hb0 : Below w.heap.size w W0 := by rw [hW0]; exact (Below.refl _ _).alloc (Nat.le_refl _) _
  have HK0 : Hid (Blk W0 w.heap.size 25 #[.int .u8 t, .int .u32 p]) := Lib.hid (by rw [hW0]; exact Blk.new w _ _)
  have C := fun W => And.intro (regrown_calls (W := W) (fun W' hW' => (plain_any 2 ⟨t, p⟩ l n W' hff he).mono fun _ _ ⟨he, hb⟩ => ⟨he, hW'.trans (hb.mono hW'.size)⟩)) (And.intro
    (regrown_calls (W := W) (fun W' hW' => (refPlain_any 2 ⟨t, p⟩ l n W' hff he).mono fun _ _ ⟨he, hb⟩ => ⟨he, hW'.trans (hb.mono hW'.size)⟩)) (And.intro
    (regrown_calls (W := W) (fun W' hW' => (one_any 2 n hff W').mono fun _ _ ⟨he, hb⟩ => ⟨he, hW'.trans (hb.mono hW'.size)⟩)) (And.intro
    (regrown_calls (W := W) (fun W' hW' => (isForm_any 2 W').mono fun _ _ ⟨he, hb⟩ => ⟨he, by rw [← hb]; exact hW'⟩))
    (regrown_calls (W := W) (fun W' hW' => (chained_any 2 W').mono fun _ _ ⟨he, hb⟩ => ⟨he, by rw [← hb]; exact hW'⟩)))))
  simp only [Edg.cells, ho, hF, hC] at C
  generalize plain 2 ⟨t, p⟩ l n = x at *
  have HC := Lib.hid C
  have HB0 := Lib.hid hb0
  have HW0 := Lib.hid hW0
  skip
  clear he hW0 hb0 ho hF hC C hff
  have hEQ := eqlE 0 0 0 0 true (by simp)
  go_enter Tryd.func4, Tryd.ntmps4
  go_wp2_with fail
  rw [← HW0.out]
  refine (nalive_any _).mono ?_
  rintro e w1 ⟨rfl, hb1⟩
  obtain ⟨W, hW⟩ : ∃ W, W = w1.alloc (.cells #[.int .u8 0, .int .u32 0] 25) := ⟨_, rfl⟩
  have hbW : Below W0.heap.size W0 W := by rw [hW]; exact hb1.alloc hb1.size _
  have HK1 : Hid (Blk W w1.heap.size 25 #[.int .u8 0, .int .u32 0]) := Lib.hid (by rw [hW]; exact Blk.new w1 _ _)
  have HW := Lib.hid hW
  have HBW := Lib.hid hbW
  clear hW hbW hb1
  go_wp2_with fail
  rw [← HW.out]
  obtain ⟨c1, c2, c3, c4, c5⟩ := HC.out W
  have hkk := HK0.out.on0 HBW.out
  have j0 : ∀ d os, (grow (redrawn W d) os).cell? ⟨w.heap.size, 0, none⟩ = some (.int .u8 t) := fun d os => cell_regrown (hkk.cell 0) d os
  have j1 : ∀ d os, (grow (redrawn W d) os).cell? ⟨w.heap.size, 1, none⟩ = some (.int .u32 p) := fun d os => cell_regrown (hkk.cell 1) d os
  have j2 : ∀ d os, (grow (redrawn W d) os).cell? ⟨w1.heap.size, 0, none⟩ = some (.int .u8 0) := fun d os => cell_regrown (HK1.out.cell 0) d os
  have j3 : ∀ d os, (grow (redrawn W d) os).cell? ⟨w1.heap.size, 1, none⟩ = some (.int .u32 0) := fun d os => cell_regrown (HK1.out.cell 1) d os
  clear hkk
  refine wp_region_quiet_below (by kernel_rfl) (by kernel_rfl) ?_
  repeat (first | go_big_quiet_step (first | with_reducible exact c1 _ _ | with_reducible exact c2 _ _ | with_reducible exact c3 _ _ | with_reducible exact c4 _ _ | with_reducible exact c5 _ _ | fail) | quiet_step (first | with_reducible exact c1 _ _ | with_reducible exact c2 _ _ | with_reducible exact c3 _ _ | with_reducible exact c4 _ _ | with_reducible exact c5 _ _ | fail))
  refine wpQuiet_nil ?_
  intro w2 hw'
  have hbel2 : Below W.heap.size W w2 := regrown_below hw'
  clear hw' j0 j1 j2 j3 c1 c2 c3 c4 c5
  go_wp2_with fail
  go_ret
  exact ⟨rfl, HB0.out.trans ((HBW.out.trans (hbel2.mono HBW.out.size)).mono HB0.out.size)⟩
set_option maxRecDepth 100000 in
set_option maxHeartbeats 4000000 in
theorem npl_2_gt (l n : Int) (t p : Int) (w : World) (he : (⟨t, p⟩ : Edg).Wf) (hn : 16 < n) : Calls Tryd.prog 4 #[.int .u8 2, .agg #[.int .u8 t, .int .u32 p], .int .i64 l, .int .i64 n] w fun r w' => r = .returned (.bool true) ∧ Below w.heap.size w w' := by
  have hff : 0 ≤ (2 : Int) ∧ (2 : Int) ≤ 255 := by omega
  have ho : oneE 2 n = ⟨0, 0⟩ := by unfold oneE; rw [if_neg (by omega)]
  have hF : isFormB 2 = true := isF_yes (by omega)
  have hC : chainedB 2 = false := ch_no (by omega)
  obtain ⟨W0, hW0⟩ : ∃ W, W = w.alloc (.cells #[.int .u8 t, .int .u32 p] 25) := ⟨_, rfl⟩
  have hb0 : Below w.heap.size w W0 := by rw [hW0]; exact (Below.refl _ _).alloc (Nat.le_refl _) _
  have HK0 : Hid (Blk W0 w.heap.size 25 #[.int .u8 t, .int .u32 p]) := Lib.hid (by rw [hW0]; exact Blk.new w _ _)
  have C := fun W => And.intro (regrown_calls (W := W) (fun W' hW' => (plain_any 2 ⟨t, p⟩ l n W' hff he).mono fun _ _ ⟨he, hb⟩ => ⟨he, hW'.trans (hb.mono hW'.size)⟩)) (And.intro
    (regrown_calls (W := W) (fun W' hW' => (refPlain_any 2 ⟨t, p⟩ l n W' hff he).mono fun _ _ ⟨he, hb⟩ => ⟨he, hW'.trans (hb.mono hW'.size)⟩)) (And.intro
    (regrown_calls (W := W) (fun W' hW' => (one_any 2 n hff W').mono fun _ _ ⟨he, hb⟩ => ⟨he, hW'.trans (hb.mono hW'.size)⟩)) (And.intro
    (regrown_calls (W := W) (fun W' hW' => (isForm_any 2 W').mono fun _ _ ⟨he, hb⟩ => ⟨he, by rw [← hb]; exact hW'⟩))
    (regrown_calls (W := W) (fun W' hW' => (chained_any 2 W').mono fun _ _ ⟨he, hb⟩ => ⟨he, by rw [← hb]; exact hW'⟩)))))
  simp only [Edg.cells, ho, hF, hC] at C
  generalize plain 2 ⟨t, p⟩ l n = x at *
  have HC := Lib.hid C
  have HB0 := Lib.hid hb0
  have HW0 := Lib.hid hW0
  skip
  clear he hW0 hb0 ho hF hC C hff
  have hEQ := eqlE 0 0 0 0 true (by simp)
  go_enter Tryd.func4, Tryd.ntmps4
  go_wp2_with fail
  rw [← HW0.out]
  refine (nalive_any _).mono ?_
  rintro e w1 ⟨rfl, hb1⟩
  obtain ⟨W, hW⟩ : ∃ W, W = w1.alloc (.cells #[.int .u8 0, .int .u32 0] 25) := ⟨_, rfl⟩
  have hbW : Below W0.heap.size W0 W := by rw [hW]; exact hb1.alloc hb1.size _
  have HK1 : Hid (Blk W w1.heap.size 25 #[.int .u8 0, .int .u32 0]) := Lib.hid (by rw [hW]; exact Blk.new w1 _ _)
  have HW := Lib.hid hW
  have HBW := Lib.hid hbW
  clear hW hbW hb1
  go_wp2_with fail
  rw [← HW.out]
  obtain ⟨c1, c2, c3, c4, c5⟩ := HC.out W
  have hkk := HK0.out.on0 HBW.out
  have j0 : ∀ d os, (grow (redrawn W d) os).cell? ⟨w.heap.size, 0, none⟩ = some (.int .u8 t) := fun d os => cell_regrown (hkk.cell 0) d os
  have j1 : ∀ d os, (grow (redrawn W d) os).cell? ⟨w.heap.size, 1, none⟩ = some (.int .u32 p) := fun d os => cell_regrown (hkk.cell 1) d os
  have j2 : ∀ d os, (grow (redrawn W d) os).cell? ⟨w1.heap.size, 0, none⟩ = some (.int .u8 0) := fun d os => cell_regrown (HK1.out.cell 0) d os
  have j3 : ∀ d os, (grow (redrawn W d) os).cell? ⟨w1.heap.size, 1, none⟩ = some (.int .u32 0) := fun d os => cell_regrown (HK1.out.cell 1) d os
  clear hkk
  refine wp_region_quiet_below (by kernel_rfl) (by kernel_rfl) ?_
  repeat (first | go_big_quiet_step (first | with_reducible exact c1 _ _ | with_reducible exact c2 _ _ | with_reducible exact c3 _ _ | with_reducible exact c4 _ _ | with_reducible exact c5 _ _ | fail) | quiet_step (first | with_reducible exact c1 _ _ | with_reducible exact c2 _ _ | with_reducible exact c3 _ _ | with_reducible exact c4 _ _ | with_reducible exact c5 _ _ | fail))
  refine wpQuiet_nil ?_
  intro w2 hw'
  have hbel2 : Below W.heap.size W w2 := regrown_below hw'
  clear hw' j0 j1 j2 j3 c1 c2 c3 c4 c5
  go_wp2_with fail
  go_ret
  exact ⟨rfl, HB0.out.trans ((HBW.out.trans (hbel2.mono HBW.out.size)).mono HB0.out.size)⟩
set_option maxRecDepth 100000 in
set_option maxHeartbeats 4000000 in
theorem npl_2_in (l n : Int) (t p : Int) (w : World) (he : (⟨t, p⟩ : Edg).Wf) (hn : 0 ≤ n) (hn2 : n ≤ 16) : Calls Tryd.prog 4 #[.int .u8 2, .agg #[.int .u8 t, .int .u32 p], .int .i64 l, .int .i64 n] w fun r w' => r = .returned (.bool true) ∧ Below w.heap.size w w' := by
  have hff : 0 ≤ (2 : Int) ∧ (2 : Int) ≤ 255 := by omega
  have ho : oneE 2 n = ⟨0, 1⟩ := by unfold oneE; rw [if_pos (by omega), if_neg (by omega)]
  have hF : isFormB 2 = true := isF_yes (by omega)
  have hC : chainedB 2 = false := ch_no (by omega)
  obtain ⟨W0, hW0⟩ : ∃ W, W = w.alloc (.cells #[.int .u8 t, .int .u32 p] 25) := ⟨_, rfl⟩
  have hb0 : Below w.heap.size w W0 := by rw [hW0]; exact (Below.refl _ _).alloc (Nat.le_refl _) _
  have HK0 : Hid (Blk W0 w.heap.size 25 #[.int .u8 t, .int .u32 p]) := Lib.hid (by rw [hW0]; exact Blk.new w _ _)
  have C := fun W => And.intro (regrown_calls (W := W) (fun W' hW' => (plain_any 2 ⟨t, p⟩ l n W' hff he).mono fun _ _ ⟨he, hb⟩ => ⟨he, hW'.trans (hb.mono hW'.size)⟩)) (And.intro
    (regrown_calls (W := W) (fun W' hW' => (refPlain_any 2 ⟨t, p⟩ l n W' hff he).mono fun _ _ ⟨he, hb⟩ => ⟨he, hW'.trans (hb.mono hW'.size)⟩)) (And.intro
    (regrown_calls (W := W) (fun W' hW' => (one_any 2 n hff W').mono fun _ _ ⟨he, hb⟩ => ⟨he, hW'.trans (hb.mono hW'.size)⟩)) (And.intro
    (regrown_calls (W := W) (fun W' hW' => (isForm_any 2 W').mono fun _ _ ⟨he, hb⟩ => ⟨he, by rw [← hb]; exact hW'⟩))
    (regrown_calls (W := W) (fun W' hW' => (chained_any 2 W').mono fun _ _ ⟨he, hb⟩ => ⟨he, by rw [← hb]; exact hW'⟩)))))
  simp only [Edg.cells, ho, hF, hC] at C
  generalize plain 2 ⟨t, p⟩ l n = x at *
  have HC := Lib.hid C
  have HB0 := Lib.hid hb0
  have HW0 := Lib.hid hW0
  skip
  clear he hW0 hb0 ho hF hC C hff
  have hEQ := eqlE 0 1 0 1 true (by simp)
  go_enter Tryd.func4, Tryd.ntmps4
  go_wp2_with fail
  rw [← HW0.out]
  refine (nalive_any _).mono ?_
  rintro e w1 ⟨rfl, hb1⟩
  obtain ⟨W, hW⟩ : ∃ W, W = w1.alloc (.cells #[.int .u8 0, .int .u32 1] 25) := ⟨_, rfl⟩
  have hbW : Below W0.heap.size W0 W := by rw [hW]; exact hb1.alloc hb1.size _
  have HK1 : Hid (Blk W w1.heap.size 25 #[.int .u8 0, .int .u32 1]) := Lib.hid (by rw [hW]; exact Blk.new w1 _ _)
  have HW := Lib.hid hW
  have HBW := Lib.hid hbW
  clear hW hbW hb1
  go_wp2_with fail
  rw [← HW.out]
  obtain ⟨c1, c2, c3, c4, c5⟩ := HC.out W
  have hkk := HK0.out.on0 HBW.out
  have j0 : ∀ d os, (grow (redrawn W d) os).cell? ⟨w.heap.size, 0, none⟩ = some (.int .u8 t) := fun d os => cell_regrown (hkk.cell 0) d os
  have j1 : ∀ d os, (grow (redrawn W d) os).cell? ⟨w.heap.size, 1, none⟩ = some (.int .u32 p) := fun d os => cell_regrown (hkk.cell 1) d os
  have j2 : ∀ d os, (grow (redrawn W d) os).cell? ⟨w1.heap.size, 0, none⟩ = some (.int .u8 0) := fun d os => cell_regrown (HK1.out.cell 0) d os
  have j3 : ∀ d os, (grow (redrawn W d) os).cell? ⟨w1.heap.size, 1, none⟩ = some (.int .u32 1) := fun d os => cell_regrown (HK1.out.cell 1) d os
  clear hkk
  refine wp_region_quiet_below (by kernel_rfl) (by kernel_rfl) ?_
  repeat (first | go_big_quiet_step (first | with_reducible exact c1 _ _ | with_reducible exact c2 _ _ | with_reducible exact c3 _ _ | with_reducible exact c4 _ _ | with_reducible exact c5 _ _ | fail) | quiet_step (first | with_reducible exact c1 _ _ | with_reducible exact c2 _ _ | with_reducible exact c3 _ _ | with_reducible exact c4 _ _ | with_reducible exact c5 _ _ | fail))
  refine wpQuiet_nil ?_
  intro w2 hw'
  have hbel2 : Below W.heap.size W w2 := regrown_below hw'
  clear hw' j0 j1 j2 j3 c1 c2 c3 c4 c5
  go_wp2_with fail
  go_ret
  exact ⟨rfl, HB0.out.trans ((HBW.out.trans (hbel2.mono HBW.out.size)).mono HB0.out.size)⟩
set_option maxRecDepth 100000 in
set_option maxHeartbeats 4000000 in
theorem npl_3_lt (l n : Int) (t p : Int) (w : World) (he : (⟨t, p⟩ : Edg).Wf) (hn : n < 0) : Calls Tryd.prog 4 #[.int .u8 3, .agg #[.int .u8 t, .int .u32 p], .int .i64 l, .int .i64 n] w fun r w' => r = .returned (.bool true) ∧ Below w.heap.size w w' := by
  have hff : 0 ≤ (3 : Int) ∧ (3 : Int) ≤ 255 := by omega
  have ho : oneE 3 n = ⟨0, 0⟩ := by unfold oneE; rw [if_neg (by omega)]
  have hF : isFormB 3 = true := isF_yes (by omega)
  have hC : chainedB 3 = true := ch_yes (by omega)
  obtain ⟨W0, hW0⟩ : ∃ W, W = w.alloc (.cells #[.int .u8 t, .int .u32 p] 25) := ⟨_, rfl⟩
  have hb0 : Below w.heap.size w W0 := by rw [hW0]; exact (Below.refl _ _).alloc (Nat.le_refl _) _
  have HK0 : Hid (Blk W0 w.heap.size 25 #[.int .u8 t, .int .u32 p]) := Lib.hid (by rw [hW0]; exact Blk.new w _ _)
  have C := fun W => And.intro (regrown_calls (W := W) (fun W' hW' => (plain_any 3 ⟨t, p⟩ l n W' hff he).mono fun _ _ ⟨he, hb⟩ => ⟨he, hW'.trans (hb.mono hW'.size)⟩)) (And.intro
    (regrown_calls (W := W) (fun W' hW' => (refPlain_any 3 ⟨t, p⟩ l n W' hff he).mono fun _ _ ⟨he, hb⟩ => ⟨he, hW'.trans (hb.mono hW'.size)⟩)) (And.intro
    (regrown_calls (W := W) (fun W' hW' => (one_any 3 n hff W').mono fun _ _ ⟨he, hb⟩ => ⟨he, hW'.trans (hb.mono hW'.size)⟩)) (And.intro
    (regrown_calls (W := W) (fun W' hW' => (isForm_any 3 W').mono fun _ _ ⟨he, hb⟩ => ⟨he, by rw [← hb]; exact hW'⟩))
    (regrown_calls (W := W) (fun W' hW' => (chained_any 3 W').mono fun _ _ ⟨he, hb⟩ => ⟨he, by rw [← hb]; exact hW'⟩)))))
  simp only [Edg.cells, ho, hF, hC] at C
  generalize plain 3 ⟨t, p⟩ l n = x at *
  have HC := Lib.hid C
  have HB0 := Lib.hid hb0
  have HW0 := Lib.hid hW0
  skip
  clear he hW0 hb0 ho hF hC C hff
  have hEQ := eqlE 0 0 0 0 true (by simp)
  go_enter Tryd.func4, Tryd.ntmps4
  go_wp2_with fail
  rw [← HW0.out]
  refine (nalive_any _).mono ?_
  rintro e w1 ⟨rfl, hb1⟩
  obtain ⟨W, hW⟩ : ∃ W, W = w1.alloc (.cells #[.int .u8 0, .int .u32 0] 25) := ⟨_, rfl⟩
  have hbW : Below W0.heap.size W0 W := by rw [hW]; exact hb1.alloc hb1.size _
  have HK1 : Hid (Blk W w1.heap.size 25 #[.int .u8 0, .int .u32 0]) := Lib.hid (by rw [hW]; exact Blk.new w1 _ _)
  have HW := Lib.hid hW
  have HBW := Lib.hid hbW
  clear hW hbW hb1
  go_wp2_with fail
  rw [← HW.out]
  obtain ⟨c1, c2, c3, c4, c5⟩ := HC.out W
  have hkk := HK0.out.on0 HBW.out
  have j0 : ∀ d os, (grow (redrawn W d) os).cell? ⟨w.heap.size, 0, none⟩ = some (.int .u8 t) := fun d os => cell_regrown (hkk.cell 0) d os
  have j1 : ∀ d os, (grow (redrawn W d) os).cell? ⟨w.heap.size, 1, none⟩ = some (.int .u32 p) := fun d os => cell_regrown (hkk.cell 1) d os
  have j2 : ∀ d os, (grow (redrawn W d) os).cell? ⟨w1.heap.size, 0, none⟩ = some (.int .u8 0) := fun d os => cell_regrown (HK1.out.cell 0) d os
  have j3 : ∀ d os, (grow (redrawn W d) os).cell? ⟨w1.heap.size, 1, none⟩ = some (.int .u32 0) := fun d os => cell_regrown (HK1.out.cell 1) d os
  clear hkk
  refine wp_region_quiet_below (by kernel_rfl) (by kernel_rfl) ?_
  repeat (first | go_big_quiet_step (first | with_reducible exact c1 _ _ | with_reducible exact c2 _ _ | with_reducible exact c3 _ _ | with_reducible exact c4 _ _ | with_reducible exact c5 _ _ | fail) | quiet_step (first | with_reducible exact c1 _ _ | with_reducible exact c2 _ _ | with_reducible exact c3 _ _ | with_reducible exact c4 _ _ | with_reducible exact c5 _ _ | fail))
  refine wpQuiet_nil ?_
  intro w2 hw'
  have hbel2 : Below W.heap.size W w2 := regrown_below hw'
  clear hw' j0 j1 j2 j3 c1 c2 c3 c4 c5
  go_wp2_with fail
  go_ret
  exact ⟨rfl, HB0.out.trans ((HBW.out.trans (hbel2.mono HBW.out.size)).mono HB0.out.size)⟩
set_option maxRecDepth 100000 in
set_option maxHeartbeats 4000000 in
theorem npl_3_gt (l n : Int) (t p : Int) (w : World) (he : (⟨t, p⟩ : Edg).Wf) (hn : 16 < n) : Calls Tryd.prog 4 #[.int .u8 3, .agg #[.int .u8 t, .int .u32 p], .int .i64 l, .int .i64 n] w fun r w' => r = .returned (.bool true) ∧ Below w.heap.size w w' := by
  have hff : 0 ≤ (3 : Int) ∧ (3 : Int) ≤ 255 := by omega
  have ho : oneE 3 n = ⟨0, 0⟩ := by unfold oneE; rw [if_neg (by omega)]
  have hF : isFormB 3 = true := isF_yes (by omega)
  have hC : chainedB 3 = true := ch_yes (by omega)
  obtain ⟨W0, hW0⟩ : ∃ W, W = w.alloc (.cells #[.int .u8 t, .int .u32 p] 25) := ⟨_, rfl⟩
  have hb0 : Below w.heap.size w W0 := by rw [hW0]; exact (Below.refl _ _).alloc (Nat.le_refl _) _
  have HK0 : Hid (Blk W0 w.heap.size 25 #[.int .u8 t, .int .u32 p]) := Lib.hid (by rw [hW0]; exact Blk.new w _ _)
  have C := fun W => And.intro (regrown_calls (W := W) (fun W' hW' => (plain_any 3 ⟨t, p⟩ l n W' hff he).mono fun _ _ ⟨he, hb⟩ => ⟨he, hW'.trans (hb.mono hW'.size)⟩)) (And.intro
    (regrown_calls (W := W) (fun W' hW' => (refPlain_any 3 ⟨t, p⟩ l n W' hff he).mono fun _ _ ⟨he, hb⟩ => ⟨he, hW'.trans (hb.mono hW'.size)⟩)) (And.intro
    (regrown_calls (W := W) (fun W' hW' => (one_any 3 n hff W').mono fun _ _ ⟨he, hb⟩ => ⟨he, hW'.trans (hb.mono hW'.size)⟩)) (And.intro
    (regrown_calls (W := W) (fun W' hW' => (isForm_any 3 W').mono fun _ _ ⟨he, hb⟩ => ⟨he, by rw [← hb]; exact hW'⟩))
    (regrown_calls (W := W) (fun W' hW' => (chained_any 3 W').mono fun _ _ ⟨he, hb⟩ => ⟨he, by rw [← hb]; exact hW'⟩)))))
  simp only [Edg.cells, ho, hF, hC] at C
  generalize plain 3 ⟨t, p⟩ l n = x at *
  have HC := Lib.hid C
  have HB0 := Lib.hid hb0
  have HW0 := Lib.hid hW0
  skip
  clear he hW0 hb0 ho hF hC C hff
  have hEQ := eqlE 0 0 0 0 true (by simp)
  go_enter Tryd.func4, Tryd.ntmps4
  go_wp2_with fail
  rw [← HW0.out]
  refine (nalive_any _).mono ?_
  rintro e w1 ⟨rfl, hb1⟩
  obtain ⟨W, hW⟩ : ∃ W, W = w1.alloc (.cells #[.int .u8 0, .int .u32 0] 25) := ⟨_, rfl⟩
  have hbW : Below W0.heap.size W0 W := by rw [hW]; exact hb1.alloc hb1.size _
  have HK1 : Hid (Blk W w1.heap.size 25 #[.int .u8 0, .int .u32 0]) := Lib.hid (by rw [hW]; exact Blk.new w1 _ _)
  have HW := Lib.hid hW
  have HBW := Lib.hid hbW
  clear hW hbW hb1
  go_wp2_with fail
  rw [← HW.out]
  obtain ⟨c1, c2, c3, c4, c5⟩ := HC.out W
  have hkk := HK0.out.on0 HBW.out
  have j0 : ∀ d os, (grow (redrawn W d) os).cell? ⟨w.heap.size, 0, none⟩ = some (.int .u8 t) := fun d os => cell_regrown (hkk.cell 0) d os
  have j1 : ∀ d os, (grow (redrawn W d) os).cell? ⟨w.heap.size, 1, none⟩ = some (.int .u32 p) := fun d os => cell_regrown (hkk.cell 1) d os
  have j2 : ∀ d os, (grow (redrawn W d) os).cell? ⟨w1.heap.size, 0, none⟩ = some (.int .u8 0) := fun d os => cell_regrown (HK1.out.cell 0) d os
  have j3 : ∀ d os, (grow (redrawn W d) os).cell? ⟨w1.heap.size, 1, none⟩ = some (.int .u32 0) := fun d os => cell_regrown (HK1.out.cell 1) d os
  clear hkk
  refine wp_region_quiet_below (by kernel_rfl) (by kernel_rfl) ?_
  repeat (first | go_big_quiet_step (first | with_reducible exact c1 _ _ | with_reducible exact c2 _ _ | with_reducible exact c3 _ _ | with_reducible exact c4 _ _ | with_reducible exact c5 _ _ | fail) | quiet_step (first | with_reducible exact c1 _ _ | with_reducible exact c2 _ _ | with_reducible exact c3 _ _ | with_reducible exact c4 _ _ | with_reducible exact c5 _ _ | fail))
  refine wpQuiet_nil ?_
  intro w2 hw'
  have hbel2 : Below W.heap.size W w2 := regrown_below hw'
  clear hw' j0 j1 j2 j3 c1 c2 c3 c4 c5
  go_wp2_with fail
  go_ret
  exact ⟨rfl, HB0.out.trans ((HBW.out.trans (hbel2.mono HBW.out.size)).mono HB0.out.size)⟩
set_option maxRecDepth 100000 in
set_option maxHeartbeats 4000000 in
theorem npl_3_in (l n : Int) (t p : Int) (w : World) (he : (⟨t, p⟩ : Edg).Wf) (hn : 0 ≤ n) (hn2 : n ≤ 16) : Calls Tryd.prog 4 #[.int .u8 3, .agg #[.int .u8 t, .int .u32 p], .int .i64 l, .int .i64 n] w fun r w' => r = .returned (.bool true) ∧ Below w.heap.size w w' := by
  have hff : 0 ≤ (3 : Int) ∧ (3 : Int) ≤ 255 := by omega
  have ho : oneE 3 n = ⟨0, 1⟩ := by unfold oneE; rw [if_pos (by omega), if_neg (by omega)]
  have hF : isFormB 3 = true := isF_yes (by omega)
  have hC : chainedB 3 = true := ch_yes (by omega)
  obtain ⟨W0, hW0⟩ : ∃ W, W = w.alloc (.cells #[.int .u8 t, .int .u32 p] 25) := ⟨_, rfl⟩
  have hb0 : Below w.heap.size w W0 := by rw [hW0]; exact (Below.refl _ _).alloc (Nat.le_refl _) _
  have HK0 : Hid (Blk W0 w.heap.size 25 #[.int .u8 t, .int .u32 p]) := Lib.hid (by rw [hW0]; exact Blk.new w _ _)
  have C := fun W => And.intro (regrown_calls (W := W) (fun W' hW' => (plain_any 3 ⟨t, p⟩ l n W' hff he).mono fun _ _ ⟨he, hb⟩ => ⟨he, hW'.trans (hb.mono hW'.size)⟩)) (And.intro
    (regrown_calls (W := W) (fun W' hW' => (refPlain_any 3 ⟨t, p⟩ l n W' hff he).mono fun _ _ ⟨he, hb⟩ => ⟨he, hW'.trans (hb.mono hW'.size)⟩)) (And.intro
    (regrown_calls (W := W) (fun W' hW' => (one_any 3 n hff W').mono fun _ _ ⟨he, hb⟩ => ⟨he, hW'.trans (hb.mono hW'.size)⟩)) (And.intro
    (regrown_calls (W := W) (fun W' hW' => (isForm_any 3 W').mono fun _ _ ⟨he, hb⟩ => ⟨he, by rw [← hb]; exact hW'⟩))
    (regrown_calls (W := W) (fun W' hW' => (chained_any 3 W').mono fun _ _ ⟨he, hb⟩ => ⟨he, by rw [← hb]; exact hW'⟩)))))
  simp only [Edg.cells, ho, hF, hC] at C
  generalize plain 3 ⟨t, p⟩ l n = x at *
  have HC := Lib.hid C
  have HB0 := Lib.hid hb0
  have HW0 := Lib.hid hW0
  skip
  clear he hW0 hb0 ho hF hC C hff
  have hEQ := eqlE 0 1 0 1 true (by simp)
  go_enter Tryd.func4, Tryd.ntmps4
  go_wp2_with fail
  rw [← HW0.out]
  refine (nalive_any _).mono ?_
  rintro e w1 ⟨rfl, hb1⟩
  obtain ⟨W, hW⟩ : ∃ W, W = w1.alloc (.cells #[.int .u8 0, .int .u32 1] 25) := ⟨_, rfl⟩
  have hbW : Below W0.heap.size W0 W := by rw [hW]; exact hb1.alloc hb1.size _
  have HK1 : Hid (Blk W w1.heap.size 25 #[.int .u8 0, .int .u32 1]) := Lib.hid (by rw [hW]; exact Blk.new w1 _ _)
  have HW := Lib.hid hW
  have HBW := Lib.hid hbW
  clear hW hbW hb1
  go_wp2_with fail
  rw [← HW.out]
  obtain ⟨c1, c2, c3, c4, c5⟩ := HC.out W
  have hkk := HK0.out.on0 HBW.out
  have j0 : ∀ d os, (grow (redrawn W d) os).cell? ⟨w.heap.size, 0, none⟩ = some (.int .u8 t) := fun d os => cell_regrown (hkk.cell 0) d os
  have j1 : ∀ d os, (grow (redrawn W d) os).cell? ⟨w.heap.size, 1, none⟩ = some (.int .u32 p) := fun d os => cell_regrown (hkk.cell 1) d os
  have j2 : ∀ d os, (grow (redrawn W d) os).cell? ⟨w1.heap.size, 0, none⟩ = some (.int .u8 0) := fun d os => cell_regrown (HK1.out.cell 0) d os
  have j3 : ∀ d os, (grow (redrawn W d) os).cell? ⟨w1.heap.size, 1, none⟩ = some (.int .u32 1) := fun d os => cell_regrown (HK1.out.cell 1) d os
  clear hkk
  refine wp_region_quiet_below (by kernel_rfl) (by kernel_rfl) ?_
  repeat (first | go_big_quiet_step (first | with_reducible exact c1 _ _ | with_reducible exact c2 _ _ | with_reducible exact c3 _ _ | with_reducible exact c4 _ _ | with_reducible exact c5 _ _ | fail) | quiet_step (first | with_reducible exact c1 _ _ | with_reducible exact c2 _ _ | with_reducible exact c3 _ _ | with_reducible exact c4 _ _ | with_reducible exact c5 _ _ | fail))
  refine wpQuiet_nil ?_
  intro w2 hw'
  have hbel2 : Below W.heap.size W w2 := regrown_below hw'
  clear hw' j0 j1 j2 j3 c1 c2 c3 c4 c5
  go_wp2_with fail
  go_ret
  exact ⟨rfl, HB0.out.trans ((HBW.out.trans (hbel2.mono HBW.out.size)).mono HB0.out.size)⟩
set_option maxRecDepth 100000 in
set_option maxHeartbeats 4000000 in
theorem npl_4_lt (l n : Int) (t p : Int) (w : World) (he : (⟨t, p⟩ : Edg).Wf) (hn : n < 0) : Calls Tryd.prog 4 #[.int .u8 4, .agg #[.int .u8 t, .int .u32 p], .int .i64 l, .int .i64 n] w fun r w' => r = .returned (.bool true) ∧ Below w.heap.size w w' := by
  have hff : 0 ≤ (4 : Int) ∧ (4 : Int) ≤ 255 := by omega
  have ho : oneE 4 n = ⟨0, 0⟩ := by unfold oneE; rw [if_neg (by omega)]
  have hF : isFormB 4 = true := isF_yes (by omega)
  have hC : chainedB 4 = true := ch_yes (by omega)
  obtain ⟨W0, hW0⟩ : ∃ W, W = w.alloc (.cells #[.int .u8 t, .int .u32 p] 25) := ⟨_, rfl⟩
  have hb0 : Below w.heap.size w W0 := by rw [hW0]; exact (Below.refl _ _).alloc (Nat.le_refl _) _
  have HK0 : Hid (Blk W0 w.heap.size 25 #[.int .u8 t, .int .u32 p]) := Lib.hid (by rw [hW0]; exact Blk.new w _ _)
  have C := fun W => And.intro (regrown_calls (W := W) (fun W' hW' => (plain_any 4 ⟨t, p⟩ l n W' hff he).mono fun _ _ ⟨he, hb⟩ => ⟨he, hW'.trans (hb.mono hW'.size)⟩)) (And.intro
    (regrown_calls (W := W) (fun W' hW' => (refPlain_any 4 ⟨t, p⟩ l n W' hff he).mono fun _ _ ⟨he, hb⟩ => ⟨he, hW'.trans (hb.mono hW'.size)⟩)) (And.intro
    (regrown_calls (W := W) (fun W' hW' => (one_any 4 n hff W').mono fun _ _ ⟨he, hb⟩ => ⟨he, hW'.trans (hb.mono hW'.size)⟩)) (And.intro
    (regrown_calls (W := W) (fun W' hW' => (isForm_any 4 W').mono fun _ _ ⟨he, hb⟩ => ⟨he, by rw [← hb]; exact hW'⟩))
    (regrown_calls (W := W) (fun W' hW' => (chained_any 4 W').mono fun _ _ ⟨he, hb⟩ => ⟨he, by rw [← hb]; exact hW'⟩)))))
  simp only [Edg.cells, ho, hF, hC] at C
  generalize plain 4 ⟨t, p⟩ l n = x at *
  have HC := Lib.hid C
  have HB0 := Lib.hid hb0
  have HW0 := Lib.hid hW0
  skip
  clear he hW0 hb0 ho hF hC C hff
  have hEQ := eqlE 0 0 0 0 true (by simp)
  go_enter Tryd.func4, Tryd.ntmps4
  go_wp2_with fail
  rw [← HW0.out]
  refine (nalive_any _).mono ?_
  rintro e w1 ⟨rfl, hb1⟩
  obtain ⟨W, hW⟩ : ∃ W, W = w1.alloc (.cells #[.int .u8 0, .int .u32 0] 25) := ⟨_, rfl⟩
  have hbW : Below W0.heap.size W0 W := by rw [hW]; exact hb1.alloc hb1.size _
  have HK1 : Hid (Blk W w1.heap.size 25 #[.int .u8 0, .int .u32 0]) := Lib.hid (by rw [hW]; exact Blk.new w1 _ _)
  have HW := Lib.hid hW
  have HBW := Lib.hid hbW
  clear hW hbW hb1
  go_wp2_with fail
  rw [← HW.out]
  obtain ⟨c1, c2, c3, c4, c5⟩ := HC.out W
  have hkk := HK0.out.on0 HBW.out
  have j0 : ∀ d os, (grow (redrawn W d) os).cell? ⟨w.heap.size, 0, none⟩ = some (.int .u8 t) := fun d os => cell_regrown (hkk.cell 0) d os
  have j1 : ∀ d os, (grow (redrawn W d) os).cell? ⟨w.heap.size, 1, none⟩ = some (.int .u32 p) := fun d os => cell_regrown (hkk.cell 1) d os
  have j2 : ∀ d os, (grow (redrawn W d) os).cell? ⟨w1.heap.size, 0, none⟩ = some (.int .u8 0) := fun d os => cell_regrown (HK1.out.cell 0) d os
  have j3 : ∀ d os, (grow (redrawn W d) os).cell? ⟨w1.heap.size, 1, none⟩ = some (.int .u32 0) := fun d os => cell_regrown (HK1.out.cell 1) d os
  clear hkk
  refine wp_region_quiet_below (by kernel_rfl) (by kernel_rfl) ?_
  repeat (first | go_big_quiet_step (first | with_reducible exact c1 _ _ | with_reducible exact c2 _ _ | with_reducible exact c3 _ _ | with_reducible exact c4 _ _ | with_reducible exact c5 _ _ | fail) | quiet_step (first | with_reducible exact c1 _ _ | with_reducible exact c2 _ _ | with_reducible exact c3 _ _ | with_reducible exact c4 _ _ | with_reducible exact c5 _ _ | fail))
  refine wpQuiet_nil ?_
  intro w2 hw'
  have hbel2 : Below W.heap.size W w2 := regrown_below hw'
  clear hw' j0 j1 j2 j3 c1 c2 c3 c4 c5
  go_wp2_with fail
  go_ret
  exact ⟨rfl, HB0.out.trans ((HBW.out.trans (hbel2.mono HBW.out.size)).mono HB0.out.size)⟩
set_option maxRecDepth 100000 in
set_option maxHeartbeats 4000000 in
theorem npl_4_gt (l n : Int) (t p : Int) (w : World) (he : (⟨t, p⟩ : Edg).Wf) (hn : 16 < n) : Calls Tryd.prog 4 #[.int .u8 4, .agg #[.int .u8 t, .int .u32 p], .int .i64 l, .int .i64 n] w fun r w' => r = .returned (.bool true) ∧ Below w.heap.size w w' := by
  have hff : 0 ≤ (4 : Int) ∧ (4 : Int) ≤ 255 := by omega
  have ho : oneE 4 n = ⟨0, 0⟩ := by unfold oneE; rw [if_neg (by omega)]
  have hF : isFormB 4 = true := isF_yes (by omega)
  have hC : chainedB 4 = true := ch_yes (by omega)
  obtain ⟨W0, hW0⟩ : ∃ W, W = w.alloc (.cells #[.int .u8 t, .int .u32 p] 25) := ⟨_, rfl⟩
  have hb0 : Below w.heap.size w W0 := by rw [hW0]; exact (Below.refl _ _).alloc (Nat.le_refl _) _
  have HK0 : Hid (Blk W0 w.heap.size 25 #[.int .u8 t, .int .u32 p]) := Lib.hid (by rw [hW0]; exact Blk.new w _ _)
  have C := fun W => And.intro (regrown_calls (W := W) (fun W' hW' => (plain_any 4 ⟨t, p⟩ l n W' hff he).mono fun _ _ ⟨he, hb⟩ => ⟨he, hW'.trans (hb.mono hW'.size)⟩)) (And.intro
    (regrown_calls (W := W) (fun W' hW' => (refPlain_any 4 ⟨t, p⟩ l n W' hff he).mono fun _ _ ⟨he, hb⟩ => ⟨he, hW'.trans (hb.mono hW'.size)⟩)) (And.intro
    (regrown_calls (W := W) (fun W' hW' => (one_any 4 n hff W').mono fun _ _ ⟨he, hb⟩ => ⟨he, hW'.trans (hb.mono hW'.size)⟩)) (And.intro
    (regrown_calls (W := W) (fun W' hW' => (isForm_any 4 W').mono fun _ _ ⟨he, hb⟩ => ⟨he, by rw [← hb]; exact hW'⟩))
    (regrown_calls (W := W) (fun W' hW' => (chained_any 4 W').mono fun _ _ ⟨he, hb⟩ => ⟨he, by rw [← hb]; exact hW'⟩)))))
  simp only [Edg.cells, ho, hF, hC] at C
  generalize plain 4 ⟨t, p⟩ l n = x at *
  have HC := Lib.hid C
  have HB0 := Lib.hid hb0
  have HW0 := Lib.hid hW0
  skip
  clear he hW0 hb0 ho hF hC C hff
  have hEQ := eqlE 0 0 0 0 true (by simp)
  go_enter Tryd.func4, Tryd.ntmps4
  go_wp2_with fail
  rw [← HW0.out]
  refine (nalive_any _).mono ?_
  rintro e w1 ⟨rfl, hb1⟩
  obtain ⟨W, hW⟩ : ∃ W, W = w1.alloc (.cells #[.int .u8 0, .int .u32 0] 25) := ⟨_, rfl⟩
  have hbW : Below W0.heap.size W0 W := by rw [hW]; exact hb1.alloc hb1.size _
  have HK1 : Hid (Blk W w1.heap.size 25 #[.int .u8 0, .int .u32 0]) := Lib.hid (by rw [hW]; exact Blk.new w1 _ _)
  have HW := Lib.hid hW
  have HBW := Lib.hid hbW
  clear hW hbW hb1
  go_wp2_with fail
  rw [← HW.out]
  obtain ⟨c1, c2, c3, c4, c5⟩ := HC.out W
  have hkk := HK0.out.on0 HBW.out
  have j0 : ∀ d os, (grow (redrawn W d) os).cell? ⟨w.heap.size, 0, none⟩ = some (.int .u8 t) := fun d os => cell_regrown (hkk.cell 0) d os
  have j1 : ∀ d os, (grow (redrawn W d) os).cell? ⟨w.heap.size, 1, none⟩ = some (.int .u32 p) := fun d os => cell_regrown (hkk.cell 1) d os
  have j2 : ∀ d os, (grow (redrawn W d) os).cell? ⟨w1.heap.size, 0, none⟩ = some (.int .u8 0) := fun d os => cell_regrown (HK1.out.cell 0) d os
  have j3 : ∀ d os, (grow (redrawn W d) os).cell? ⟨w1.heap.size, 1, none⟩ = some (.int .u32 0) := fun d os => cell_regrown (HK1.out.cell 1) d os
  clear hkk
  refine wp_region_quiet_below (by kernel_rfl) (by kernel_rfl) ?_
  repeat (first | go_big_quiet_step (first | with_reducible exact c1 _ _ | with_reducible exact c2 _ _ | with_reducible exact c3 _ _ | with_reducible exact c4 _ _ | with_reducible exact c5 _ _ | fail) | quiet_step (first | with_reducible exact c1 _ _ | with_reducible exact c2 _ _ | with_reducible exact c3 _ _ | with_reducible exact c4 _ _ | with_reducible exact c5 _ _ | fail))
  refine wpQuiet_nil ?_
  intro w2 hw'
  have hbel2 : Below W.heap.size W w2 := regrown_below hw'
  clear hw' j0 j1 j2 j3 c1 c2 c3 c4 c5
  go_wp2_with fail
  go_ret
  exact ⟨rfl, HB0.out.trans ((HBW.out.trans (hbel2.mono HBW.out.size)).mono HB0.out.size)⟩
set_option maxRecDepth 100000 in
set_option maxHeartbeats 4000000 in
theorem npl_4_in (l n : Int) (t p : Int) (w : World) (he : (⟨t, p⟩ : Edg).Wf) (hn : 0 ≤ n) (hn2 : n ≤ 16) : Calls Tryd.prog 4 #[.int .u8 4, .agg #[.int .u8 t, .int .u32 p], .int .i64 l, .int .i64 n] w fun r w' => r = .returned (.bool true) ∧ Below w.heap.size w w' := by
  have hff : 0 ≤ (4 : Int) ∧ (4 : Int) ≤ 255 := by omega
  have ho : oneE 4 n = ⟨0, 1⟩ := by unfold oneE; rw [if_pos (by omega), if_neg (by omega)]
  have hF : isFormB 4 = true := isF_yes (by omega)
  have hC : chainedB 4 = true := ch_yes (by omega)
  obtain ⟨W0, hW0⟩ : ∃ W, W = w.alloc (.cells #[.int .u8 t, .int .u32 p] 25) := ⟨_, rfl⟩
  have hb0 : Below w.heap.size w W0 := by rw [hW0]; exact (Below.refl _ _).alloc (Nat.le_refl _) _
  have HK0 : Hid (Blk W0 w.heap.size 25 #[.int .u8 t, .int .u32 p]) := Lib.hid (by rw [hW0]; exact Blk.new w _ _)
  have C := fun W => And.intro (regrown_calls (W := W) (fun W' hW' => (plain_any 4 ⟨t, p⟩ l n W' hff he).mono fun _ _ ⟨he, hb⟩ => ⟨he, hW'.trans (hb.mono hW'.size)⟩)) (And.intro
    (regrown_calls (W := W) (fun W' hW' => (refPlain_any 4 ⟨t, p⟩ l n W' hff he).mono fun _ _ ⟨he, hb⟩ => ⟨he, hW'.trans (hb.mono hW'.size)⟩)) (And.intro
    (regrown_calls (W := W) (fun W' hW' => (one_any 4 n hff W').mono fun _ _ ⟨he, hb⟩ => ⟨he, hW'.trans (hb.mono hW'.size)⟩)) (And.intro
    (regrown_calls (W := W) (fun W' hW' => (isForm_any 4 W').mono fun _ _ ⟨he, hb⟩ => ⟨he, by rw [← hb]; exact hW'⟩))
    (regrown_calls (W := W) (fun W' hW' => (chained_any 4 W').mono fun _ _ ⟨he, hb⟩ => ⟨he, by rw [← hb]; exact hW'⟩)))))
  simp only [Edg.cells, ho, hF, hC] at C
  generalize plain 4 ⟨t, p⟩ l n = x at *
  have HC := Lib.hid C
  have HB0 := Lib.hid hb0
  have HW0 := Lib.hid hW0
  skip
  clear he hW0 hb0 ho hF hC C hff
  have hEQ := eqlE 0 1 0 1 true (by simp)
  go_enter Tryd.func4, Tryd.ntmps4
  go_wp2_with fail
  rw [← HW0.out]
  refine (nalive_any _).mono ?_
  rintro e w1 ⟨rfl, hb1⟩
  obtain ⟨W, hW⟩ : ∃ W, W = w1.alloc (.cells #[.int .u8 0, .int .u32 1] 25) := ⟨_, rfl⟩
  have hbW : Below W0.heap.size W0 W := by rw [hW]; exact hb1.alloc hb1.size _
  have HK1 : Hid (Blk W w1.heap.size 25 #[.int .u8 0, .int .u32 1]) := Lib.hid (by rw [hW]; exact Blk.new w1 _ _)
  have HW := Lib.hid hW
  have HBW := Lib.hid hbW
  clear hW hbW hb1
  go_wp2_with fail
  rw [← HW.out]
  obtain ⟨c1, c2, c3, c4, c5⟩ := HC.out W
  have hkk := HK0.out.on0 HBW.out
  have j0 : ∀ d os, (grow (redrawn W d) os).cell? ⟨w.heap.size, 0, none⟩ = some (.int .u8 t) := fun d os => cell_regrown (hkk.cell 0) d os
  have j1 : ∀ d os, (grow (redrawn W d) os).cell? ⟨w.heap.size, 1, none⟩ = some (.int .u32 p) := fun d os => cell_regrown (hkk.cell 1) d os
  have j2 : ∀ d os, (grow (redrawn W d) os).cell? ⟨w1.heap.size, 0, none⟩ = some (.int .u8 0) := fun d os => cell_regrown (HK1.out.cell 0) d os
  have j3 : ∀ d os, (grow (redrawn W d) os).cell? ⟨w1.heap.size, 1, none⟩ = some (.int .u32 1) := fun d os => cell_regrown (HK1.out.cell 1) d os
  clear hkk
  refine wp_region_quiet_below (by kernel_rfl) (by kernel_rfl) ?_
  repeat (first | go_big_quiet_step (first | with_reducible exact c1 _ _ | with_reducible exact c2 _ _ | with_reducible exact c3 _ _ | with_reducible exact c4 _ _ | with_reducible exact c5 _ _ | fail) | quiet_step (first | with_reducible exact c1 _ _ | with_reducible exact c2 _ _ | with_reducible exact c3 _ _ | with_reducible exact c4 _ _ | with_reducible exact c5 _ _ | fail))
  refine wpQuiet_nil ?_
  intro w2 hw'
  have hbel2 : Below W.heap.size W w2 := regrown_below hw'
  clear hw' j0 j1 j2 j3 c1 c2 c3 c4 c5
  go_wp2_with fail
  go_ret
  exact ⟨rfl, HB0.out.trans ((HBW.out.trans (hbel2.mono HBW.out.size)).mono HB0.out.size)⟩
set_option maxRecDepth 100000 in
set_option maxHeartbeats 4000000 in
theorem npl_5_lt (l n : Int) (t p : Int) (w : World) (he : (⟨t, p⟩ : Edg).Wf) (hn : n < 0) : Calls Tryd.prog 4 #[.int .u8 5, .agg #[.int .u8 t, .int .u32 p], .int .i64 l, .int .i64 n] w fun r w' => r = .returned (.bool true) ∧ Below w.heap.size w w' := by
  have hff : 0 ≤ (5 : Int) ∧ (5 : Int) ≤ 255 := by omega
  have ho : oneE 5 n = ⟨0, 0⟩ := by unfold oneE; rw [if_neg (by omega)]
  have hF : isFormB 5 = true := isF_yes (by omega)
  have hC : chainedB 5 = false := ch_no (by omega)
  obtain ⟨W0, hW0⟩ : ∃ W, W = w.alloc (.cells #[.int .u8 t, .int .u32 p] 25) := ⟨_, rfl⟩
  have hb0 : Below w.heap.size w W0 := by rw [hW0]; exact (Below.refl _ _).alloc (Nat.le_refl _) _
  have HK0 : Hid (Blk W0 w.heap.size 25 #[.int .u8 t, .int .u32 p]) := Lib.hid (by rw [hW0]; exact Blk.new w _ _)
  have C := fun W => And.intro (regrown_calls (W := W) (fun W' hW' => (plain_any 5 ⟨t, p⟩ l n W' hff he).mono fun _ _ ⟨he, hb⟩ => ⟨he, hW'.trans (hb.mono hW'.size)⟩)) (And.intro
    (regrown_calls (W := W) (fun W' hW' => (refPlain_any 5 ⟨t, p⟩ l n W' hff he).mono fun _ _ ⟨he, hb⟩ => ⟨he, hW'.trans (hb.mono hW'.size)⟩)) (And.intro
    (regrown_calls (W := W) (fun W' hW' => (one_any 5 n hff W').mono fun _ _ ⟨he, hb⟩ => ⟨he, hW'.trans (hb.mono hW'.size)⟩)) (And.intro
    (regrown_calls (W := W) (fun W' hW' => (isForm_any 5 W').mono fun _ _ ⟨he, hb⟩ => ⟨he, by rw [← hb]; exact hW'⟩))
    (regrown_calls (W := W) (fun W' hW' => (chained_any 5 W').mono fun _ _ ⟨he, hb⟩ => ⟨he, by rw [← hb]; exact hW'⟩)))))
  simp only [Edg.cells, ho, hF, hC] at C
  generalize plain 5 ⟨t, p⟩ l n = x at *
  have HC := Lib.hid C
  have HB0 := Lib.hid hb0
  have HW0 := Lib.hid hW0
  skip
  clear he hW0 hb0 ho hF hC C hff
  have hEQ := eqlE 0 0 0 0 true (by simp)
  go_enter Tryd.func4, Tryd.ntmps4
  go_wp2_with fail
  rw [← HW0.out]
  refine (nalive_any _).mono ?_
  rintro e w1 ⟨rfl, hb1⟩
  obtain ⟨W, hW⟩ : ∃ W, W = w1.alloc (.cells #[.int .u8 0, .int .u32 0] 25) := ⟨_, rfl⟩
  have hbW : Below W0.heap.size W0 W := by rw [hW]; exact hb1.alloc hb1.size _
  have HK1 : Hid (Blk W w1.heap.size 25 #[.int .u8 0, .int .u32 0]) := Lib.hid (by rw [hW]; exact Blk.new w1 _ _)
  have HW := Lib.hid hW
  have HBW := Lib.hid hbW
  clear hW hbW hb1
  go_wp2_with fail
  rw [← HW.out]
  obtain ⟨c1, c2, c3, c4, c5⟩ := HC.out W
  have hkk := HK0.out.on0 HBW.out
  have j0 : ∀ d os, (grow (redrawn W d) os).cell? ⟨w.heap.size, 0, none⟩ = some (.int .u8 t) := fun d os => cell_regrown (hkk.cell 0) d os
  have j1 : ∀ d os, (grow (redrawn W d) os).cell? ⟨w.heap.size, 1, none⟩ = some (.int .u32 p) := fun d os => cell_regrown (hkk.cell 1) d os
  have j2 : ∀ d os, (grow (redrawn W d) os).cell? ⟨w1.heap.size, 0, none⟩ = some (.int .u8 0) := fun d os => cell_regrown (HK1.out.cell 0) d os
  have j3 : ∀ d os, (grow (redrawn W d) os).cell? ⟨w1.heap.size, 1, none⟩ = some (.int .u32 0) := fun d os => cell_regrown (HK1.out.cell 1) d os
  clear hkk
  refine wp_region_quiet_below (by kernel_rfl) (by kernel_rfl) ?_
  repeat (first | go_big_quiet_step (first | with_reducible exact c1 _ _ | with_reducible exact c2 _ _ | with_reducible exact c3 _ _ | with_reducible exact c4 _ _ | with_reducible exact c5 _ _ | fail) | quiet_step (first | with_reducible exact c1 _ _ | with_reducible exact c2 _ _ | with_reducible exact c3 _ _ | with_reducible exact c4 _ _ | with_reducible exact c5 _ _ | fail))
  refine wpQuiet_nil ?_
  intro w2 hw'
  have hbel2 : Below W.heap.size W w2 := regrown_below hw'
  clear hw' j0 j1 j2 j3 c1 c2 c3 c4 c5
  go_wp2_with fail
  go_ret
  exact ⟨rfl, HB0.out.trans ((HBW.out.trans (hbel2.mono HBW.out.size)).mono HB0.out.size)⟩
set_option maxRecDepth 100000 in
set_option maxHeartbeats 4000000 in
theorem npl_5_gt (l n : Int) (t p : Int) (w : World) (he : (⟨t, p⟩ : Edg).Wf) (hn : 16 < n) : Calls Tryd.prog 4 #[.int .u8 5, .agg #[.int .u8 t, .int .u32 p], .int .i64 l, .int .i64 n] w fun r w' => r = .returned (.bool true) ∧ Below w.heap.size w w' := by
  have hff : 0 ≤ (5 : Int) ∧ (5 : Int) ≤ 255 := by omega
  have ho : oneE 5 n = ⟨0, 0⟩ := by unfold oneE; rw [if_neg (by omega)]
  have hF : isFormB 5 = true := isF_yes (by omega)
  have hC : chainedB 5 = false := ch_no (by omega)
  obtain ⟨W0, hW0⟩ : ∃ W, W = w.alloc (.cells #[.int .u8 t, .int .u32 p] 25) := ⟨_, rfl⟩
  have hb0 : Below w.heap.size w W0 := by rw [hW0]; exact (Below.refl _ _).alloc (Nat.le_refl _) _
  have HK0 : Hid (Blk W0 w.heap.size 25 #[.int .u8 t, .int .u32 p]) := Lib.hid (by rw [hW0]; exact Blk.new w _ _)
  have C := fun W => And.intro (regrown_calls (W := W) (fun W' hW' => (plain_any 5 ⟨t, p⟩ l n W' hff he).mono fun _ _ ⟨he, hb⟩ => ⟨he, hW'.trans (hb.mono hW'.size)⟩)) (And.intro
    (regrown_calls (W := W) (fun W' hW' => (refPlain_any 5 ⟨t, p⟩ l n W' hff he).mono fun _ _ ⟨he, hb⟩ => ⟨he, hW'.trans (hb.mono hW'.size)⟩)) (And.intro
    (regrown_calls (W := W) (fun W' hW' => (one_any 5 n hff W').mono fun _ _ ⟨he, hb⟩ => ⟨he, hW'.trans (hb.mono hW'.size)⟩)) (And.intro
    (regrown_calls (W := W) (fun W' hW' => (isForm_any 5 W').mono fun _ _ ⟨he, hb⟩ => ⟨he, by rw [← hb]; exact hW'⟩))
    (regrown_calls (W := W) (fun W' hW' => (chained_any 5 W').mono fun _ _ ⟨he, hb⟩ => ⟨he, by rw [← hb]; exact hW'⟩)))))
  simp only [Edg.cells, ho, hF, hC] at C
  generalize plain 5 ⟨t, p⟩ l n = x at *
  have HC := Lib.hid C
  have HB0 := Lib.hid hb0
  have HW0 := Lib.hid hW0
  skip
  clear he hW0 hb0 ho hF hC C hff
  have hEQ := eqlE 0 0 0 0 true (by simp)
  go_enter Tryd.func4, Tryd.ntmps4
  go_wp2_with fail
  rw [← HW0.out]
  refine (nalive_any _).mono ?_
  rintro e w1 ⟨rfl, hb1⟩
  obtain ⟨W, hW⟩ : ∃ W, W = w1.alloc (.cells #[.int .u8 0, .int .u32 0] 25) := ⟨_, rfl⟩
  have hbW : Below W0.heap.size W0 W := by rw [hW]; exact hb1.alloc hb1.size _
  have HK1 : Hid (Blk W w1.heap.size 25 #[.int .u8 0, .int .u32 0]) := Lib.hid (by rw [hW]; exact Blk.new w1 _ _)
  have HW := Lib.hid hW
  have HBW := Lib.hid hbW
  clear hW hbW hb1
  go_wp2_with fail
  rw [← HW.out]
  obtain ⟨c1, c2, c3, c4, c5⟩ := HC.out W
  have hkk := HK0.out.on0 HBW.out
  have j0 : ∀ d os, (grow (redrawn W d) os).cell? ⟨w.heap.size, 0, none⟩ = some (.int .u8 t) := fun d os => cell_regrown (hkk.cell 0) d os
  have j1 : ∀ d os, (grow (redrawn W d) os).cell? ⟨w.heap.size, 1, none⟩ = some (.int .u32 p) := fun d os => cell_regrown (hkk.cell 1) d os
  have j2 : ∀ d os, (grow (redrawn W d) os).cell? ⟨w1.heap.size, 0, none⟩ = some (.int .u8 0) := fun d os => cell_regrown (HK1.out.cell 0) d os
  have j3 : ∀ d os, (grow (redrawn W d) os).cell? ⟨w1.heap.size, 1, none⟩ = some (.int .u32 0) := fun d os => cell_regrown (HK1.out.cell 1) d os
  clear hkk
  refine wp_region_quiet_below (by kernel_rfl) (by kernel_rfl) ?_
  repeat (first | go_big_quiet_step (first | with_reducible exact c1 _ _ | with_reducible exact c2 _ _ | with_reducible exact c3 _ _ | with_reducible exact c4 _ _ | with_reducible exact c5 _ _ | fail) | quiet_step (first | with_reducible exact c1 _ _ | with_reducible exact c2 _ _ | with_reducible exact c3 _ _ | with_reducible exact c4 _ _ | with_reducible exact c5 _ _ | fail))
  refine wpQuiet_nil ?_
  intro w2 hw'
  have hbel2 : Below W.heap.size W w2 := regrown_below hw'
  clear hw' j0 j1 j2 j3 c1 c2 c3 c4 c5
  go_wp2_with fail
  go_ret
  exact ⟨rfl, HB0.out.trans ((HBW.out.trans (hbel2.mono HBW.out.size)).mono HB0.out.size)⟩
set_option maxRecDepth 100000 in
set_option maxHeartbeats 4000000 in
theorem npl_5_in (l n : Int) (t p : Int) (w : World) (he : (⟨t, p⟩ : Edg).Wf) (hn : 0 ≤ n) (hn2 : n ≤ 16) : Calls Tryd.prog 4 #[.int .u8 5, .agg #[.int .u8 t, .int .u32 p], .int .i64 l, .int .i64 n] w fun r w' => r = .returned (.bool true) ∧ Below w.heap.size w w' := by
  have hff : 0 ≤ (5 : Int) ∧ (5 : Int) ≤ 255 := by omega
  have ho : oneE 5 n = ⟨n, 1⟩ := by unfold oneE; rw [if_pos (by omega), if_pos (by omega)]
  have hF : isFormB 5 = true := isF_yes (by omega)
  have hC : chainedB 5 = false := ch_no (by omega)
  obtain ⟨W0, hW0⟩ : ∃ W, W = w.alloc (.cells #[.int .u8 t, .int .u32 p] 25) := ⟨_, rfl⟩
  have hb0 : Below w.heap.size w W0 := by rw [hW0]; exact (Below.refl _ _).alloc (Nat.le_refl _) _
  have HK0 : Hid (Blk W0 w.heap.size 25 #[.int .u8 t, .int .u32 p]) := Lib.hid (by rw [hW0]; exact Blk.new w _ _)
  have C := fun W => And.intro (regrown_calls (W := W) (fun W' hW' => (plain_any 5 ⟨t, p⟩ l n W' hff he).mono fun _ _ ⟨he, hb⟩ => ⟨he, hW'.trans (hb.mono hW'.size)⟩)) (And.intro
    (regrown_calls (W := W) (fun W' hW' => (refPlain_any 5 ⟨t, p⟩ l n W' hff he).mono fun _ _ ⟨he, hb⟩ => ⟨he, hW'.trans (hb.mono hW'.size)⟩)) (And.intro
    (regrown_calls (W := W) (fun W' hW' => (one_any 5 n hff W').mono fun _ _ ⟨he, hb⟩ => ⟨he, hW'.trans (hb.mono hW'.size)⟩)) (And.intro
    (regrown_calls (W := W) (fun W' hW' => (isForm_any 5 W').mono fun _ _ ⟨he, hb⟩ => ⟨he, by rw [← hb]; exact hW'⟩))
    (regrown_calls (W := W) (fun W' hW' => (chained_any 5 W').mono fun _ _ ⟨he, hb⟩ => ⟨he, by rw [← hb]; exact hW'⟩)))))
  simp only [Edg.cells, ho, hF, hC] at C
  generalize plain 5 ⟨t, p⟩ l n = x at *
  have HC := Lib.hid C
  have HB0 := Lib.hid hb0
  have HW0 := Lib.hid hW0
  have hw8 : IntKind.u8.wrap n = n := by rw [IntKind.wrap_u8]; omega
  clear he hW0 hb0 ho hF hC C hff
  have hEQ := eqlE n 1 n 1 true (by simp)
  go_enter Tryd.func4, Tryd.ntmps4
  go_wp2_with fail
  rw [← HW0.out]
  refine (nalive_any _).mono ?_
  rintro e w1 ⟨rfl, hb1⟩
  obtain ⟨W, hW⟩ : ∃ W, W = w1.alloc (.cells #[.int .u8 n, .int .u32 1] 25) := ⟨_, rfl⟩
  have hbW : Below W0.heap.size W0 W := by rw [hW]; exact hb1.alloc hb1.size _
  have HK1 : Hid (Blk W w1.heap.size 25 #[.int .u8 n, .int .u32 1]) := Lib.hid (by rw [hW]; exact Blk.new w1 _ _)
  have HW := Lib.hid hW
  have HBW := Lib.hid hbW
  clear hW hbW hb1
  go_wp2_with fail
  rw [← HW.out]
  obtain ⟨c1, c2, c3, c4, c5⟩ := HC.out W
  have hkk := HK0.out.on0 HBW.out
  have j0 : ∀ d os, (grow (redrawn W d) os).cell? ⟨w.heap.size, 0, none⟩ = some (.int .u8 t) := fun d os => cell_regrown (hkk.cell 0) d os
  have j1 : ∀ d os, (grow (redrawn W d) os).cell? ⟨w.heap.size, 1, none⟩ = some (.int .u32 p) := fun d os => cell_regrown (hkk.cell 1) d os
  have j2 : ∀ d os, (grow (redrawn W d) os).cell? ⟨w1.heap.size, 0, none⟩ = some (.int .u8 n) := fun d os => cell_regrown (HK1.out.cell 0) d os
  have j3 : ∀ d os, (grow (redrawn W d) os).cell? ⟨w1.heap.size, 1, none⟩ = some (.int .u32 1) := fun d os => cell_regrown (HK1.out.cell 1) d os
  clear hkk
  refine wp_region_quiet_below (by kernel_rfl) (by kernel_rfl) ?_
  repeat (first | go_big_quiet_step (first | with_reducible exact c1 _ _ | with_reducible exact c2 _ _ | with_reducible exact c3 _ _ | with_reducible exact c4 _ _ | with_reducible exact c5 _ _ | fail) | quiet_step (first | with_reducible exact c1 _ _ | with_reducible exact c2 _ _ | with_reducible exact c3 _ _ | with_reducible exact c4 _ _ | with_reducible exact c5 _ _ | fail))
  refine wpQuiet_nil ?_
  intro w2 hw'
  have hbel2 : Below W.heap.size W w2 := regrown_below hw'
  clear hw' j0 j1 j2 j3 c1 c2 c3 c4 c5
  go_wp2_with fail
  go_ret
  exact ⟨rfl, HB0.out.trans ((HBW.out.trans (hbel2.mono HBW.out.size)).mono HB0.out.size)⟩
set_option maxRecDepth 100000 in
set_option maxHeartbeats 4000000 in
theorem npl_f_lt (f l n : Int) (t p : Int) (w : World) (hf : 5 < f) (hf2 : f ≤ 255) (he : (⟨t, p⟩ : Edg).Wf) (hn : n < 0) : Calls Tryd.prog 4 #[.int .u8 f, .agg #[.int .u8 t, .int .u32 p], .int .i64 l, .int .i64 n] w fun r w' => r = .returned (.bool true) ∧ Below w.heap.size w w' := by
  have hff : 0 ≤ (f : Int) ∧ (f : Int) ≤ 255 := by omega
  have ho : oneE f n = ⟨0, 0⟩ := by unfold oneE; rw [if_neg (by omega)]
  have hF : isFormB f = false := isF_no (by omega)
  have hC : chainedB f = false := ch_no (by omega)
  obtain ⟨W0, hW0⟩ : ∃ W, W = w.alloc (.cells #[.int .u8 t, .int .u32 p] 25) := ⟨_, rfl⟩
  have hb0 : Below w.heap.size w W0 := by rw [hW0]; exact (Below.refl _ _).alloc (Nat.le_refl _) _
  have HK0 : Hid (Blk W0 w.heap.size 25 #[.int .u8 t, .int .u32 p]) := Lib.hid (by rw [hW0]; exact Blk.new w _ _)
  have C := fun W => And.intro (regrown_calls (W := W) (fun W' hW' => (plain_any f ⟨t, p⟩ l n W' hff he).mono fun _ _ ⟨he, hb⟩ => ⟨he, hW'.trans (hb.mono hW'.size)⟩)) (And.intro
    (regrown_calls (W := W) (fun W' hW' => (refPlain_any f ⟨t, p⟩ l n W' hff he).mono fun _ _ ⟨he, hb⟩ => ⟨he, hW'.trans (hb.mono hW'.size)⟩)) (And.intro
    (regrown_calls (W := W) (fun W' hW' => (one_any f n hff W').mono fun _ _ ⟨he, hb⟩ => ⟨he, hW'.trans (hb.mono hW'.size)⟩)) (And.intro
    (regrown_calls (W := W) (fun W' hW' => (isForm_any f W').mono fun _ _ ⟨he, hb⟩ => ⟨he, by rw [← hb]; exact hW'⟩))
    (regrown_calls (W := W) (fun W' hW' => (chained_any f W').mono fun _ _ ⟨he, hb⟩ => ⟨he, by rw [← hb]; exact hW'⟩)))))
  simp only [Edg.cells, ho, hF, hC] at C
  generalize plain f ⟨t, p⟩ l n = x at *
  have HC := Lib.hid C
  have HB0 := Lib.hid hb0
  have HW0 := Lib.hid hW0
  have e3 : (f == 3) = false := by rw [beq_eq_false_iff_ne]; omega
  have e4 : (f == 4) = false := by rw [beq_eq_false_iff_ne]; omega
  have e5 : (f == 5) = false := by rw [beq_eq_false_iff_ne]; omega
  clear he hW0 hb0 ho hF hC C hff
  have hEQ := eqlE 0 0 0 0 true (by simp)
  go_enter Tryd.func4, Tryd.ntmps4
  go_wp2_with fail
  rw [← HW0.out]
  refine (nalive_any _).mono ?_
  rintro e w1 ⟨rfl, hb1⟩
  obtain ⟨W, hW⟩ : ∃ W, W = w1.alloc (.cells #[.int .u8 0, .int .u32 0] 25) := ⟨_, rfl⟩
  have hbW : Below W0.heap.size W0 W := by rw [hW]; exact hb1.alloc hb1.size _
  have HK1 : Hid (Blk W w1.heap.size 25 #[.int .u8 0, .int .u32 0]) := Lib.hid (by rw [hW]; exact Blk.new w1 _ _)
  have HW := Lib.hid hW
  have HBW := Lib.hid hbW
  clear hW hbW hb1
  go_wp2_with fail
  rw [← HW.out]
  obtain ⟨c1, c2, c3, c4, c5⟩ := HC.out W
  have hkk := HK0.out.on0 HBW.out
  have j0 : ∀ d os, (grow (redrawn W d) os).cell? ⟨w.heap.size, 0, none⟩ = some (.int .u8 t) := fun d os => cell_regrown (hkk.cell 0) d os
  have j1 : ∀ d os, (grow (redrawn W d) os).cell? ⟨w.heap.size, 1, none⟩ = some (.int .u32 p) := fun d os => cell_regrown (hkk.cell 1) d os
  have j2 : ∀ d os, (grow (redrawn W d) os).cell? ⟨w1.heap.size, 0, none⟩ = some (.int .u8 0) := fun d os => cell_regrown (HK1.out.cell 0) d os
  have j3 : ∀ d os, (grow (redrawn W d) os).cell? ⟨w1.heap.size, 1, none⟩ = some (.int .u32 0) := fun d os => cell_regrown (HK1.out.cell 1) d os
  clear hkk
  refine wp_region_quiet_below (by kernel_rfl) (by kernel_rfl) ?_
  repeat (first | go_big_quiet_step (first | with_reducible exact c1 _ _ | with_reducible exact c2 _ _ | with_reducible exact c3 _ _ | with_reducible exact c4 _ _ | with_reducible exact c5 _ _ | fail) | quiet_step (first | with_reducible exact c1 _ _ | with_reducible exact c2 _ _ | with_reducible exact c3 _ _ | with_reducible exact c4 _ _ | with_reducible exact c5 _ _ | fail))
  refine wpQuiet_nil ?_
  intro w2 hw'
  have hbel2 : Below W.heap.size W w2 := regrown_below hw'
  clear hw' j0 j1 j2 j3 c1 c2 c3 c4 c5
  go_wp2_with fail
  go_ret
  exact ⟨by have hd : decide (f ≤ 5) = false := decide_eq_false (by omega); show Ending.returned (.bool (!decide (f ≤ 5))) = _; rw [hd]; rfl, HB0.out.trans ((HBW.out.trans (hbel2.mono HBW.out.size)).mono HB0.out.size)⟩
set_option maxRecDepth 100000 in
set_option maxHeartbeats 4000000 in
theorem npl_f_gt (f l n : Int) (t p : Int) (w : World) (hf : 5 < f) (hf2 : f ≤ 255) (he : (⟨t, p⟩ : Edg).Wf) (hn : 16 < n) : Calls Tryd.prog 4 #[.int .u8 f, .agg #[.int .u8 t, .int .u32 p], .int .i64 l, .int .i64 n] w fun r w' => r = .returned (.bool true) ∧ Below w.heap.size w w' := by
  have hff : 0 ≤ (f : Int) ∧ (f : Int) ≤ 255 := by omega
  have ho : oneE f n = ⟨0, 0⟩ := by unfold oneE; rw [if_neg (by omega)]
  have hF : isFormB f = false := isF_no (by omega)
  have hC : chainedB f = false := ch_no (by omega)
  obtain ⟨W0, hW0⟩ : ∃ W, W = w.alloc (.cells #[.int .u8 t, .int .u32 p] 25) := ⟨_, rfl⟩
  have hb0 : Below w.heap.size w W0 := by rw [hW0]; exact (Below.refl _ _).alloc (Nat.le_refl _) _
  have HK0 : Hid (Blk W0 w.heap.size 25 #[.int .u8 t, .int .u32 p]) := Lib.hid (by rw [hW0]; exact Blk.new w _ _)
  have C := fun W => And.intro (regrown_calls (W := W) (fun W' hW' => (plain_any f ⟨t, p⟩ l n W' hff he).mono fun _ _ ⟨he, hb⟩ => ⟨he, hW'.trans (hb.mono hW'.size)⟩)) (And.intro
    (regrown_calls (W := W) (fun W' hW' => (refPlain_any f ⟨t, p⟩ l n W' hff he).mono fun _ _ ⟨he, hb⟩ => ⟨he, hW'.trans (hb.mono hW'.size)⟩)) (And.intro
    (regrown_calls (W := W) (fun W' hW' => (one_any f n hff W').mono fun _ _ ⟨he, hb⟩ => ⟨he, hW'.trans (hb.mono hW'.size)⟩)) (And.intro
    (regrown_calls (W := W) (fun W' hW' => (isForm_any f W').mono fun _ _ ⟨he, hb⟩ => ⟨he, by rw [← hb]; exact hW'⟩))
    (regrown_calls (W := W) (fun W' hW' => (chained_any f W').mono fun _ _ ⟨he, hb⟩ => ⟨he, by rw [← hb]; exact hW'⟩)))))
  simp only [Edg.cells, ho, hF, hC] at C
  generalize plain f ⟨t, p⟩ l n = x at *
  have HC := Lib.hid C
  have HB0 := Lib.hid hb0
  have HW0 := Lib.hid hW0
  have e3 : (f == 3) = false := by rw [beq_eq_false_iff_ne]; omega
  have e4 : (f == 4) = false := by rw [beq_eq_false_iff_ne]; omega
  have e5 : (f == 5) = false := by rw [beq_eq_false_iff_ne]; omega
  clear he hW0 hb0 ho hF hC C hff
  have hEQ := eqlE 0 0 0 0 true (by simp)
  go_enter Tryd.func4, Tryd.ntmps4
  go_wp2_with fail
  rw [← HW0.out]
  refine (nalive_any _).mono ?_
  rintro e w1 ⟨rfl, hb1⟩
  obtain ⟨W, hW⟩ : ∃ W, W = w1.alloc (.cells #[.int .u8 0, .int .u32 0] 25) := ⟨_, rfl⟩
  have hbW : Below W0.heap.size W0 W := by rw [hW]; exact hb1.alloc hb1.size _
  have HK1 : Hid (Blk W w1.heap.size 25 #[.int .u8 0, .int .u32 0]) := Lib.hid (by rw [hW]; exact Blk.new w1 _ _)
  have HW := Lib.hid hW
  have HBW := Lib.hid hbW
  clear hW hbW hb1
  go_wp2_with fail
  rw [← HW.out]
  obtain ⟨c1, c2, c3, c4, c5⟩ := HC.out W
  have hkk := HK0.out.on0 HBW.out
  have j0 : ∀ d os, (grow (redrawn W d) os).cell? ⟨w.heap.size, 0, none⟩ = some (.int .u8 t) := fun d os => cell_regrown (hkk.cell 0) d os
  have j1 : ∀ d os, (grow (redrawn W d) os).cell? ⟨w.heap.size, 1, none⟩ = some (.int .u32 p) := fun d os => cell_regrown (hkk.cell 1) d os
  have j2 : ∀ d os, (grow (redrawn W d) os).cell? ⟨w1.heap.size, 0, none⟩ = some (.int .u8 0) := fun d os => cell_regrown (HK1.out.cell 0) d os
  have j3 : ∀ d os, (grow (redrawn W d) os).cell? ⟨w1.heap.size, 1, none⟩ = some (.int .u32 0) := fun d os => cell_regrown (HK1.out.cell 1) d os
  clear hkk
  refine wp_region_quiet_below (by kernel_rfl) (by kernel_rfl) ?_
  repeat (first | go_big_quiet_step (first | with_reducible exact c1 _ _ | with_reducible exact c2 _ _ | with_reducible exact c3 _ _ | with_reducible exact c4 _ _ | with_reducible exact c5 _ _ | fail) | quiet_step (first | with_reducible exact c1 _ _ | with_reducible exact c2 _ _ | with_reducible exact c3 _ _ | with_reducible exact c4 _ _ | with_reducible exact c5 _ _ | fail))
  refine wpQuiet_nil ?_
  intro w2 hw'
  have hbel2 : Below W.heap.size W w2 := regrown_below hw'
  clear hw' j0 j1 j2 j3 c1 c2 c3 c4 c5
  go_wp2_with fail
  go_ret
  exact ⟨by have hd : decide (f ≤ 5) = false := decide_eq_false (by omega); show Ending.returned (.bool (!decide (f ≤ 5))) = _; rw [hd]; rfl, HB0.out.trans ((HBW.out.trans (hbel2.mono HBW.out.size)).mono HB0.out.size)⟩
set_option maxRecDepth 100000 in
set_option maxHeartbeats 4000000 in
theorem npl_f_in (f l n : Int) (t p : Int) (w : World) (hf : 5 < f) (hf2 : f ≤ 255) (he : (⟨t, p⟩ : Edg).Wf) (hn : 0 ≤ n) (hn2 : n ≤ 16) : Calls Tryd.prog 4 #[.int .u8 f, .agg #[.int .u8 t, .int .u32 p], .int .i64 l, .int .i64 n] w fun r w' => r = .returned (.bool true) ∧ Below w.heap.size w w' := by
  have hff : 0 ≤ (f : Int) ∧ (f : Int) ≤ 255 := by omega
  have ho : oneE f n = ⟨0, 0⟩ := by unfold oneE; rw [if_neg (by omega)]
  have hF : isFormB f = false := isF_no (by omega)
  have hC : chainedB f = false := ch_no (by omega)
  obtain ⟨W0, hW0⟩ : ∃ W, W = w.alloc (.cells #[.int .u8 t, .int .u32 p] 25) := ⟨_, rfl⟩
  have hb0 : Below w.heap.size w W0 := by rw [hW0]; exact (Below.refl _ _).alloc (Nat.le_refl _) _
  have HK0 : Hid (Blk W0 w.heap.size 25 #[.int .u8 t, .int .u32 p]) := Lib.hid (by rw [hW0]; exact Blk.new w _ _)
  have C := fun W => And.intro (regrown_calls (W := W) (fun W' hW' => (plain_any f ⟨t, p⟩ l n W' hff he).mono fun _ _ ⟨he, hb⟩ => ⟨he, hW'.trans (hb.mono hW'.size)⟩)) (And.intro
    (regrown_calls (W := W) (fun W' hW' => (refPlain_any f ⟨t, p⟩ l n W' hff he).mono fun _ _ ⟨he, hb⟩ => ⟨he, hW'.trans (hb.mono hW'.size)⟩)) (And.intro
    (regrown_calls (W := W) (fun W' hW' => (one_any f n hff W').mono fun _ _ ⟨he, hb⟩ => ⟨he, hW'.trans (hb.mono hW'.size)⟩)) (And.intro
    (regrown_calls (W := W) (fun W' hW' => (isForm_any f W').mono fun _ _ ⟨he, hb⟩ => ⟨he, by rw [← hb]; exact hW'⟩))
    (regrown_calls (W := W) (fun W' hW' => (chained_any f W').mono fun _ _ ⟨he, hb⟩ => ⟨he, by rw [← hb]; exact hW'⟩)))))
  simp only [Edg.cells, ho, hF, hC] at C
  generalize plain f ⟨t, p⟩ l n = x at *
  have HC := Lib.hid C
  have HB0 := Lib.hid hb0
  have HW0 := Lib.hid hW0
  have e3 : (f == 3) = false := by rw [beq_eq_false_iff_ne]; omega
  have e4 : (f == 4) = false := by rw [beq_eq_false_iff_ne]; omega
  have e5 : (f == 5) = false := by rw [beq_eq_false_iff_ne]; omega
  clear he hW0 hb0 ho hF hC C hff
  have hEQ := eqlE 0 0 0 0 true (by simp)
  go_enter Tryd.func4, Tryd.ntmps4
  go_wp2_with fail
  rw [← HW0.out]
  refine (nalive_any _).mono ?_
  rintro e w1 ⟨rfl, hb1⟩
  obtain ⟨W, hW⟩ : ∃ W, W = w1.alloc (.cells #[.int .u8 0, .int .u32 0] 25) := ⟨_, rfl⟩
  have hbW : Below W0.heap.size W0 W := by rw [hW]; exact hb1.alloc hb1.size _
  have HK1 : Hid (Blk W w1.heap.size 25 #[.int .u8 0, .int .u32 0]) := Lib.hid (by rw [hW]; exact Blk.new w1 _ _)
  have HW := Lib.hid hW
  have HBW := Lib.hid hbW
  clear hW hbW hb1
  go_wp2_with fail
  rw [← HW.out]
  obtain ⟨c1, c2, c3, c4, c5⟩ := HC.out W
  have hkk := HK0.out.on0 HBW.out
  have j0 : ∀ d os, (grow (redrawn W d) os).cell? ⟨w.heap.size, 0, none⟩ = some (.int .u8 t) := fun d os => cell_regrown (hkk.cell 0) d os
  have j1 : ∀ d os, (grow (redrawn W d) os).cell? ⟨w.heap.size, 1, none⟩ = some (.int .u32 p) := fun d os => cell_regrown (hkk.cell 1) d os
  have j2 : ∀ d os, (grow (redrawn W d) os).cell? ⟨w1.heap.size, 0, none⟩ = some (.int .u8 0) := fun d os => cell_regrown (HK1.out.cell 0) d os
  have j3 : ∀ d os, (grow (redrawn W d) os).cell? ⟨w1.heap.size, 1, none⟩ = some (.int .u32 0) := fun d os => cell_regrown (HK1.out.cell 1) d os
  clear hkk
  refine wp_region_quiet_below (by kernel_rfl) (by kernel_rfl) ?_
  repeat (first | go_big_quiet_step (first | with_reducible exact c1 _ _ | with_reducible exact c2 _ _ | with_reducible exact c3 _ _ | with_reducible exact c4 _ _ | with_reducible exact c5 _ _ | fail) | quiet_step (first | with_reducible exact c1 _ _ | with_reducible exact c2 _ _ | with_reducible exact c3 _ _ | with_reducible exact c4 _ _ | with_reducible exact c5 _ _ | fail))
  refine wpQuiet_nil ?_
  intro w2 hw'
  have hbel2 : Below W.heap.size W w2 := regrown_below hw'
  clear hw' j0 j1 j2 j3 c1 c2 c3 c4 c5
  go_wp2_with fail
  go_ret
  exact ⟨by have hd : decide (f ≤ 5) = false := decide_eq_false (by omega); show Ending.returned (.bool (!decide (f ≤ 5))) = _; rw [hd]; rfl, HB0.out.trans ((HBW.out.trans (hbel2.mono HBW.out.size)).mono HB0.out.size)⟩
theorem nplain_walk (f l n : Int) (e : Edg) (w : World) (hf : 0 ≤ f ∧ f ≤ 255) (he : e.Wf) : Calls Tryd.prog 4 #[.int .u8 f, .agg e.cells.toArray, .int .i64 l, .int .i64 n] w fun r w' => r = .returned (.bool true) ∧ Below w.heap.size w w' := by
  obtain ⟨t, p⟩ := e
  obtain ⟨f1, f2⟩ := hf
  have hn3 : n < 0 ∨ 16 < n ∨ (0 ≤ n ∧ n ≤ 16) := by omega
  rcases form_cases f1 with rfl | rfl | rfl | rfl | rfl | rfl | hf5 <;> rcases hn3 with hn | hn | ⟨hn, hn'⟩
  · exact npl_0_lt l n t p w he hn
  · exact npl_0_gt l n t p w he hn
  · exact npl_0_in l n t p w he hn hn'
  · exact npl_1_lt l n t p w he hn
  · exact npl_1_gt l n t p w he hn
  · exact npl_1_in l n t p w he hn hn'
  · exact npl_2_lt l n t p w he hn
  · exact npl_2_gt l n t p w he hn
  · exact npl_2_in l n t p w he hn hn'
  · exact npl_3_lt l n t p w he hn
  · exact npl_3_gt l n t p w he hn
  · exact npl_3_in l n t p w he hn hn'
  · exact npl_4_lt l n t p w he hn
  · exact npl_4_gt l n t p w he hn
  · exact npl_4_in l n t p w he hn hn'
  · exact npl_5_lt l n t p w he hn
  · exact npl_5_gt l n t p w he hn
  · exact npl_5_in l n t p w he hn hn'
  · exact npl_f_lt f l n t p w hf5 f2 he hn
  · exact npl_f_gt f l n t p w hf5 f2 he hn
  · exact npl_f_in f l n t p w hf5 f2 he hn hn'
end Go.Proofs.YtfcklfpgjadfmaaDoor
