/- ReportSteps: the walk. -/
import Derived.Test.YtnlhibhamechcaaGreatDoorRTold
import Derived.Test.YtnlhibhamechcaaGreatDoorMa
namespace Go.Proofs.YtnlhibhamechcaaGreatDoor
open Go Go.RowKit Go.Sort
set_option linter.unusedSimpArgs false
set_option linter.unusedVariables false

set_option maxRecDepth 100000 in
set_option maxHeartbeats 16000000 in
theorem rsteps_walk (s : Stp) (e h n bits : Int) (yes : Bool) (w : World) (hs : s.Wf) (he : (Lit.int .u8 e).wf = true) (hh : (Lit.int .i64 h).wf = true) (hn : (Lit.int .i64 n).wf = true) (hbi : (Lit.int .u16 bits).wf = true) (hP : Pow w) (hA : Asc w) :
    Calls Tryz.prog 3 #[.agg s.cells.toArray, .int .u8 e, .int .i64 h, .int .i64 n, .int .u16 bits, .bool yes] w fun x w' => x = .returned (.bool true) ∧ Below w.heap.size w w' := by
  obtain ⟨kn, sf, sa, sb, sc, sv, skk, so⟩ := s
  obtain ⟨kn, rfl⟩ := Int.eq_ofNat_of_zero_le hs.1.1
  have he2 : 0 ≤ e ∧ e ≤ 255 := by simpa [Lit.wf, IntKind.min, IntKind.max, IntKind.signed, IntKind.bits] using he
  have hb2 : 0 ≤ bits ∧ bits ≤ 65535 := by simpa [Lit.wf, IntKind.min, IntKind.max, IntKind.signed, IntKind.bits] using hbi
  obtain ⟨e, rfl⟩ := Int.eq_ofNat_of_zero_le he2.1
  obtain ⟨bits, rfl⟩ := Int.eq_ofNat_of_zero_le hb2.1
  simp only [Stp.cells]
  obtain ⟨W, hW⟩ : ∃ W, W = w.alloc (.cells #[.int .u8 (kn : Nat), .int .u8 sf, .int .i64 sa, .int .i64 sb, .int .i64 sc, .int .i64 sv, .int .u16 skk, .bool so] 24) := ⟨_, rfl⟩
  have hbW : Below w.heap.size w W := by rw [hW]; exact (Below.refl _ _).alloc (Nat.le_refl _) _
  have b1 : Blk W w.heap.size 24 #[.int .u8 (kn : Nat), .int .u8 sf, .int .i64 sa, .int .i64 sb, .int .i64 sc, .int .i64 sv, .int .u16 skk, .bool so] := by rw [hW]; exact Blk.new w _ _
  have HAL := Lib.hid (alive32_any W (hP.on hbW))
  have HP := Lib.hid (hP.on hbW)
  have HA := Lib.hid (hA.on hbW)
  have HR := Lib.hid (fun W hP hA => repTold_any kn e sf sa sb sc sv skk so h n bits yes hs (by omega) hh hn (by omega) W hP hA)
  have HD := Lib.hid (fun W => rtold_any kn e sf sa sb sc sv skk so h n bits yes hs hh hn (by omega) W)
  generalize toldT (⟨kn, sf, sa, sb, sc, sv, skk, so⟩ : Stp).text kn e h n bits yes = x at *
  have hk8 := hs.1
  have hf8 := hs.2.1
  have hkk := hs.2.2.2.2.2.2
  simp only at hk8 hf8 hkk
  unfold txt at HR HD
  have HWW := Lib.hid hW
  have HbW := Lib.hid hbW
  have B1 := Lib.hid b1
  clear hbW b1 hP hA hs he hh hn hbi
  go_enter Tryz.func3, Tryz.ntmps3
  go_wp2_with fail
  rw [← HWW.out]
  clear hW
  refine HAL.out.mono ?_
  rintro r w1 ⟨rfl, hb1⟩
  have c0 := (B1.out.onB hb1).cell 0
  have c1 := (B1.out.onB hb1).cell 1
  have c2 := (B1.out.onB hb1).cell 2
  have c3 := (B1.out.onB hb1).cell 3
  have c4 := (B1.out.onB hb1).cell 4
  have c5 := (B1.out.onB hb1).cell 5
  have c6 := (B1.out.onB hb1).cell 6
  have c7 := (B1.out.onB hb1).cell 7
  have hlt := (B1.out.onB hb1).lt
  have HB1 := Lib.hid hb1
  clear hb1
  go_wp2_with fail
  obtain ⟨W2, hW2⟩ : ∃ W2, W2 = w1.alloc (.cells #[.int .u8 (kn : Nat), .int .u8 sf, .int .i64 sa, .int .i64 sb, .int .i64 sc, .int .i64 sv, .int .u16 skk, .bool so] 26) := ⟨_, rfl⟩
  rw [← hW2]
  have hb2' : Below w1.heap.size w1 W2 := by rw [hW2]; exact (Below.refl _ _).alloc (Nat.le_refl _) _
  have k1 : Blk W2 w1.heap.size 26 #[.int .u8 (kn : Nat), .int .u8 sf, .int .i64 sa, .int .i64 sb, .int .i64 sc, .int .i64 sv, .int .u16 skk, .bool so] := by rw [hW2]; exact Blk.new w1 _ _
  have hbW2 := HB1.out.trans (hb2'.mono HB1.out.size)
  have k2 := B1.out.onB hbW2
  have HB2 := Lib.hid hbW2
  have hP2 := HP.out.on hbW2
  have hA2 := HA.out.on hbW2
  have d1 := regrown_calls (W := W2) (fun W' hW' => (HR.out W' (hP2.on hW') (hA2.on hW')).mono fun _ _ ⟨he, hb⟩ => ⟨he, hW'.trans (hb.mono hW'.size)⟩)
  have d2 := regrown_calls (W := W2) (fun W' hW' => (HD.out W').mono fun _ _ ⟨he, hb⟩ => ⟨he, hW'.trans (hb.mono hW'.size)⟩)
  have i0 : ∀ d os, (grow (redrawn W2 d) os).cell? ⟨w1.heap.size, 0, none⟩ = some (.int .u8 (kn : Nat)) := fun d os => cell_regrown (k1.cell 0) d os
  have j0 : ∀ d os, (grow (redrawn W2 d) os).cell? ⟨w.heap.size, 0, none⟩ = some (.int .u8 (kn : Nat)) := fun d os => cell_regrown (k2.cell 0) d os
  have i1 : ∀ d os, (grow (redrawn W2 d) os).cell? ⟨w1.heap.size, 1, none⟩ = some (.int .u8 sf) := fun d os => cell_regrown (k1.cell 1) d os
  have j1 : ∀ d os, (grow (redrawn W2 d) os).cell? ⟨w.heap.size, 1, none⟩ = some (.int .u8 sf) := fun d os => cell_regrown (k2.cell 1) d os
  have i2 : ∀ d os, (grow (redrawn W2 d) os).cell? ⟨w1.heap.size, 2, none⟩ = some (.int .i64 sa) := fun d os => cell_regrown (k1.cell 2) d os
  have j2 : ∀ d os, (grow (redrawn W2 d) os).cell? ⟨w.heap.size, 2, none⟩ = some (.int .i64 sa) := fun d os => cell_regrown (k2.cell 2) d os
  have i3 : ∀ d os, (grow (redrawn W2 d) os).cell? ⟨w1.heap.size, 3, none⟩ = some (.int .i64 sb) := fun d os => cell_regrown (k1.cell 3) d os
  have j3 : ∀ d os, (grow (redrawn W2 d) os).cell? ⟨w.heap.size, 3, none⟩ = some (.int .i64 sb) := fun d os => cell_regrown (k2.cell 3) d os
  have i4 : ∀ d os, (grow (redrawn W2 d) os).cell? ⟨w1.heap.size, 4, none⟩ = some (.int .i64 sc) := fun d os => cell_regrown (k1.cell 4) d os
  have j4 : ∀ d os, (grow (redrawn W2 d) os).cell? ⟨w.heap.size, 4, none⟩ = some (.int .i64 sc) := fun d os => cell_regrown (k2.cell 4) d os
  have i5 : ∀ d os, (grow (redrawn W2 d) os).cell? ⟨w1.heap.size, 5, none⟩ = some (.int .i64 sv) := fun d os => cell_regrown (k1.cell 5) d os
  have j5 : ∀ d os, (grow (redrawn W2 d) os).cell? ⟨w.heap.size, 5, none⟩ = some (.int .i64 sv) := fun d os => cell_regrown (k2.cell 5) d os
  have i6 : ∀ d os, (grow (redrawn W2 d) os).cell? ⟨w1.heap.size, 6, none⟩ = some (.int .u16 skk) := fun d os => cell_regrown (k1.cell 6) d os
  have j6 : ∀ d os, (grow (redrawn W2 d) os).cell? ⟨w.heap.size, 6, none⟩ = some (.int .u16 skk) := fun d os => cell_regrown (k2.cell 6) d os
  have i7 : ∀ d os, (grow (redrawn W2 d) os).cell? ⟨w1.heap.size, 7, none⟩ = some (.bool so) := fun d os => cell_regrown (k1.cell 7) d os
  have j7 : ∀ d os, (grow (redrawn W2 d) os).cell? ⟨w.heap.size, 7, none⟩ = some (.bool so) := fun d os => cell_regrown (k2.cell 7) d os
  clear hW2 hb2' k1 k2 hbW2 hP2 hA2 c0 c1 c2 c3 c4 c5 c6 c7
  refine wp_region_quiet_below (by kernel_rfl) (by kernel_rfl) ?_
  repeat (first | go_big_quiet_step (first | with_reducible exact d1 _ _ | with_reducible exact d2 _ _ | fail) | quiet_step (first | with_reducible exact d1 _ _ | with_reducible exact d2 _ _ | fail))
  refine wpQuiet_nil ?_
  intro w5 hw'
  have hbel : Below W2.heap.size W2 w5 := regrown_below hw'
  clear hw' i0 i1 i2 i3 i4 i5 i6 i7 j0 j1 j2 j3 j4 j5 j6 j7 d1 d2
  go_wp2_with fail
  go_ret
  refine ⟨?_, HbW.out.trans ((HB2.out.trans (hbel.mono HB2.out.size)).mono HbW.out.size)⟩
  simp
end Go.Proofs.YtnlhibhamechcaaGreatDoor
