/- The document's texts; node.One; the example; the walks of NodePlain, NodeRight, NodeHashes. -/
import Derived.Test.YtfcklfpgjadfmaaDoorTextN
import Derived.Test.YtfcklfpgjadfmaaDoorNodeR
import Derived.Test.YtfcklfpgjadfmaaDoorRefR
namespace Go.Proofs.YtfcklfpgjadfmaaDoor
open Go.RowKit Go.Sort
set_option linter.unusedSimpArgs false
set_option linter.unusedVariables false

theorem Blk.on0 {w w' : World} {g : Nat} {t : TypeId} {cs : Array Value} (h : Blk w g t cs) (hb : Below w.heap.size w w') : Blk w' g t cs := h.chg (F := []) (chg_of_below hb) (by simp)
theorem nalive_any (w : World) : Calls Tryd.prog 14 #[] w fun e w' => e = .returned (.bool true) ∧ Below w.heap.size w w' := by
  have h := text_any 3 1 3 0 4 0 1 (by omega) (by omega) (by omega) (by omega) (by omega) (by omega) (by omega) w (.inl (by omega))
  have e : textT 3 1 3 0 4 0 1 = [99, 98, 100, 100, 32, 49, 58, 51, 32, 52, 32, 49] := by decide +kernel
  rw [e] at h
  have H := Lib.hid h
  clear h e
  go_enter Tryd.func14, Tryd.ntmps14
  go_wp2_with fail
  refine H.out.mono ?_
  rintro e w1 ⟨rfl, hb⟩
  unfold txt
  go_wp2_with fail
  go_ret
  exact ⟨rfl, hb⟩
set_option maxRecDepth 100000 in
set_option maxHeartbeats 1000000 in
theorem redge_any (t p : Nat) (ht : t ≤ 255) (hp : p ≤ 4294967295) (w : World) : Calls Tryd.prog 72 #[.agg #[.int .u8 (t : Nat), .int .u32 (p : Nat)]] w fun e w' => e = .returned (txt (edgeT t p)) ∧ Below w.heap.size w w' := by
  obtain ⟨W, hW⟩ : ∃ W, W = w.alloc (.cells #[.int .u8 (t : Nat), .int .u32 (p : Nat)] 25) := ⟨_, rfl⟩
  have hbW : Below w.heap.size w W := by rw [hW]; exact (Below.refl _ _).alloc (Nat.le_refl _) _
  have hBW : Blk W w.heap.size 25 #[.int .u8 (t : Nat), .int .u32 (p : Nat)] := by rw [hW]; exact Blk.new w _ _
  have hP := num_any p W (by omega) (by omega)
  have c1 := regrown_calls (W := W) (fun W' hW' => (num_any p W' (by omega) (by omega)).mono fun _ _ ⟨he, hb⟩ => ⟨he, hW'.trans (hb.mono hW'.size)⟩)
  have c2 := regrown_calls (W := W) (fun W' hW' => (num_any t W' (by omega) (by omega)).mono fun _ _ ⟨he, hb⟩ => ⟨he, hW'.trans (hb.mono hW'.size)⟩)
  have l1 := digs_len p (by omega)
  have l2 := digs_len t (by omega)
  unfold edgeT
  generalize Lib.decDigits p = x at *
  generalize Lib.decDigits t = y at *
  unfold txt at c1 c2 hP
  have HWW := Lib.hid hW
  have HbW := Lib.hid hbW
  have HBW := Lib.hid hBW
  have HP := Lib.hid hP
  have C := Lib.hid (And.intro c1 c2)
  clear hP c1 c2 hbW hBW
  by_cases h0 : t = 0
  · subst h0
    rw [if_pos rfl, List.append_nil]
    have hW0 : W = w.alloc (.cells #[.int .u8 0, .int .u32 (p : Nat)] 25) := HWW.out
    have HW0 := Lib.hid hW0
    clear hW0 hW
    go_enter Tryd.func72, Tryd.ntmps72
    go_wp2_with fail
    rw [← HW0.out]
    refine HP.out.mono ?_
    rintro e w1 ⟨rfl, hb1⟩
    go_wp2_with fail
    go_ret
    exact ⟨rfl, HbW.out.trans (hb1.mono HbW.out.size)⟩
  · have e0 : (0 : Int) < (t : Int) := by omega
    rw [if_neg h0]
    clear h0
    go_enter Tryd.func72, Tryd.ntmps72
    go_wp2_with fail
    rw [← HWW.out]
    clear hW
    obtain ⟨c1, c2⟩ := C.out
    have j0 : ∀ d os, (grow (redrawn W d) os).cell? ⟨w.heap.size, 0, none⟩ = some (.int .u8 (t : Nat)) := fun d os => cell_regrown (HBW.out.cell 0) d os
    have j1 : ∀ d os, (grow (redrawn W d) os).cell? ⟨w.heap.size, 1, none⟩ = some (.int .u32 (p : Nat)) := fun d os => cell_regrown (HBW.out.cell 1) d os
    refine wp_region_quiet_below (by kernel_rfl) (by kernel_rfl) ?_
    repeat (first | go_big_quiet_step (first | with_reducible exact c1 _ _ | with_reducible exact c2 _ _ | fail) | quiet_step (first | with_reducible exact c1 _ _ | with_reducible exact c2 _ _ | fail))
    refine wpQuiet_nil ?_
    intro w2 hw'
    have hbel2 : Below W.heap.size W w2 := regrown_below hw'
    clear hw' j0 j1 c1 c2
    go_wp2_with fail
    go_ret
    refine ⟨?_, HbW.out.trans (hbel2.mono HbW.out.size)⟩
    show Ending.returned (.string _) = .returned (.string _)
    congr 2
    apply ByteArray.ext
    simp [ByteArray.data_append]
/-- the document's index of a form's name -/
def nameK (f : Nat) : Nat := if f ≤ 5 then f else 0
def nameT (k : Nat) : List UInt8 := if k = 1 then [98, 100, 100] else if k = 2 then [122, 100, 100] else if k = 3 then [99, 98, 100, 100] else if k = 4 then [99, 122, 100, 100] else if k = 5 then [116, 98, 100, 100] else [110, 111, 110, 101]
theorem nameT_K (f : Nat) : nameT (nameK f) = nameL f := by
  unfold nameK
  split
  · rfl
  · unfold nameT nameL
    rw [if_neg (by omega), if_neg (by omega), if_neg (by omega), if_neg (by omega), if_neg (by omega), if_neg (by omega), if_neg (by omega), if_neg (by omega), if_neg (by omega), if_neg (by omega)]
set_option maxRecDepth 100000 in
set_option maxHeartbeats 4000000 in
theorem rtext_any (f t b lt lp ht hp : Nat) (q1 : f ≤ 255) (q2 : t ≤ 255) (q3 : b ≤ 255) (q4 : lt ≤ 255) (q5 : lp ≤ 4294967295) (q6 : ht ≤ 255) (q7 : hp ≤ 4294967295) (w : World) :
    Calls Tryd.prog 24 #[.agg #[.int .u8 (f : Nat), .int .u8 (t : Nat), .int .u8 (b : Nat), .int .u8 (lt : Nat), .int .u32 (lp : Nat), .int .u8 (ht : Nat), .int .u32 (hp : Nat)]] w fun e w' => e = .returned (txt (textT f t b lt lp ht hp)) ∧ Below w.heap.size w w' := by
  obtain ⟨W, hW⟩ : ∃ W, W = (w.alloc (.cells #[.int .u8 (f : Nat), .int .u8 (t : Nat), .int .u8 (b : Nat), .int .u8 (lt : Nat), .int .u32 (lp : Nat), .int .u8 (ht : Nat), .int .u32 (hp : Nat)] 27)).alloc (.cells #[.string ⟨#[110, 111, 110, 101]⟩, .string ⟨#[98, 100, 100]⟩, .string ⟨#[122, 100, 100]⟩, .string ⟨#[99, 98, 100, 100]⟩, .string ⟨#[99, 122, 100, 100]⟩, .string ⟨#[116, 98, 100, 100]⟩] 9) := ⟨_, rfl⟩
  have hbW : Below w.heap.size w W := by rw [hW]; exact ((Below.refl _ _).alloc (Nat.le_refl _) _).alloc (by simp) _
  have hBW : Blk W w.heap.size 27 #[.int .u8 (f : Nat), .int .u8 (t : Nat), .int .u8 (b : Nat), .int .u8 (lt : Nat), .int .u32 (lp : Nat), .int .u8 (ht : Nat), .int .u32 (hp : Nat)] := by rw [hW]; exact (Blk.new w _ _).alloc _
  have hBN : Blk W (w.heap.size + 1) 9 #[.string ⟨#[110, 111, 110, 101]⟩, .string ⟨#[98, 100, 100]⟩, .string ⟨#[122, 100, 100]⟩, .string ⟨#[99, 98, 100, 100]⟩, .string ⟨#[99, 122, 100, 100]⟩, .string ⟨#[116, 98, 100, 100]⟩] := by
    rw [hW]
    have := Blk.new (w.alloc (.cells #[.int .u8 (f : Nat), .int .u8 (t : Nat), .int .u8 (b : Nat), .int .u8 (lt : Nat), .int .u32 (lp : Nat), .int .u8 (ht : Nat), .int .u32 (hp : Nat)] 27)) 9 #[.string ⟨#[110, 111, 110, 101]⟩, .string ⟨#[98, 100, 100]⟩, .string ⟨#[122, 100, 100]⟩, .string ⟨#[99, 98, 100, 100]⟩, .string ⟨#[99, 122, 100, 100]⟩, .string ⟨#[116, 98, 100, 100]⟩]
    rwa [World.size_alloc] at this
  have hk : nameK f ≤ 5 := by unfold nameK; split <;> omega
  have hcK : W.cell? ⟨w.heap.size + 1, nameK f, none⟩ = some (txt (nameL f)) := by
    rw [← nameT_K, hBN.cell]
    generalize nameK f = k at *
    rcases k with _ | _ | _ | _ | _ | _ | k
    · rfl
    · rfl
    · rfl
    · rfl
    · rfl
    · rfl
    · omega
  have c2 := regrown_calls (W := W) (fun W' hW' => (num_any t W' (by omega) (by omega)).mono fun _ _ ⟨he, hb⟩ => ⟨he, hW'.trans (hb.mono hW'.size)⟩)
  have c3 := regrown_calls (W := W) (fun W' hW' => (num_any b W' (by omega) (by omega)).mono fun _ _ ⟨he, hb⟩ => ⟨he, hW'.trans (hb.mono hW'.size)⟩)
  have c4 := regrown_calls (W := W) (fun W' hW' => (redge_any lt lp q4 q5 W').mono fun _ _ ⟨he, hb⟩ => ⟨he, hW'.trans (hb.mono hW'.size)⟩)
  have c5 := regrown_calls (W := W) (fun W' hW' => (redge_any ht hp q6 q7 W').mono fun _ _ ⟨he, hb⟩ => ⟨he, hW'.trans (hb.mono hW'.size)⟩)
  have l1 := nameL_len f
  have l2 := digs_len t (by omega)
  have l3 := digs_len b (by omega)
  have l4 := edgeT_len lt lp (by omega) (by omega)
  have l5 := edgeT_len ht hp (by omega) (by omega)
  unfold textT
  generalize nameL f = x1 at *
  generalize Lib.decDigits t = x2 at *
  generalize Lib.decDigits b = x3 at *
  generalize edgeT lt lp = x4 at *
  generalize edgeT ht hp = x5 at *
  unfold txt at c2 c3 c4 c5
  have HWW := Lib.hid hW
  have HbW := Lib.hid hbW
  have HBW := Lib.hid hBW
  have HCK := Lib.hid hcK
  have C := Lib.hid (And.intro c2 (And.intro c3 (And.intro c4 c5)))
  clear hbW hBW hBN hcK c2 c3 c4 c5
  by_cases hf : f ≤ 5
  · have hfk : nameK f = f := by unfold nameK; rw [if_pos hf]
    rw [hfk] at HCK
    have hn : ¬ 5 < (f : Int) := by omega
    have hn2 : (f : Int) < 6 := by omega
    clear hk hfk
    go_enter Tryd.func24, Tryd.ntmps24
    go_wp2_with fail
    rw [← HWW.out]
    clear hW
    obtain ⟨c2, c3, c4, c5⟩ := C.out
    have k0 : W.cell? ⟨w.heap.size, 0, none⟩ = some (.int .u8 (f : Nat)) := HBW.out.cell 0
    go_wp2_with fail
    clear k0
    have j1 : ∀ d os, (grow (redrawn W d) os).cell? ⟨w.heap.size, 1, none⟩ = some (.int .u8 (t : Nat)) := fun d os => cell_regrown (HBW.out.cell 1) d os
    have j2 : ∀ d os, (grow (redrawn W d) os).cell? ⟨w.heap.size, 2, none⟩ = some (.int .u8 (b : Nat)) := fun d os => cell_regrown (HBW.out.cell 2) d os
    have j3 : ∀ d os, (grow (redrawn W d) os).cell? ⟨w.heap.size, 3, none⟩ = some (.int .u8 (lt : Nat)) := fun d os => cell_regrown (HBW.out.cell 3) d os
    have j4 : ∀ d os, (grow (redrawn W d) os).cell? ⟨w.heap.size, 4, none⟩ = some (.int .u32 (lp : Nat)) := fun d os => cell_regrown (HBW.out.cell 4) d os
    have j5 : ∀ d os, (grow (redrawn W d) os).cell? ⟨w.heap.size, 5, none⟩ = some (.int .u8 (ht : Nat)) := fun d os => cell_regrown (HBW.out.cell 5) d os
    have j6 : ∀ d os, (grow (redrawn W d) os).cell? ⟨w.heap.size, 6, none⟩ = some (.int .u32 (hp : Nat)) := fun d os => cell_regrown (HBW.out.cell 6) d os
    have j7 : ∀ d os, (grow (redrawn W d) os).cell? ⟨w.heap.size + 1, f, none⟩ = some (.string ⟨x1.toArray⟩) := fun d os => cell_regrown HCK.out d os
    refine wp_region_quiet_below (by kernel_rfl) (by kernel_rfl) ?_
    repeat (first | go_big_quiet_step (first | with_reducible exact c2 _ _ | with_reducible exact c3 _ _ | with_reducible exact c4 _ _ | with_reducible exact c5 _ _ | fail) | quiet_step (first | with_reducible exact c2 _ _ | with_reducible exact c3 _ _ | with_reducible exact c4 _ _ | with_reducible exact c5 _ _ | fail))
    refine wpQuiet_nil ?_
    intro w2 hw'
    have hbel2 : Below W.heap.size W w2 := regrown_below hw'
    clear hw' j1 j2 j3 j4 j5 j6 j7 c2 c3 c4 c5
    go_wp2_with fail
    go_ret
    refine ⟨?_, HbW.out.trans (hbel2.mono HbW.out.size)⟩
    exact congrArg (fun z => Ending.returned (.string z)) (text_bytes x1 x2 x3 x4 x5)
  · have hfk : nameK f = 0 := by unfold nameK; rw [if_neg hf]
    rw [hfk] at HCK
    have hn : 5 < (f : Int) := by omega
    clear hk hfk
    go_enter Tryd.func24, Tryd.ntmps24
    go_wp2_with fail
    rw [← HWW.out]
    clear hW
    obtain ⟨c2, c3, c4, c5⟩ := C.out
    have k0 : W.cell? ⟨w.heap.size, 0, none⟩ = some (.int .u8 (f : Nat)) := HBW.out.cell 0
    go_wp2_with fail
    clear k0
    have j1 : ∀ d os, (grow (redrawn W d) os).cell? ⟨w.heap.size, 1, none⟩ = some (.int .u8 (t : Nat)) := fun d os => cell_regrown (HBW.out.cell 1) d os
    have j2 : ∀ d os, (grow (redrawn W d) os).cell? ⟨w.heap.size, 2, none⟩ = some (.int .u8 (b : Nat)) := fun d os => cell_regrown (HBW.out.cell 2) d os
    have j3 : ∀ d os, (grow (redrawn W d) os).cell? ⟨w.heap.size, 3, none⟩ = some (.int .u8 (lt : Nat)) := fun d os => cell_regrown (HBW.out.cell 3) d os
    have j4 : ∀ d os, (grow (redrawn W d) os).cell? ⟨w.heap.size, 4, none⟩ = some (.int .u32 (lp : Nat)) := fun d os => cell_regrown (HBW.out.cell 4) d os
    have j5 : ∀ d os, (grow (redrawn W d) os).cell? ⟨w.heap.size, 5, none⟩ = some (.int .u8 (ht : Nat)) := fun d os => cell_regrown (HBW.out.cell 5) d os
    have j6 : ∀ d os, (grow (redrawn W d) os).cell? ⟨w.heap.size, 6, none⟩ = some (.int .u32 (hp : Nat)) := fun d os => cell_regrown (HBW.out.cell 6) d os
    have j7 : ∀ d os, (grow (redrawn W d) os).cell? ⟨w.heap.size + 1, 0, none⟩ = some (.string ⟨x1.toArray⟩) := fun d os => cell_regrown HCK.out d os
    refine wp_region_quiet_below (by kernel_rfl) (by kernel_rfl) ?_
    repeat (first | go_big_quiet_step (first | with_reducible exact c2 _ _ | with_reducible exact c3 _ _ | with_reducible exact c4 _ _ | with_reducible exact c5 _ _ | fail) | quiet_step (first | with_reducible exact c2 _ _ | with_reducible exact c3 _ _ | with_reducible exact c4 _ _ | with_reducible exact c5 _ _ | fail))
    refine wpQuiet_nil ?_
    intro w2 hw'
    have hbel2 : Below W.heap.size W w2 := regrown_below hw'
    clear hw' j1 j2 j3 j4 j5 j6 j7 c2 c3 c4 c5
    go_wp2_with fail
    go_ret
    refine ⟨?_, HbW.out.trans (hbel2.mono HbW.out.size)⟩
    exact congrArg (fun z => Ending.returned (.string z)) (text_bytes x1 x2 x3 x4 x5)
end Go.Proofs.YtfcklfpgjadfmaaDoor
