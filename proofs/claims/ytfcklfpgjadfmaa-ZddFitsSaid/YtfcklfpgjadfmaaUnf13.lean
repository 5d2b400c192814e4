/- Contracts of the law's Unfold and halves. -/
import Derived.Test.YtfcklfpgjadfmaaMade13
namespace Go.Proofs.Ytfcklfpgjadfmaa
open Go.RowKit Go.Sort
set_option linter.unusedSimpArgs false
set_option linter.unusedVariables false

theorem unf13_string (x y : List UInt8) (dg : UInt8) : Value.string (((((⟨#[40]⟩ : ByteArray) ++ ⟨[dg].toArray⟩) ++ ⟨#[32]⟩ ++ ⟨x.toArray⟩) ++ ⟨#[32]⟩ ++ ⟨y.toArray⟩) ++ ⟨#[41]⟩) = strV (40 :: dg :: 32 :: (x ++ 32 :: (y ++ [41]))) := strV_node dg x y
set_option maxRecDepth 100000 in
set_option maxHeartbeats 4000000 in
theorem unfold13_any (n room g : Nat) (F : List Nat) (S : List Nd) : ∀ {e : Nat} {T : Tm}, Den S e T → ∀ (d : Nat) (w : World), low T → deep T ≤ d → d ≤ 6 → StoreAt w F g n room (csOf true S) [] →
    Calls Try.prog 28 #[.pointer (some ⟨g, 0, none⟩), .agg (⟨0, e⟩ : Edg).cells.toArray, .int .i64 (d : Nat)] w fun r w' => r = .returned (strV (render T)) ∧ Below w.heap.size w w' := by
  intro e T hD
  have hleaf : ∀ (x : Nat), x < 2 → ∀ (d : Nat) (w : World), Calls Try.prog 28 #[.pointer (some ⟨g, 0, none⟩), .agg (⟨0, x⟩ : Edg).cells.toArray, .int .i64 (d : Nat)] w fun r w' => r = .returned (strV [UInt8.ofNat (48 + x)]) ∧ Below w.heap.size w w' := by
    intro x hx d w
    have hnum0 := num_small x (by omega)
    generalize UInt8.ofNat (48 + x) = dg at *
    have hnum := Lib.hid hnum0
    clear hnum0
    simp only [Edg.cells]
    go_enter Try.func28, Try.ntmps28
    go_wp2_with fail
    refine (hnum.out _).mono ?_
    rintro r w1 ⟨rfl, hb1⟩
    unfold strV
    go_wp2_with fail
    go_ret
    exact ⟨rfl, (((Below.refl _ _).alloc (Nat.le_refl _) _)).trans (hb1.mono (by simp))⟩
  induction hD with
  | zero => intro d w _ _ _ _; exact hleaf 0 (by omega) d w
  | one => intro d w _ _ _ _; exact hleaf 1 (by omega) d w
  | node i nd A B hg hlo hhi ih1 ih2 =>
    intro d w hlow hdeep hd hS
    obtain ⟨lv, lo, hi⟩ := nd
    obtain ⟨hl1, hl2, hl3⟩ := hlow
    simp only [deep] at hdeep
    obtain ⟨d, rfl⟩ : ∃ d', d = d' + 1 := ⟨d - 1, by omega⟩
    have hrec := recAt_csOf true S (i + 2)
    rw [if_pos (by omega), Nat.add_sub_cancel, hg, Option.map_some] at hrec
    have hwf := (Den.node i ⟨lv, lo, hi⟩ A B hg hlo hhi).wf (csOf_len_le hS) hS.ok.room20
    have hget := fun W hW => storeGet_any F g n room (csOf true S) [] ((i + 2 : Nat) : Int) W (hS.on hW) (by omega) (by have := hwf.2.2.2; simp only at this; omega)
    rw [hrec] at hget
    have HGET := Lib.hid hget
    have HS := Lib.hid hS
    have hnum := num_small lv hl1
    have IH1 := Lib.hid (fun (W : World) (hW : Below w.heap.size w W) => ih1 d W hl2 (by omega) (by omega) (hS.on hW))
    have IH2 := Lib.hid (fun (W : World) (hW : Below w.heap.size w W) => ih2 d W hl3 (by omega) (by omega) (hS.on hW))
    have hr1 := render_short (T := A) (by omega)
    have hr2 := render_short (T := B) (by omega)
    rw [render]
    generalize render A = x at *
    generalize render B = y at *
    generalize UInt8.ofNat (48 + lv) = dg at *
    have HNU := Lib.hid hnum
    simp only [strV, Edg.cells] at IH1 IH2 HNU
    clear hrec hwf hget hS hnum ih1 ih2 hg hlo hhi hdeep hl2 hl3
    simp only [Edg.cells]
    go_enter Try.func28, Try.ntmps28
    go_wp2_with fail
    have HB0 := Lib.hid ((Below.refl w.heap.size w).alloc (Nat.le_refl _) (.cells #[.int .u8 0, .int .u32 ((i + 2 : Nat) : Int)] 35))
    refine (HGET.out _ HB0.out).mono ?_
    rintro r w1 ⟨rfl, hb1⟩
    have HB1 := Lib.hid (HB0.out.trans (hb1.mono HB0.out.size))
    have hs1 := HB1.out.size
    simp only [getR, ndRec, fmOf, Rec.cells]
    clear hb1
    go_wp2_with fail
    obtain ⟨W, hW⟩ : ∃ W, W = w1.alloc (.cells #[.int .u8 (if true then 2 else 1), .int .u8 lv, .int .u8 lv, .int .u8 0, .int .u32 lo, .int .u8 0, .int .u32 hi] 69) := ⟨_, rfl⟩
    simp only [if_true, if_false, Bool.false_eq_true] at hW
    rw [← hW]
    have hBW : Blk W w1.heap.size 69 #[.int .u8 (fmOf true), .int .u8 lv, .int .u8 lv, .int .u8 0, .int .u32 lo, .int .u8 0, .int .u32 hi] := by rw [hW]; exact Blk.new w1 _ _
    have hbW : Below w.heap.size w W := by rw [hW]; exact HB1.out.alloc HB1.out.size _
    have j1 : ∀ d os, (grow (redrawn W d) os).cell? ⟨w1.heap.size, 1, none⟩ = some (.int .u8 lv) := fun d os => cell_regrown (hBW.cell 1) d os
    have j3 : ∀ d os, (grow (redrawn W d) os).cell? ⟨w1.heap.size, 3, none⟩ = some (.int .u8 0) := fun d os => cell_regrown (hBW.cell 3) d os
    have j4 : ∀ d os, (grow (redrawn W d) os).cell? ⟨w1.heap.size, 4, none⟩ = some (.int .u32 lo) := fun d os => cell_regrown (hBW.cell 4) d os
    have j5 : ∀ d os, (grow (redrawn W d) os).cell? ⟨w1.heap.size, 5, none⟩ = some (.int .u8 0) := fun d os => cell_regrown (hBW.cell 5) d os
    have j6 : ∀ d os, (grow (redrawn W d) os).cell? ⟨w1.heap.size, 6, none⟩ = some (.int .u32 hi) := fun d os => cell_regrown (hBW.cell 6) d os
    have c1 := regrown_calls (W := W) (fun W' hW' => (HNU.out W').mono fun _ _ ⟨he, hb⟩ => ⟨he, hW'.trans (hb.mono hW'.size)⟩)
    have c2 := regrown_calls (W := W) (fun W' hW' => (IH1.out W' (hbW.trans (hW'.mono hbW.size))).mono fun _ _ ⟨he, hb⟩ => ⟨he, hW'.trans (hb.mono hW'.size)⟩)
    have c3 := regrown_calls (W := W) (fun W' hW' => (IH2.out W' (hbW.trans (hW'.mono hbW.size))).mono fun _ _ ⟨he, hb⟩ => ⟨he, hW'.trans (hb.mono hW'.size)⟩)
    have HBW := Lib.hid hbW
    clear hW hBW hbW
    refine wp_region_quiet_below (by kernel_rfl) (by kernel_rfl) ?_
    repeat (first | go_big_quiet_step (first | with_reducible exact c1 _ _ | with_reducible exact c2 _ _ | with_reducible exact c3 _ _ | fail) | quiet_step (first | with_reducible exact c1 _ _ | with_reducible exact c2 _ _ | with_reducible exact c3 _ _ | fail))
    refine wpQuiet_nil ?_
    intro w2 hw'
    have hbel2 : Below W.heap.size W w2 := regrown_below hw'
    clear hw' j1 j3 j4 j5 j6 c1 c2 c3
    go_wp2_with fail
    go_ret
    exact ⟨congrArg Ending.returned (unf13_string x y dg), HBW.out.trans (hbel2.mono HBW.out.size)⟩
end Go.Proofs.Ytfcklfpgjadfmaa
