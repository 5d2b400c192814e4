/- Contracts: set.Nothing, All. -/
import Derived.Test.YtdhfpnbpkbelmaaDoorSetN
namespace Go.Proofs.YtdhfpnbpkbelmaaDoor
open Go.RowKit Go.Sort
set_option linter.unusedSimpArgs false
set_option linter.unusedVariables false

theorem Blk.onB {w w' : World} {g : Nat} {t : TypeId} {cs : Array Value} (h : Blk w g t cs) (hb : Below w.heap.size w w') : Blk w' g t cs := h.chg (F := []) (chg_of_below hb) (by simp)
/-- a set and no error -/
def SetRes2 (w : World) (n : Nat) (ws : List Nat) (e : Ending) (w' : World) : Prop :=
  ∃ b, e = .returned (.tuple #[setV n b (wordsN n), .int .u8 0]) ∧ w.heap.size ≤ b ∧ OwnF U 86 w' w.heap.size (.slice (some ⟨b, 0, none⟩) (wordsN n) (wordsN n)) ws ∧ ws.length = wordsN n ∧ Below w.heap.size w w'
/-- no set, an error -/
def SetErr (w : World) (code : Int) (e : Ending) (w' : World) : Prop := e = .returned (.tuple #[.agg #[.int .i64 0, .slice none 0 0], .int .u8 code]) ∧ Below w.heap.size w w'
theorem own_arg {w : World} {base n b m : Nat} {ws : List Nat} (h : OwnF U 86 w base (.slice (some ⟨b, 0, none⟩) m m) ws) (hl : ws.length = m) (hlt : ∀ v ∈ ws, v < 18446744073709551616) (hn : n ≤ 16) (hm : m ≤ 1024) : SetArg w n (some ⟨b, 0, none⟩) m m ws :=
  ⟨hl, Nat.le_refl _, by unfold maxLen; omega, h.rows, hlt, WalkArith.wf_i64 (by omega)⟩
set_option maxRecDepth 100000 in
set_option maxHeartbeats 2000000 in
theorem snothing_any (n : Nat) (hn : n ≤ 16) (w : World) : Calls Tryd.prog 28 #[.int .i64 (n : Nat)] w (SetRes2 w n (List.replicate (wordsN n) 0)) := by
  have hm := wordsN_le hn
  have HBL := Lib.hid (fun W => sblank_any n hn W)
  have hma := fun W => smay_any (n : Int) W
  rw [show smayB (n : Int) = true from decide_eq_true (by omega)] at hma
  have HMA := Lib.hid hma
  unfold SetRes2 setV at *
  generalize wordsN n = m at *
  clear hma
  have HBK := Lib.hid (Blk.new w 24 #[.int .i64 0, .slice none 0 0])
  have HB0 := Lib.hid ((Below.refl w.heap.size w).alloc (Nat.le_refl _) (.cells #[.int .i64 0, .slice none 0 0] 24))
  go_enter Tryd.func28, Tryd.ntmps28
  go_wp2_with fail
  refine (HMA.out _).mono ?_
  rintro e w' ⟨rfl, rfl⟩
  go_wp2_with fail
  refine (HBL.out _).mono ?_
  rintro e w1 ⟨b, rfl, hb, hown, hb1⟩
  have hK := HBK.out.onB hb1
  have n0 : w1.cell? ⟨w.heap.size, 0, none⟩ = some (.int .i64 0) := hK.cell 0
  have n1 : w1.cell? ⟨w.heap.size, 1, none⟩ = some (.slice none 0 0) := hK.cell 1
  have z0 := hK.frozen 0
  have z1 := hK.frozen 1
  rw [World.size_alloc] at hb
  have HO := Lib.hid hown
  have HB1 := Lib.hid (HB0.out.trans (hb1.mono HB0.out.size))
  have HB := Lib.hid hb
  clear hK hown hb1 hb
  go_wp2_with fail
  refine bodyPost_ret (v := .tuple #[.agg #[.int .i64 (n : Nat), .slice (some ⟨b, 0, none⟩) m m], .int .u8 0]) ?_ rfl ⟨b, rfl, by have := HB.out; omega, ?_, by simp, ?_⟩
  · simp [results, Tryd.results28, go_sem, *]
  · have hb := HB.out
    exact ((HO.out.mono (by rw [World.size_alloc]; omega)).set_below' (by simp only; omega) _).set_below' (by simp only; omega) _
  · exact (HB1.out.setCell (Nat.le_refl _) _).setCell (Nat.le_refl _) _
set_option maxRecDepth 100000 in
set_option maxHeartbeats 2000000 in
theorem snothing_no (n : Int) (hn : ¬ (0 ≤ n ∧ n ≤ 16)) (w : World) : Calls Tryd.prog 28 #[.int .i64 n] w (SetErr w 3) := by
  have hma := fun W => smay_any n W
  rw [show smayB n = false from decide_eq_false hn] at hma
  have HMA := Lib.hid hma
  unfold SetErr
  clear hma hn
  go_enter Tryd.func28, Tryd.ntmps28
  go_wp2_with fail
  refine (HMA.out _).mono ?_
  rintro e w' ⟨rfl, rfl⟩
  go_wp2_with fail
  refine bodyPost_ret (v := .tuple #[.agg #[.int .i64 0, .slice none 0 0], .int .u8 3]) ?_ rfl ⟨rfl, ?_⟩
  · simp [results, Tryd.results28, go_sem, *]
  · first | exact (Below.refl _ _).alloc (Nat.le_refl _) _ | exact (((Below.refl _ _).alloc (Nat.le_refl _) _).setCell (Nat.le_refl _) _).setCell (Nat.le_refl _) _
/-- the words of the set with all -/
theorem all_words (n : Nat) : ((List.range (wordsN n)).map fun k => (18446744073709551615 - wat (List.replicate (wordsN n) 0) k) &&& fullN n) = List.replicate (wordsN n) (fullN n) := by
  apply List.ext_getElem (by simp)
  intro i h1 h2
  have h3 : i < wordsN n := by simpa using h2
  simp only [List.getElem_map, List.getElem_range, List.getElem_replicate]
  have : wat (List.replicate (wordsN n) 0) i = 0 := by unfold wat; rw [List.getElem?_replicate, if_pos h3]; rfl
  rw [this, Nat.sub_zero, Nat.and_comm]
  have hf := fullN_lt n
  rw [show (18446744073709551615 : Nat) = 2 ^ 64 - 1 from rfl, Nat.and_two_pow_sub_one_eq_mod]
  exact Nat.mod_eq_of_lt hf
set_option maxRecDepth 100000 in
set_option maxHeartbeats 2000000 in
theorem sall_any (n : Nat) (hn : n ≤ 16) (w : World) : Calls Tryd.prog 53 #[.int .i64 (n : Nat)] w (SetRes2 w n (List.replicate (wordsN n) (fullN n))) := by
  have hm := wordsN_le hn
  have HBL := Lib.hid (fun W => sblank_any n hn W)
  have hma := fun W => smay_any (n : Int) W
  rw [show smayB (n : Int) = true from decide_eq_true (by omega)] at hma
  have hno := fun b W (h : OwnF U 86 W w.heap.size (.slice (some ⟨b, 0, none⟩) (wordsN n) (wordsN n)) (List.replicate (wordsN n) 0)) => snot_any n hn (some ⟨b, 0, none⟩) (wordsN n) (List.replicate (wordsN n) 0) W (own_arg h (by simp) (by simp +contextual) hn hm)
  rw [all_words] at hno
  have HMA := Lib.hid hma
  have HNO := Lib.hid hno
  unfold SetRes2 SetRes setV setA at *
  generalize wordsN n = m at *
  generalize fullN n = f at *
  clear hma hno
  have HBK := Lib.hid (Blk.new w 24 #[.int .i64 0, .slice none 0 0])
  have HB0 := Lib.hid ((Below.refl w.heap.size w).alloc (Nat.le_refl _) (.cells #[.int .i64 0, .slice none 0 0] 24))
  go_enter Tryd.func53, Tryd.ntmps53
  go_wp2_with fail
  refine (HMA.out _).mono ?_
  rintro e w' ⟨rfl, rfl⟩
  go_wp2_with fail
  refine (HBL.out _).mono ?_
  rintro e w1 ⟨b, rfl, hb, hown, hb1⟩
  have HO := Lib.hid hown
  have HB1 := Lib.hid hb1
  clear hown hb1 hb
  go_wp2_with fail
  refine (HNO.out b _ (HO.out.mono HB0.out.size)).mono ?_
  rintro e w2 ⟨b2, rfl, hb2, hown2, hl2, hbb2⟩
  have hbb := HB1.out.trans (hbb2.mono HB1.out.size)
  have hK := HBK.out.onB hbb
  have n0 : w2.cell? ⟨w.heap.size, 0, none⟩ = some (.int .i64 0) := hK.cell 0
  have n1 : w2.cell? ⟨w.heap.size, 1, none⟩ = some (.slice none 0 0) := hK.cell 1
  have z0 := hK.frozen 0
  have z1 := hK.frozen 1
  have hs := HB1.out.size
  rw [World.size_alloc] at hs
  have HO2 := Lib.hid hown2
  have HB2 := Lib.hid (HB0.out.trans (hbb.mono HB0.out.size))
  have HB := Lib.hid (show w.heap.size + 1 ≤ b2 by omega)
  clear hK hown2 hbb2 hbb hb2 hs hl2
  go_wp2_with fail
  refine bodyPost_ret (v := .tuple #[.agg #[.int .i64 (n : Nat), .slice (some ⟨b2, 0, none⟩) m m], .int .u8 0]) ?_ rfl ⟨b2, rfl, by have := HB.out; omega, ?_, by simp, ?_⟩
  · simp [results, Tryd.results53, go_sem, *]
  · have hb := HB.out
    have hs := HB1.out.size
    rw [World.size_alloc] at hs
    exact ((HO2.out.mono (by omega)).set_below' (by simp only; omega) _).set_below' (by simp only; omega) _
  · exact (HB2.out.setCell (Nat.le_refl _) _).setCell (Nat.le_refl _) _
set_option maxRecDepth 100000 in
set_option maxHeartbeats 2000000 in
theorem sall_no (n : Int) (hn : ¬ (0 ≤ n ∧ n ≤ 16)) (w : World) : Calls Tryd.prog 53 #[.int .i64 n] w (SetErr w 3) := by
  have hma := fun W => smay_any n W
  rw [show smayB n = false from decide_eq_false hn] at hma
  have HMA := Lib.hid hma
  unfold SetErr
  clear hma hn
  go_enter Tryd.func53, Tryd.ntmps53
  go_wp2_with fail
  refine (HMA.out _).mono ?_
  rintro e w' ⟨rfl, rfl⟩
  go_wp2_with fail
  refine bodyPost_ret (v := .tuple #[.agg #[.int .i64 0, .slice none 0 0], .int .u8 3]) ?_ rfl ⟨rfl, ?_⟩
  · simp [results, Tryd.results53, go_sem, *]
  · first | exact (Below.refl _ _).alloc (Nat.le_refl _) _ | exact (((Below.refl _ _).alloc (Nat.le_refl _) _).setCell (Nat.le_refl _) _).setCell (Nat.le_refl _) _
end Go.Proofs.YtdhfpnbpkbelmaaDoor
