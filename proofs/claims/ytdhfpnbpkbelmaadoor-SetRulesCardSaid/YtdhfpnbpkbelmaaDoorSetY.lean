/- Contracts: set.Single; the examples. -/
import Derived.Test.YtdhfpnbpkbelmaaDoorSetX
namespace Go.Proofs.YtdhfpnbpkbelmaaDoor
open Go.RowKit Go.Sort
set_option linter.unusedSimpArgs false
set_option linter.unusedVariables false

set_option maxRecDepth 100000 in
set_option maxHeartbeats 2000000 in
theorem ssingle2_any (n v : Nat) (hn : n ≤ 16) (hv : v < n) (w : World) : Calls Tryd.prog 30 #[.int .i64 (n : Nat), .int .i64 (v : Nat)] w (SetRes2 w n ((List.range (wordsN n)).map (singW n v))) := by
  have HBL := Lib.hid (fun W => ssingle_any n v hn hv W)
  have hma := fun W => smay_any (n : Int) W
  rw [show smayB (n : Int) = true from decide_eq_true (by omega)] at hma
  have HMA := Lib.hid hma
  unfold SetRes2 SetRes setV at *
  generalize (List.range (wordsN n)).map (singW n v) = ws at *
  generalize wordsN n = m at *
  clear hma
  have HBK := Lib.hid (Blk.new w 24 #[.int .i64 0, .slice none 0 0])
  have HB0 := Lib.hid ((Below.refl w.heap.size w).alloc (Nat.le_refl _) (.cells #[.int .i64 0, .slice none 0 0] 24))
  go_enter Tryd.func30, Tryd.ntmps30
  go_wp2_with fail
  refine (HMA.out _).mono ?_
  rintro e w' ⟨rfl, rfl⟩
  go_wp2_with fail
  refine (HBL.out _).mono ?_
  rintro e w1 ⟨b, rfl, hb, hown, hl, hb1⟩
  have hK := HBK.out.onB hb1
  have n0 : w1.cell? ⟨w.heap.size, 0, none⟩ = some (.int .i64 0) := hK.cell 0
  have n1 : w1.cell? ⟨w.heap.size, 1, none⟩ = some (.slice none 0 0) := hK.cell 1
  have z0 := hK.frozen 0
  have z1 := hK.frozen 1
  rw [World.size_alloc] at hb
  have HO := Lib.hid hown
  have HB1 := Lib.hid (HB0.out.trans (hb1.mono HB0.out.size))
  have HB := Lib.hid hb
  have HL := Lib.hid hl
  clear hK hown hb1 hb hl
  go_wp2_with fail
  refine bodyPost_ret (v := .tuple #[.agg #[.int .i64 (n : Nat), .slice (some ⟨b, 0, none⟩) m m], .int .u8 0]) ?_ rfl ⟨b, rfl, by have := HB.out; omega, ?_, HL.out, ?_⟩
  · simp [results, Tryd.results30, go_sem, *]
  · have hb := HB.out
    exact ((HO.out.mono (by rw [World.size_alloc]; omega)).set_below' (by simp only; omega) _).set_below' (by simp only; omega) _
  · exact (HB1.out.setCell (Nat.le_refl _) _).setCell (Nat.le_refl _) _
set_option maxRecDepth 100000 in
set_option maxHeartbeats 2000000 in
theorem ssingle2_no (n v : Int) (hn : ¬ (0 ≤ n ∧ n ≤ 16 ∧ 0 ≤ v ∧ v < n)) (w : World) : Calls Tryd.prog 30 #[.int .i64 n, .int .i64 v] w (SetErr w 3) := by
  have HMA := Lib.hid (fun W => smay_any n W)
  unfold SetErr
  by_cases h1 : smayB n = true
  · rw [h1] at HMA
    have h1' : 0 ≤ n ∧ n ≤ 16 := by simpa [smayB] using h1
    by_cases h2 : v < 0
    · clear h1 h1' hn
      go_enter Tryd.func30, Tryd.ntmps30
      go_wp2_with fail
      refine (HMA.out _).mono ?_
      rintro e w' ⟨rfl, rfl⟩
      go_wp2_with fail
      refine bodyPost_ret (v := .tuple #[.agg #[.int .i64 0, .slice none 0 0], .int .u8 3]) ?_ rfl ⟨rfl, ?_⟩
      · simp [results, Tryd.results30, go_sem, *]
      · first | exact (Below.refl _ _).alloc (Nat.le_refl _) _ | exact (((Below.refl _ _).alloc (Nat.le_refl _) _).setCell (Nat.le_refl _) _).setCell (Nat.le_refl _) _
    · have h3 : ¬ v < n := by omega
      have hge : n ≤ v := by omega
      clear h1 h1' hn
      go_enter Tryd.func30, Tryd.ntmps30
      go_wp2_with fail
      refine (HMA.out _).mono ?_
      rintro e w' ⟨rfl, rfl⟩
      go_wp2_with fail
      refine bodyPost_ret (v := .tuple #[.agg #[.int .i64 0, .slice none 0 0], .int .u8 3]) ?_ rfl ⟨rfl, ?_⟩
      · simp [results, Tryd.results30, go_sem, *]
      · first | exact (Below.refl _ _).alloc (Nat.le_refl _) _ | exact (((Below.refl _ _).alloc (Nat.le_refl _) _).setCell (Nat.le_refl _) _).setCell (Nat.le_refl _) _
  · have h1' : smayB n = false := by simpa using h1
    rw [h1'] at HMA
    clear h1 h1' hn
    go_enter Tryd.func30, Tryd.ntmps30
    go_wp2_with fail
    refine (HMA.out _).mono ?_
    rintro e w' ⟨rfl, rfl⟩
    go_wp2_with fail
    refine bodyPost_ret (v := .tuple #[.agg #[.int .i64 0, .slice none 0 0], .int .u8 3]) ?_ rfl ⟨rfl, ?_⟩
    · simp [results, Tryd.results30, go_sem, *]
    · first | exact (Below.refl _ _).alloc (Nat.le_refl _) _ | exact (((Below.refl _ _).alloc (Nat.le_refl _) _).setCell (Nat.le_refl _) _).setCell (Nat.le_refl _) _
theorem fill_ok {n u : Nat} (hn : n ≤ 16) (hu : u = 0 ∨ u = fullN n) : SOk n (List.replicate (wordsN n) u) := by
  refine ⟨hn, by simp, fun v hv => ?_, fun x h1 h2 => ?_⟩
  · rw [List.mem_replicate] at hv
    rw [hv.2]
    rcases hu with rfl | rfl
    · omega
    · exact fullN_lt n
  · unfold bitAt
    rw [List.getElem?_replicate]
    split
    · rw [Option.getD_some, Nat.mod_eq_of_lt h2]
      rcases hu with rfl | rfl
      · exact Nat.zero_testBit _
      · rw [fullN_bit n x h2, decide_eq_false (by omega)]
    · exact Nat.zero_testBit _
theorem none_bit (n x : Nat) : bitAt (List.replicate (wordsN n) 0) x = false := by
  unfold bitAt
  rw [List.getElem?_replicate]
  split <;> exact Nat.zero_testBit _
theorem all_bit {n x : Nat} (hx : x < 2 ^ n) : bitAt (List.replicate (wordsN n) (fullN n)) x = true := by
  unfold bitAt
  rw [List.getElem?_replicate, if_pos (idx_lt hx), Option.getD_some, fullN_bit n _ (Nat.mod_lt _ (by omega)), decide_eq_true (by have := Nat.mod_le x 64; omega)]
theorem text_all2 : textS 2 (List.replicate (wordsN 2) (fullN 2)) = [50, 58, 102] := by decide +kernel
theorem text_single : textS 3 ((List.range (wordsN 3)).map (singW 3 0)) = [51, 58, 97, 97] := by decide +kernel
theorem below_new {B : Nat} {w w1 : World} (h : Below B w w1) (hB : B ≤ w.heap.size) (o : Obj) : Below B w (w1.alloc o) := h.alloc (Nat.le_trans hB h.size) o
/-- a set behind a new cell -/
theorem SetArg.alloc {w : World} {m : Int} {A : Option Addr} {len c : Nat} {ws : List Nat} (h : SetArg w m A len c ws) (o : Obj) : SetArg (w.alloc o) m A len c ws := h.on ((Below.refl _ _).alloc (Nat.le_refl _) o)
set_option maxRecDepth 100000 in
set_option maxHeartbeats 4000000 in
theorem alive5_any (w : World) : Calls Tryd.prog 11 #[] w fun e w' => e = .returned (.bool true) ∧ Below w.heap.size w w' := by
  have HAL := Lib.hid (fun W => sall_any 2 (by decide) W)
  have HSI := Lib.hid (fun W => ssingle2_any 3 0 (by decide) (by decide) W)
  have htA := fill_ok (n := 2) (by decide) (.inr rfl)
  have htS := sing_ok (n := 3) (v := 0) (by decide) (by decide)
  have hx1 := fun b W (ho : SetArg W 2 (some ⟨b, 0, none⟩) (wordsN 2) (wordsN 2) (List.replicate (wordsN 2) (fullN 2))) => stext_any 2 (some ⟨b, 0, none⟩) (wordsN 2) (wordsN 2) (List.replicate (wordsN 2) (fullN 2)) W ho htA
  have hx2 := fun b W (ho : SetArg W 3 (some ⟨b, 0, none⟩) (wordsN 3) (wordsN 3) ((List.range (wordsN 3)).map (singW 3 0))) => stext_any 3 (some ⟨b, 0, none⟩) (wordsN 3) (wordsN 3) ((List.range (wordsN 3)).map (singW 3 0)) W ho htS
  rw [text_all2] at hx1
  rw [text_single] at hx2
  have HTX := Lib.hid hx1
  have HTX2 := Lib.hid hx2
  have HOA := Lib.hid (fun W W0 b (ho : OwnF U 86 W W0 (.slice (some ⟨b, 0, none⟩) (wordsN 2) (wordsN 2)) (List.replicate (wordsN 2) (fullN 2))) => own_arg (n := 2) ho htA.len htA.lt (by decide) (by decide))
  have HOA2 := Lib.hid (fun W W0 b (ho : OwnF U 86 W W0 (.slice (some ⟨b, 0, none⟩) (wordsN 3) (wordsN 3)) ((List.range (wordsN 3)).map (singW 3 0))) => own_arg (n := 3) ho htS.len htS.lt (by decide) (by decide))
  unfold SetRes2 setV setA txt at *
  rw [show wordsN 2 = 1 by decide] at *
  rw [show wordsN 3 = 1 by decide] at *
  generalize List.replicate 1 (fullN 2) = ws2 at *
  generalize (List.range 1).map (singW 3 0) = ws3 at *
  clear htA htS hx1 hx2
  go_enter Tryd.func11, Tryd.ntmps11
  go_wp2_with fail
  refine (HAL.out _).mono ?_
  rintro e w1 ⟨b, rfl, hb, hown, hl, hb1⟩
  have HO := Lib.hid (HOA.out _ _ b hown)
  have HB1 := Lib.hid hb1
  clear hown hb1 hb hl
  go_wp2_with fail
  refine (HSI.out _).mono ?_
  rintro e w2 ⟨b2, rfl, hb2, hown2, hl2, hbb2⟩
  have HO2 := Lib.hid (HOA2.out _ _ b2 hown2)
  have HO1 := Lib.hid ((HO.out.alloc _).on hbb2)
  have HK1 := Lib.hid ((Blk.new w1 24 #[.int .i64 2, .slice (some ⟨b, 0, none⟩) 1 1]).onB hbb2)
  have HB2 := Lib.hid ((below_new HB1.out (Nat.le_refl _) _).trans (hbb2.mono (below_new HB1.out (Nat.le_refl _) _).size))
  clear hown2 hb2 hl2 hbb2
  have k10 : w2.cell? ⟨w1.heap.size, 0, none⟩ = some (.int .i64 2) := HK1.out.cell 0
  have k11 : w2.cell? ⟨w1.heap.size, 1, none⟩ = some (.slice (some ⟨b, 0, none⟩) 1 1) := HK1.out.cell 1
  have hK1l := HK1.out.lt
  go_wp2_with fail
  refine (HTX.out _ _ (HO1.out.alloc _)).mono ?_
  rintro e w3 ⟨rfl, hb3⟩
  have HO3 := Lib.hid ((HO2.out.alloc _).on hb3)
  have HK3 := Lib.hid ((Blk.new w2 24 #[.int .i64 3, .slice (some ⟨b2, 0, none⟩) 1 1]).onB hb3)
  have HB3 := Lib.hid ((below_new HB2.out (Nat.le_refl _) _).trans (hb3.mono (below_new HB2.out (Nat.le_refl _) _).size))
  clear k10 k11 hK1l hb3
  have k10 : w3.cell? ⟨w2.heap.size, 0, none⟩ = some (.int .i64 3) := HK3.out.cell 0
  have k11 : w3.cell? ⟨w2.heap.size, 1, none⟩ = some (.slice (some ⟨b2, 0, none⟩) 1 1) := HK3.out.cell 1
  go_wp2_with fail
  refine (HTX2.out _ _ HO3.out).mono ?_
  rintro e w4 ⟨rfl, hb4⟩
  have HB4 := Lib.hid (HB3.out.trans (hb4.mono HB3.out.size))
  clear k10 k11 hb4
  go_wp2_with fail
  go_ret
  exact ⟨rfl, HB4.out⟩
end Go.Proofs.YtdhfpnbpkbelmaaDoor
