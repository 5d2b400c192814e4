/- Contract: set.ite. -/
import Derived.Test.YtdhfpnbpkbelmaaDoorSetPc
namespace Go.Proofs.YtdhfpnbpkbelmaaDoor
open Go.RowKit Go.Sort
set_option linter.unusedSimpArgs false
set_option linter.unusedVariables false

def iteW (a b c : Nat) : Nat := (a &&& b) ||| (c &&& (18446744073709551615 - a))
theorem iteW_lt {a b c : Nat} (ha : a < 18446744073709551616) (hc : c < 18446744073709551616) : iteW a b c < 18446744073709551616 :=
  Nat.or_lt_two_pow (n := 64) (Nat.lt_of_le_of_lt Nat.and_le_left ha) (Nat.lt_of_le_of_lt Nat.and_le_left hc)
theorem iteW_bit {a b c j : Nat} (ha : a < 18446744073709551616) (hj : j < 64) : (iteW a b c).testBit j = if a.testBit j then b.testBit j else c.testBit j := by
  unfold iteW
  rw [Nat.testBit_or, Nat.testBit_and, Nat.testBit_and, not_bit ha hj]
  cases a.testBit j <;> simp
set_option maxRecDepth 100000 in
set_option maxHeartbeats 8000000 in
theorem site_any (n : Nat) (A1 A2 A3 : Option Addr) (l1 l2 l3 c1 c2 c3 : Nat) (ws1 ws2 ws3 : List Nat) (w : World) (h1 : SetArg w n A1 l1 c1 ws1) (h2 : SetArg w n A2 l2 c2 ws2) (h3 : SetArg w n A3 l3 c3 ws3) (ok1 : SOk n ws1) (ok2 : SOk n ws2) (ok3 : SOk n ws3) :
    Calls Tryd.prog 57 #[setA n A1 l1 c1, setA n A2 l2 c2, setA n A3 l3 c3] w (SetRes w n ((List.range (wordsN n)).map fun k => iteW (wat ws1 k) (wat ws2 k) (wat ws3 k))) := by
  have hn := ok1.n16
  obtain rfl : l1 = wordsN n := by rw [← h1.hlen, ok1.len]
  obtain rfl : l2 = wordsN n := by rw [← h2.hlen, ok2.len]
  obtain rfl : l3 = wordsN n := by rw [← h3.hlen, ok3.len]
  have hm := wordsN_le hn
  have hm1 := wordsN_pos n
  have hc1 := h1.hcap
  have hd1 := h1.hmax
  have hc2 := h2.hcap
  have hd2 := h2.hmax
  have hc3 := h3.hcap
  have hd3 := h3.hmax
  unfold maxLen at hd1 hd2 hd3
  have HBL := Lib.hid (fun W => sblank_any n hn W)
  have hlt1 := fun k => wat_lt ok1.lt k
  have hlt2 := fun k => wat_lt ok2.lt k
  have hlt3 := fun k => wat_lt ok3.lt k
  have HX1 := Lib.hid (fun k => u64_and_nat (wat ws1 k) (wat ws2 k) (hlt1 k) (hlt2 k))
  have HX2 := Lib.hid (fun k => u64_andNot_nat (wat ws3 k) (wat ws1 k) (hlt3 k) (hlt1 k))
  have HX3 := Lib.hid (fun k => u64_or_nat (wat ws1 k &&& wat ws2 k) (wat ws3 k &&& (18446744073709551615 - wat ws1 k)) (Nat.lt_of_le_of_lt Nat.and_le_left (hlt1 k)) (Nat.lt_of_le_of_lt Nat.and_le_left (hlt3 k)))
  obtain ⟨g, hg⟩ : ∃ g : Nat → Nat, g = fun k => iteW (wat ws1 k) (wat ws2 k) (wat ws3 k) := ⟨_, rfl⟩
  rw [← hg]
  have HG : Hid (∀ k, g k = (wat ws1 k &&& wat ws2 k) ||| (wat ws3 k &&& (18446744073709551615 - wat ws1 k))) := Lib.hid (fun k => congrFun hg k)
  have hv1 := SetVar.new h1
  have hv2 := SetVar.new (h2.alloc (.cells #[.int .i64 (n : Nat), .slice A1 (wordsN n) c1] 24))
  have hv3 := SetVar.new ((h3.alloc (.cells #[.int .i64 (n : Nat), .slice A1 (wordsN n) c1] 24)).alloc (.cells #[.int .i64 (n : Nat), .slice A2 (wordsN n) c2] 24))
  simp only [World.size_alloc] at hv2 hv3
  obtain ⟨b1, off1, rfl, hb1, hword1⟩ := h1.word (w' := w) hm1
  obtain ⟨b2, off2, rfl, hb2, hword2⟩ := h2.word (w' := w) hm1
  obtain ⟨b3, off3, rfl, hb3, hword3⟩ := h3.word (w' := w) hm1
  have HW1 := Lib.hid hword1
  have HW2 := Lib.hid hword2
  have HW3 := Lib.hid hword3
  unfold SetRes setV setA U at *
  generalize wordsN n = m at *
  obtain ⟨W, hW⟩ : ∃ W, W = (((w.alloc (.cells #[.int .i64 (n : Nat), .slice (some ⟨b1, off1, none⟩) m c1] 24)).alloc (.cells #[.int .i64 (n : Nat), .slice (some ⟨b2, off2, none⟩) m c2] 24)).alloc (.cells #[.int .i64 (n : Nat), .slice (some ⟨b3, off3, none⟩) m c3] 24)).alloc (.cells #[.int .i64 0, .slice none 0 0] 24) := ⟨_, rfl⟩
  have hbW : Below w.heap.size w W := by rw [hW]; exact ((((Below.refl _ _).alloc (Nat.le_refl _) _).alloc (by simp) _).alloc (by simp; omega) _).alloc (by simp; omega) _
  have hV1 : Blk W w.heap.size 24 #[.int .i64 (n : Nat), .slice (some ⟨b1, off1, none⟩) m c1] := by rw [hW]; exact ((hv1.blk.alloc _).alloc _).alloc _
  have hV2 : Blk W (w.heap.size + 1) 24 #[.int .i64 (n : Nat), .slice (some ⟨b2, off2, none⟩) m c2] := by rw [hW]; exact (hv2.blk.alloc _).alloc _
  have hV3 : Blk W (w.heap.size + 2) 24 #[.int .i64 (n : Nat), .slice (some ⟨b3, off3, none⟩) m c3] := by rw [hW]; exact hv3.blk.alloc _
  have hR : Blk W (w.heap.size + 3) 24 #[.int .i64 0, .slice none 0 0] := by
    rw [hW]
    have := Blk.new (((w.alloc (.cells #[.int .i64 (n : Nat), .slice (some ⟨b1, off1, none⟩) m c1] 24)).alloc (.cells #[.int .i64 (n : Nat), .slice (some ⟨b2, off2, none⟩) m c2] 24)).alloc (.cells #[.int .i64 (n : Nat), .slice (some ⟨b3, off3, none⟩) m c3] 24)) 24 #[.int .i64 0, .slice none 0 0]
    simpa only [World.size_alloc] using this
  have hWs : W.heap.size = w.heap.size + 4 := by rw [hW]; simp
  have HWW := Lib.hid hW
  have HbW := Lib.hid hbW
  have HWS := Lib.hid hWs
  have V1 := Lib.hid hV1
  have V2 := Lib.hid hV2
  have V3 := Lib.hid hV3
  have HR := Lib.hid hR
  clear h1 h2 h3 hbW hword1 hword2 hword3 hWs hV1 hV2 hV3 hR hv1 hv2 hv3 hg ok1 ok2 ok3 hlt1 hlt2 hlt3
  have k10 : W.cell? ⟨w.heap.size, 0, none⟩ = some (.int .i64 (n : Nat)) := V1.out.cell 0
  go_enter Tryd.func57, Tryd.ntmps57
  go_wp2_with fail
  rw [← HWW.out]
  clear hW
  go_wp2_with fail
  refine (HBL.out _).mono ?_
  rintro e w2 ⟨b, rfl, hb, hown, hb2'⟩
  have hA := V1.out.onB hb2'
  have hB := V2.out.onB hb2'
  have hC := V3.out.onB hb2'
  have hR := HR.out.onB hb2'
  obtain ⟨V, hV⟩ : ∃ V, V = w2.alloc (.cells #[.int .i64 (n : Nat), .slice (some ⟨b, 0, none⟩) m m] 24) := ⟨_, rfl⟩
  have hblt := (hown.lt b rfl).2
  have S : Hid (Blk V w.heap.size 24 #[.int .i64 (n : Nat), .slice (some ⟨b1, off1, none⟩) m c1] ∧ Blk V (w.heap.size + 1) 24 #[.int .i64 (n : Nat), .slice (some ⟨b2, off2, none⟩) m c2] ∧ Blk V (w.heap.size + 2) 24 #[.int .i64 (n : Nat), .slice (some ⟨b3, off3, none⟩) m c3] ∧ Blk V (w.heap.size + 3) 24 #[.int .i64 0, .slice none 0 0] ∧ Blk V w2.heap.size 24 #[.int .i64 (n : Nat), .slice (some ⟨b, 0, none⟩) m m] ∧
      OwnF (fun x : Nat => .int .u64 (x : Int)) 86 V w.heap.size (.slice (some ⟨b, 0, none⟩) m m) (filled g m 0) ∧ Below w.heap.size w V) := Lib.hid (by
    rw [hV]
    refine ⟨hA.alloc _, hB.alloc _, hC.alloc _, hR.alloc _, Blk.new w2 _ _, ?_, ?_⟩
    · rw [filled_zero]
      exact (hown.mono (by have := HWS.out; omega)).alloc _
    · exact below_new (HbW.out.trans (hb2'.mono HbW.out.size)) (Nat.le_refl _) _)
  have HNE : Hid (w.heap.size + 4 ≤ b ∧ b < w2.heap.size) := Lib.hid ⟨by have := HWS.out; omega, hblt⟩
  have HVV := Lib.hid hV
  have hl2 : W.heap.size ≤ w2.heap.size := hb2'.size
  have HL2 := Lib.hid hl2
  have k11 : w2.cell? ⟨w.heap.size, 1, none⟩ = some (.slice (some ⟨b1, off1, none⟩) m c1) := hA.cell 1
  have hl3 : w.heap.size < w2.heap.size := by have := HWS.out; omega
  clear hA hB hC hR hown hb2' hb hblt k10 V1 V2 V3 HR hl2 hV
  go_wp2_with fail
  rw [← HVV.out]
  clear k11 hl3
  go_loopw [16] (fun i wr => ∃ k : Nat, k ≤ m ∧ i = .int .i64 k ∧ Blk wr w.heap.size 24 #[.int .i64 (n : Nat), .slice (some ⟨b1, off1, none⟩) m c1] ∧ Blk wr (w.heap.size + 1) 24 #[.int .i64 (n : Nat), .slice (some ⟨b2, off2, none⟩) m c2] ∧ Blk wr (w.heap.size + 2) 24 #[.int .i64 (n : Nat), .slice (some ⟨b3, off3, none⟩) m c3] ∧ Blk wr (w.heap.size + 3) 24 #[.int .i64 0, .slice none 0 0] ∧ Blk wr w2.heap.size 24 #[.int .i64 (n : Nat), .slice (some ⟨b, 0, none⟩) m m] ∧
      OwnF (fun x : Nat => .int .u64 (x : Int)) 86 wr w.heap.size (.slice (some ⟨b, 0, none⟩) m m) (filled g m k) ∧ Below w.heap.size w wr) (fun i _ => m - (intOf i).toNat)
  case atStart => exact ⟨0, Nat.zero_le _, rfl, S.out⟩
  case round =>
    obtain ⟨k, hk, rfl, hA, hB, hC, hR, hO, hown, hbw⟩ := hrel
    have R := Lib.hid (And.intro hA (And.intro hB (And.intro hC (And.intro hR (And.intro hO (And.intro hown hbw))))))
    by_cases hlt : k < m
    · have v1 := HW1.out wr k hbw hlt
      have v2 := HW2.out wr k hbw hlt
      have v3 := HW3.out wr k hbw hlt
      have kO : wr.cell? ⟨w2.heap.size, 1, none⟩ = some (.slice (some ⟨b, 0, none⟩) m m) := hO.cell 1
      have kB : wr.cell? ⟨w.heap.size + 1, 1, none⟩ = some (.slice (some ⟨b2, off2, none⟩) m c2) := hB.cell 1
      have kC : wr.cell? ⟨w.heap.size + 2, 1, none⟩ = some (.slice (some ⟨b3, off3, none⟩) m c3) := hC.cell 1
      obtain ⟨uo, kc, kz⟩ := own_cell hown k (by rw [filled_length]; exact hlt)
      have x1 := HX1.out k
      have x2 := HX2.out k
      have x3 := HX3.out k
      rw [← HG.out k] at x3
      generalize wat ws1 k &&& wat ws2 k = y1 at *
      generalize wat ws3 k &&& (18446744073709551615 - wat ws1 k) = y2 at *
      generalize wat ws1 k = a1 at *
      generalize wat ws2 k = a2 at *
      generalize wat ws3 k = a3 at *
      clear hA hB hC hR hO hown hbw
      go_wp2_with fail
      go_still_tail 19, (by kernel_rfl)
      go_wp2_with fail
      go_roundw
      case rel =>
        obtain ⟨hA, hB, hC, hR, hO, hown, hbw⟩ := R.out
        have hst := hown.set_ k (g k)
        rw [filled_set _ _ _ hlt] at hst
        exact ⟨k + 1, by omega, by go_num, hA.store (by have := HNE.out; omega) k _, hB.store (by have := HNE.out; omega) k _, hC.store (by have := HNE.out; omega) k _, hR.store (by have := HNE.out; omega) k _, hO.store (by have := HNE.out; omega) k _, hst, (hbw.setCell (p := ⟨b, k, none⟩) (by have := HNE.out; simp only; omega) _).drew⟩
      case measure => simp [intOf]; omega
    · obtain rfl : k = m := by omega
      have kO0 : wr.cell? ⟨w2.heap.size, 0, none⟩ = some (.int .i64 (n : Nat)) := hO.cell 0
      have kO1 : wr.cell? ⟨w2.heap.size, 1, none⟩ = some (.slice (some ⟨b, 0, none⟩) k k) := hO.cell 1
      have kR0 : wr.cell? ⟨w.heap.size + 3, 0, none⟩ = some (.int .i64 0) := hR.cell 0
      have kR1 : wr.cell? ⟨w.heap.size + 3, 1, none⟩ = some (.slice none 0 0) := hR.cell 1
      have z0 := hR.frozen 0
      have z1 := hR.frozen 1
      clear hA hB hC hR hO hown hbw
      go_wp2_with fail
      refine bodyPost_ret (v := .agg #[.int .i64 (n : Nat), .slice (some ⟨b, 0, none⟩) k k]) ?_ rfl ⟨b, rfl, by have := HNE.out; omega, ?_, by simp, ?_⟩
      · simp [results, Tryd.results57, go_sem, *]
      · obtain ⟨hA, hB, hC, hR, hO, hown, hbw⟩ := R.out
        rw [filled_all] at hown
        exact (hown.set_below' (by have := HNE.out; simp only; omega) _).set_below' (by have := HNE.out; simp only; omega) _
      · obtain ⟨hA, hB, hC, hR, hO, hown, hbw⟩ := R.out
        exact (hbw.setCell (by simp only; omega) _).setCell (by simp only; omega) _
end Go.Proofs.YtdhfpnbpkbelmaaDoor
