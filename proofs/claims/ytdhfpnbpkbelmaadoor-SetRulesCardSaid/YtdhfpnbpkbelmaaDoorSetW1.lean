/- Contract: set.with. -/
import Derived.Test.YtdhfpnbpkbelmaaDoorSetWp
namespace Go.Proofs.YtdhfpnbpkbelmaaDoor
open Go.RowKit Go.Sort
set_option linter.unusedSimpArgs false
set_option linter.unusedVariables false

set_option maxRecDepth 100000 in
set_option maxHeartbeats 8000000 in
theorem swith_one (n v : Nat) (hv : v < n) (h6 : ¬ 6 ≤ v) (A : Option Addr) (len c : Nat) (ws : List Nat) (w : World) (h : SetArg w n A len c ws) (hok : SOk n ws) :
    Calls Tryd.prog 55 #[setA n A len c, .int .i64 (v : Nat), .bool true] w (SetRes w n ((List.range (wordsN n)).map (withW n v true ws))) := by
  have hn := hok.n16
  obtain rfl : len = wordsN n := by rw [← h.hlen, hok.len]
  have hm := wordsN_le hn
  have hm1 := wordsN_pos n
  have hc1 := h.hcap
  have hc2 := h.hmax
  unfold maxLen at hc2
  have HBL := Lib.hid (fun W => sblank_any n hn W)
  have HFU := Lib.hid (fun W => sfull_any n hn W)
  have HLT := Lib.hid (fun k => wat_lt hok.lt k)
  have hfl := fullN_lt n
  obtain ⟨g, hg⟩ : ∃ g : Nat → Nat, g = withW n v true ws := ⟨_, rfl⟩
  rw [← hg]
  have HCO := Lib.hid (fun W => scolumn_any v (by omega) W)
  have hcl := col_lt v
  have hpv := u64_pow v (by omega)
  have hq : 2 ^ v < 64 := (show 2 ^ v < 2 ^ 6 from Nat.pow_lt_pow_right (by omega) (by omega))
  have HX1 := Lib.hid (fun k => u64_and_nat (wat ws k) (colN v) (wat_lt hok.lt k) hcl)
  have HX2 := Lib.hid (fun k => u64_or_nat (wat ws k &&& colN v) ((wat ws k &&& colN v) / 2 ^ 2 ^ v) (Nat.lt_of_le_of_lt Nat.and_le_left (wat_lt hok.lt k)) (Nat.lt_of_le_of_lt (Nat.div_le_self _ _) (Nat.lt_of_le_of_lt Nat.and_le_left (wat_lt hok.lt k))))
  have HG : Hid (∀ k, g k = (wat ws k &&& colN v) ||| (wat ws k &&& colN v) / 2 ^ 2 ^ v) := Lib.hid (fun k => by rw [hg]; unfold withW; rw [if_neg h6, if_pos rfl])
  generalize colN v = cl at *
  generalize 2 ^ v = q at *
  have hv1 := SetVar.new h
  obtain ⟨b1, off1, rfl, hb1, hword1⟩ := h.word (w' := w) hm1
  have HW1 := Lib.hid hword1
  unfold SetRes setV setA U at *
  generalize fullN n = f at *
  generalize wordsN n = m at *
  obtain ⟨W, hW⟩ : ∃ W, W = (w.alloc (.cells #[.int .i64 (n : Nat), .slice (some ⟨b1, off1, none⟩) m c] 24)).alloc (.cells #[.int .i64 0, .slice none 0 0] 24) := ⟨_, rfl⟩
  have hbW : Below w.heap.size w W := by rw [hW]; exact ((Below.refl _ _).alloc (Nat.le_refl _) _).alloc (by simp) _
  have hV1 : Blk W w.heap.size 24 #[.int .i64 (n : Nat), .slice (some ⟨b1, off1, none⟩) m c] := by rw [hW]; exact hv1.blk.alloc _
  have hR : Blk W (w.heap.size + 1) 24 #[.int .i64 0, .slice none 0 0] := by
    rw [hW]
    have := Blk.new (w.alloc (.cells #[.int .i64 (n : Nat), .slice (some ⟨b1, off1, none⟩) m c] 24)) 24 #[.int .i64 0, .slice none 0 0]
    rwa [World.size_alloc] at this
  have hWs : W.heap.size = w.heap.size + 2 := by rw [hW]; simp
  have HWW := Lib.hid hW
  have HbW := Lib.hid hbW
  have HWS := Lib.hid hWs
  have V1 := Lib.hid hV1
  have HR := Lib.hid hR
  clear h hbW hword1 hWs hV1 hR hv1 hg hok
  have k10 : W.cell? ⟨w.heap.size, 0, none⟩ = some (.int .i64 (n : Nat)) := V1.out.cell 0
  go_enter Tryd.func55, Tryd.ntmps55
  go_wp2_with fail
  rw [← HWW.out]
  clear hW
  go_wp2_with fail
  refine (HBL.out _).mono ?_
  rintro e w2 ⟨b, rfl, hb, hown, hb2'⟩
  have hA := V1.out.onB hb2'
  have hR := HR.out.onB hb2'
  obtain ⟨V, hV⟩ : ∃ V, V = w2.alloc (.cells #[.int .i64 (n : Nat), .slice (some ⟨b, 0, none⟩) m m] 24) := ⟨_, rfl⟩
  have hblt := (hown.lt b rfl).2
  have S : Hid (Blk V w.heap.size 24 #[.int .i64 (n : Nat), .slice (some ⟨b1, off1, none⟩) m c] ∧ Blk V (w.heap.size + 1) 24 #[.int .i64 0, .slice none 0 0] ∧ Blk V w2.heap.size 24 #[.int .i64 (n : Nat), .slice (some ⟨b, 0, none⟩) m m] ∧ OwnF (fun x : Nat => .int .u64 (x : Int)) 86 V w.heap.size (.slice (some ⟨b, 0, none⟩) m m) (filled g m 0) ∧ Below w.heap.size w V) := Lib.hid (by
    rw [hV]
    refine ⟨hA.alloc _, hR.alloc _, Blk.new w2 _ _, ?_, ?_⟩
    · rw [filled_zero]
      exact (hown.mono (by have := HWS.out; omega)).alloc _
    · exact below_new (HbW.out.trans (hb2'.mono HbW.out.size)) (Nat.le_refl _) _)
  have HNE : Hid (w.heap.size + 2 ≤ b ∧ b < w2.heap.size) := Lib.hid ⟨by have := HWS.out; omega, hblt⟩
  have HVV := Lib.hid hV
  have HL2 := Lib.hid hb2'.size
  have k11 : w2.cell? ⟨w.heap.size, 1, none⟩ = some (.slice (some ⟨b1, off1, none⟩) m c) := hA.cell 1
  have hl3 : w.heap.size < w2.heap.size := by have := HWS.out; have := hb2'.size; omega
  clear hA hR hown hb2' hb hblt k10 V1 HR hV
  go_wp2_with fail
  refine (HCO.out _).mono ?_
  rintro e w' ⟨rfl, rfl⟩
  go_wp2_with fail
  rw [← HVV.out]
  clear k11 hl3
  go_loopw [51] (fun i wr => ∃ k : Nat, k ≤ m ∧ i = .int .i64 k ∧ Blk wr w.heap.size 24 #[.int .i64 (n : Nat), .slice (some ⟨b1, off1, none⟩) m c] ∧ Blk wr (w.heap.size + 1) 24 #[.int .i64 0, .slice none 0 0] ∧ Blk wr w2.heap.size 24 #[.int .i64 (n : Nat), .slice (some ⟨b, 0, none⟩) m m] ∧ OwnF (fun x : Nat => .int .u64 (x : Int)) 86 wr w.heap.size (.slice (some ⟨b, 0, none⟩) m m) (filled g m k) ∧ Below w.heap.size w wr) (fun i _ => m - (intOf i).toNat)
  case atStart => exact ⟨0, Nat.zero_le _, rfl, S.out⟩
  case round =>
    obtain ⟨k, hk, rfl, hA, hR, hO, hown, hbw⟩ := hrel
    have R := Lib.hid (And.intro hA (And.intro hR (And.intro hO (And.intro hown hbw))))
    by_cases hlt : k < m
    · have kO : wr.cell? ⟨w2.heap.size, 1, none⟩ = some (.slice (some ⟨b, 0, none⟩) m m) := hO.cell 1
      have kA0 : wr.cell? ⟨w.heap.size, 0, none⟩ = some (.int .i64 (n : Nat)) := hA.cell 0
      have kA1 : wr.cell? ⟨w.heap.size, 1, none⟩ = some (.slice (some ⟨b1, off1, none⟩) m c) := hA.cell 1
      obtain ⟨uo, kc, kz⟩ := own_cell hown k (by rw [filled_length]; exact hlt)
      have hgk := HG.out k
      have v1 := HW1.out wr k hbw hlt
      have x1 := HX1.out k
      have x2 := HX2.out k
      rw [← hgk] at x2
      generalize wat ws k = a1 at *
      generalize a1 &&& cl = y1 at *
      have hsh : ((y1 : Int) / 2 ^ q) = ((y1 / 2 ^ q : Nat) : Int) := by simp
      generalize y1 / 2 ^ q = y2 at *
      clear hA hR hO hown hbw hgk
      go_wp2_with fail
      go_still_tail 10, (by kernel_rfl)
      go_wp2_with fail
      go_roundw
      case rel =>
        obtain ⟨hA, hR, hO, hown, hbw⟩ := R.out
        have hst := hown.set_ k (g k)
        rw [filled_set _ _ _ hlt] at hst
        exact ⟨k + 1, by omega, by go_num, hA.store (by have := HNE.out; omega) k _, hR.store (by have := HNE.out; omega) k _, hO.store (by have := HNE.out; omega) k _, hst, (hbw.setCell (p := ⟨b, k, none⟩) (by have := HNE.out; simp only; omega) _).drew⟩
      case measure => simp [intOf]; omega
    · obtain rfl : k = m := by omega
      have kO0 : wr.cell? ⟨w2.heap.size, 0, none⟩ = some (.int .i64 (n : Nat)) := hO.cell 0
      have kO1 : wr.cell? ⟨w2.heap.size, 1, none⟩ = some (.slice (some ⟨b, 0, none⟩) k k) := hO.cell 1
      have kR0 : wr.cell? ⟨w.heap.size + 1, 0, none⟩ = some (.int .i64 0) := hR.cell 0
      have kR1 : wr.cell? ⟨w.heap.size + 1, 1, none⟩ = some (.slice none 0 0) := hR.cell 1
      have z0 := hR.frozen 0
      have z1 := hR.frozen 1
      clear hA hR hO hown hbw
      go_wp2_with fail
      refine bodyPost_ret (v := .agg #[.int .i64 (n : Nat), .slice (some ⟨b, 0, none⟩) k k]) ?_ rfl ⟨b, rfl, by have := HNE.out; omega, ?_, by simp, ?_⟩
      · simp [results, Tryd.results55, go_sem, *]
      · obtain ⟨hA, hR, hO, hown, hbw⟩ := R.out
        rw [filled_all] at hown
        exact (hown.set_below' (by have := HNE.out; simp only; omega) _).set_below' (by have := HNE.out; simp only; omega) _
      · obtain ⟨hA, hR, hO, hown, hbw⟩ := R.out
        exact (hbw.setCell (by simp only; omega) _).setCell (by simp only; omega) _
end Go.Proofs.YtdhfpnbpkbelmaaDoor
