/- Contracts: set.not, Nothing, All. -/
import Derived.Test.YtdhfpnbpkbelmaaDoorSetR
namespace Go.Proofs.YtdhfpnbpkbelmaaDoor
open Go.RowKit Go.Sort
set_option linter.unusedSimpArgs false
set_option linter.unusedVariables false

/-- a set as a result: its words in new memory -/
def SetRes (w : World) (n : Nat) (ws : List Nat) (e : Ending) (w' : World) : Prop :=
  ∃ b, e = .returned (setV n b (wordsN n)) ∧ w.heap.size ≤ b ∧ OwnF U 86 w' w.heap.size (.slice (some ⟨b, 0, none⟩) (wordsN n) (wordsN n)) ws ∧ ws.length = wordsN n ∧ Below w.heap.size w w'
theorem not_u64 (v : Nat) (hv : v < 18446744073709551616) : bits .xor .u64 (if IntKind.u64.signed = true then -1 else IntKind.u64.max) (v : Int) = ((18446744073709551615 - v : Nat) : Int) := by
  rw [show (if IntKind.u64.signed = true then (-1 : Int) else IntKind.u64.max) = ((18446744073709551615 : Nat) : Int) from by decide, u64_xor_nat _ _ (by omega) hv]
  congr 1
  apply Nat.eq_of_testBit_eq
  intro j
  have h := Nat.testBit_two_pow_sub_succ (x := v) (n := 64) hv j
  rw [show 2 ^ 64 - (v + 1) = 18446744073709551615 - v by omega] at h
  rw [h, Nat.testBit_xor, show (18446744073709551615 : Nat) = 2 ^ 64 - 1 from rfl, Nat.testBit_two_pow_sub_one]
  by_cases hj : j < 64
  · rw [decide_eq_true hj]; simp
  · rw [decide_eq_false hj, Nat.testBit_lt_two_pow (Nat.lt_of_lt_of_le hv (show 18446744073709551616 ≤ 2 ^ j from (show 2 ^ 64 ≤ 2 ^ j from Nat.pow_le_pow_right (by omega) (by omega))))]; rfl
theorem Blk.store {w : World} {g : Nat} {t : TypeId} {cs : Array Value} (h : Blk w g t cs) {b : Nat} (hb : g ≠ b) (k : Nat) (u : Value) : Blk (w.setCell ⟨b, k, none⟩ u) g t cs := h.far (p := ⟨b, k, none⟩) hb u
set_option maxRecDepth 100000 in
set_option maxHeartbeats 4000000 in
theorem snot_any (n : Nat) (hn : n ≤ 16) (A : Option Addr) (c : Nat) (ws : List Nat) (w : World) (h : SetArg w n A (wordsN n) c ws) :
    Calls Tryd.prog 88 #[setA n A (wordsN n) c] w (SetRes w n ((List.range (wordsN n)).map fun k => (18446744073709551615 - wat ws k) &&& fullN n)) := by
  have hm := wordsN_le hn
  have hm1 := wordsN_pos n
  have hc1 := h.hcap
  have hc2 := h.hmax
  unfold maxLen at hc2
  obtain ⟨b0, off, rfl, hb0, hcell⟩ := h.row (by rw [h.hlen]; omega)
  have HBL := Lib.hid (fun W => sblank_any n hn W)
  have HFU := Lib.hid (fun W => sfull_any n hn W)
  have HLEN := Lib.hid h.hlen
  have HLT := Lib.hid h.lt
  have HCELL : Hid (∀ j, j < ws.length → w.cell? ⟨b0, off + j, none⟩ = some (U (wat ws j))) := Lib.hid hcell
  have HFL := Lib.hid (fullN_lt n)
  unfold SetRes setV setA at *
  generalize fullN n = f at *
  generalize wordsN n = m at *
  obtain ⟨W, hW⟩ : ∃ W, W = (w.alloc (.cells #[.int .i64 (n : Nat), .slice (some ⟨b0, off, none⟩) m c] 24)).alloc (.cells #[.int .i64 0, .slice none 0 0] 24) := ⟨_, rfl⟩
  have hbW : Below w.heap.size w W := by rw [hW]; exact ((Below.refl _ _).alloc (Nat.le_refl _) _).alloc (by simp) _
  have HB0 : Hid (Blk W w.heap.size 24 #[.int .i64 (n : Nat), .slice (some ⟨b0, off, none⟩) m c]) := Lib.hid (by rw [hW]; exact (Blk.new w _ _).alloc _)
  have HB1 : Hid (Blk W (w.heap.size + 1) 24 #[.int .i64 0, .slice none 0 0]) := Lib.hid (by
    rw [hW]
    have := Blk.new (w.alloc (.cells #[.int .i64 (n : Nat), .slice (some ⟨b0, off, none⟩) m c] 24)) 24 #[.int .i64 0, .slice none 0 0]
    rwa [World.size_alloc] at this)
  have hWs : W.heap.size = w.heap.size + 2 := by rw [hW]; simp
  have HWW := Lib.hid hW
  have HbW := Lib.hid hbW
  have HWS := Lib.hid hWs
  clear h hbW hcell hWs
  go_enter Tryd.func88, Tryd.ntmps88
  go_wp2_with fail
  rw [← HWW.out]
  clear hW
  have k0 : W.cell? ⟨w.heap.size, 0, none⟩ = some (.int .i64 (n : Nat)) := HB0.out.cell 0
  go_wp2_with fail
  refine (HBL.out _).mono ?_
  rintro e w1 ⟨b, rfl, hb, hown, hb1⟩
  clear k0
  obtain ⟨V, hV⟩ : ∃ V, V = w1.alloc (.cells #[.int .i64 (n : Nat), .slice (some ⟨b, 0, none⟩) m m] 24) := ⟨_, rfl⟩
  have hbV : Below W.heap.size W V := by rw [hV]; exact hb1.alloc hb1.size _
  have hA := HB0.out.chg (F := []) (chg_of_below hbV) (by simp)
  have hR := HB1.out.chg (F := []) (chg_of_below hbV) (by simp)
  have hO : Blk V w1.heap.size 24 #[.int .i64 (n : Nat), .slice (some ⟨b, 0, none⟩) m m] := by rw [hV]; exact Blk.new w1 _ _
  have hown' : OwnF U 86 V w.heap.size (.slice (some ⟨b, 0, none⟩) m m) (filled (fun k => (18446744073709551615 - wat ws k) &&& f) m 0) := by
    rw [filled_zero, hV]
    exact (hown.mono (by have := HWS.out; omega)).alloc _
  have hblt : b < w1.heap.size := (hown.lt b rfl).2
  have hbV' : Below w.heap.size w V := HbW.out.trans (hbV.mono HbW.out.size)
  have HVV := Lib.hid hV
  have HNE : Hid (w.heap.size + 2 ≤ b ∧ b < w1.heap.size) := Lib.hid ⟨by have := HWS.out; omega, hblt⟩
  have ka : w1.cell? ⟨w.heap.size, 1, none⟩ = some (.slice (some ⟨b0, off, none⟩) m c) := (HB0.out.chg (F := []) (chg_of_below hb1) (by simp)).cell 1
  have hl1 : w.heap.size < w1.heap.size := by have := HWS.out; omega
  have S := Lib.hid (And.intro hA (And.intro hR (And.intro hO (And.intro hown' hbV'))))
  clear hbV hA hR hO hown hown' hblt hbV' hb1 hb
  clear hV
  go_wp2_with fail
  rw [← HVV.out]
  clear ka hl1
  go_loopw [12] (fun i wr => ∃ k : Nat, k ≤ m ∧ i = .int .i64 k ∧ Blk wr w.heap.size 24 #[.int .i64 (n : Nat), .slice (some ⟨b0, off, none⟩) m c] ∧ Blk wr (w.heap.size + 1) 24 #[.int .i64 0, .slice none 0 0] ∧ Blk wr w1.heap.size 24 #[.int .i64 (n : Nat), .slice (some ⟨b, 0, none⟩) m m] ∧
    OwnF U 86 wr w.heap.size (.slice (some ⟨b, 0, none⟩) m m) (filled (fun k => (18446744073709551615 - wat ws k) &&& f) m k) ∧ Below w.heap.size w wr) (fun i _ => m - (intOf i).toNat)
  case atStart => exact ⟨0, Nat.zero_le _, rfl, S.out.1, S.out.2.1, S.out.2.2.1, S.out.2.2.2.1, S.out.2.2.2.2⟩
  case round =>
    obtain ⟨k, hk, rfl, hA, hR, hO, hown, hbw⟩ := hrel
    have R := Lib.hid (And.intro hA (And.intro hR (And.intro hO (And.intro hown hbw))))
    by_cases hlt : k < m
    · have hv : wr.cell? ⟨b0, off + k, none⟩ = some (.int .u64 (wat ws k : Nat)) := (hbw.cell (p := ⟨b0, off + k, none⟩) hb0).trans (HCELL.out k (by rw [HLEN.out]; exact hlt))
      have kO : wr.cell? ⟨w1.heap.size, 1, none⟩ = some (.slice (some ⟨b, 0, none⟩) m m) := hO.cell 1
      have kA : wr.cell? ⟨w.heap.size, 0, none⟩ = some (.int .i64 (n : Nat)) := hA.cell 0
      have hat := hown.at_ k (by rw [filled_length]; exact hlt)
      rw [filled_at _ _ _ _ hlt] at hat
      have kc : wr.cell? ⟨b, k, none⟩ = some (U (if k < k then (18446744073709551615 - wat ws k) &&& f else 0)) := hat.1
      have kz : wr.frozen? ⟨b, k, none⟩ = false := hat.2
      have hwl := wat_lt HLT.out k
      clear hA hR hO hown hbw hat
      go_wp2_with fail
      go_still_tail 10, (by kernel_rfl)
      still_call ((HFU.out _).mono fun _ _ ⟨a, b⟩ => ⟨a, b.symm⟩)
      unfold U
      repeat still_step
      refine wpStill_nil ?_
      go_wp2_with fail
      rw [not_u64 _ hwl, u64_and_nat _ _ (by omega) HFL.out]
      go_roundw
      case rel =>
        obtain ⟨hA, hR, hO, hown, hbw⟩ := R.out
        have hst := hown.set_ k ((18446744073709551615 - wat ws k) &&& f)
        rw [filled_set _ _ _ hlt] at hst
        exact ⟨k + 1, by omega, by go_num, hA.store (by have := HNE.out; omega) k _, hR.store (by have := HNE.out; omega) k _, hO.store (by have := HNE.out; omega) k _, hst, (hbw.setCell (p := ⟨b, k, none⟩) (by have := HNE.out; simp only; omega) _).drew⟩
      case measure => simp [intOf]; omega
    · obtain rfl : k = m := by omega
      have kO0 : wr.cell? ⟨w1.heap.size, 0, none⟩ = some (.int .i64 (n : Nat)) := hO.cell 0
      have kO1 : wr.cell? ⟨w1.heap.size, 1, none⟩ = some (.slice (some ⟨b, 0, none⟩) k k) := hO.cell 1
      have kR0 : wr.cell? ⟨w.heap.size + 1, 0, none⟩ = some (.int .i64 0) := hR.cell 0
      have kR1 : wr.cell? ⟨w.heap.size + 1, 1, none⟩ = some (.slice none 0 0) := hR.cell 1
      have z0 := hR.frozen 0
      have z1 := hR.frozen 1
      clear hA hR hO hown hbw
      go_wp2_with fail
      refine bodyPost_ret (v := .agg #[.int .i64 (n : Nat), .slice (some ⟨b, 0, none⟩) k k]) ?_ rfl ⟨b, rfl, by have := HNE.out; omega, ?_, by simp, ?_⟩
      · simp [results, Tryd.results88, go_sem, *]
      · obtain ⟨hA, hR, hO, hown, hbw⟩ := R.out
        rw [filled_all] at hown
        exact (hown.set_below' (by have := HNE.out; simp only; omega) _).set_below' (by have := HNE.out; simp only; omega) _
      · obtain ⟨hA, hR, hO, hown, hbw⟩ := R.out
        exact (hbw.setCell (by simp only; omega) _).setCell (by simp only; omega) _
end Go.Proofs.YtdhfpnbpkbelmaaDoor
