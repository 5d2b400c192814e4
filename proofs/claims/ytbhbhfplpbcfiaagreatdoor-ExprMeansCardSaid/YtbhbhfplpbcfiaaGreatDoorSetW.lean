/- Contract: set.with. -/
import Derived.Test.YtbhbhfplpbcfiaaGreatDoorMg
namespace Go.Proofs.YtbhbhfplpbcfiaaGreatDoor
open Go.RowKit Go.Sort
set_option linter.unusedSimpArgs false
set_option linter.unusedVariables false

set_option maxRecDepth 100000 in
set_option maxHeartbeats 8000000 in
theorem swith_big (n v : Nat) (hv : v < n) (one : Bool) (h6 : 6 ≤ v) (A : Option Addr) (len c : Nat) (ws : List Nat) (w : World) (h : SetArg w n A len c ws) (hok : SOk n ws) :
    Calls Tryz.prog 245 #[setA n A len c, .int .i64 (v : Nat), .bool one] w (SetRes w n ((List.range (wordsN n)).map (withW n v one ws))) := by
  have hn := hok.n16
  obtain rfl : len = wordsN n := by rw [← h.hlen, hok.len]
  have hm := wordsN_le hn
  have hm1 := wordsN_pos n
  have hc1 := h.hcap
  have hc2 := h.hmax
  unfold maxLen at hc2
  have HBL := Lib.hid (fun W => sblank_any n hn W)
  have HFU := Lib.hid (fun W => sfull_any n hn W)
  have HLT := Lib.hid (fun k => wat_lt hok.lt k)
  have hfl := fullN_lt n
  obtain ⟨g, hg⟩ : ∃ g : Nat → Nat, g = withW n v one ws := ⟨_, rfl⟩
  rw [← hg]
  obtain ⟨u, rfl⟩ := Nat.exists_eq_add_of_le' h6
  have hu : u < 63 := by omega
  have hpw := wrap64_pow u hu
  have hge : decide ((6 : Int) ≤ (u : Int) + 6) = true := decide_eq_true (by omega)
  have hpu : 2 ^ u < 9223372036854775808 := (show 2 ^ u < 2 ^ 63 from Nat.pow_lt_pow_right (by omega) hu)
  have HOR := Lib.hid (fun k (hk : k < wordsN n) => And.intro (i64_or_nat k (2 ^ u) (by omega) hpu) (set_lt (n := n) (u := u) (k := k) (by omega) hk hv))
  have HCL := Lib.hid (fun k (hk : k < wordsN n) => And.intro (i64_andNot_nat k (2 ^ u) (by omega) hpu) (show k &&& (18446744073709551615 - 2 ^ u) < wordsN n from clr_lt (u := u) hk))
  have HG : Hid (∀ k, g k = wat ws (if one then k ||| 2 ^ u else k &&& (18446744073709551615 - 2 ^ u))) := Lib.hid (fun k => by rw [hg]; unfold withW; rw [if_pos h6, Nat.add_sub_cancel]; rfl)
  generalize 2 ^ u = p at *
  have hv1 := SetVar.new h
  obtain ⟨b1, off1, rfl, hb1, hword1⟩ := h.word (w' := w) hm1
  have HW1 := Lib.hid hword1
  unfold SetRes setV setA U at *
  generalize fullN n = f at *
  generalize wordsN n = m at *
  obtain ⟨W, hW⟩ : ∃ W, W = (w.alloc (.cells #[.int .i64 (n : Nat), .slice (some ⟨b1, off1, none⟩) m c] 38)).alloc (.cells #[.int .i64 0, .slice none 0 0] 38) := ⟨_, rfl⟩
  have hbW : Below w.heap.size w W := by rw [hW]; exact ((Below.refl _ _).alloc (Nat.le_refl _) _).alloc (by simp) _
  have hV1 : Blk W w.heap.size 38 #[.int .i64 (n : Nat), .slice (some ⟨b1, off1, none⟩) m c] := by rw [hW]; exact hv1.blk.alloc _
  have hR : Blk W (w.heap.size + 1) 38 #[.int .i64 0, .slice none 0 0] := by
    rw [hW]
    have := Blk.new (w.alloc (.cells #[.int .i64 (n : Nat), .slice (some ⟨b1, off1, none⟩) m c] 38)) 38 #[.int .i64 0, .slice none 0 0]
    rwa [World.size_alloc] at this
  have hWs : W.heap.size = w.heap.size + 2 := by rw [hW]; simp
  have HWW := Lib.hid hW
  have HbW := Lib.hid hbW
  have HWS := Lib.hid hWs
  have V1 := Lib.hid hV1
  have HR := Lib.hid hR
  clear h hbW hword1 hWs hV1 hR hv1 hg hok
  have k10 : W.cell? ⟨w.heap.size, 0, none⟩ = some (.int .i64 (n : Nat)) := V1.out.cell 0
  go_enter Tryz.func245, Tryz.ntmps245
  go_wp2_with fail
  rw [← HWW.out]
  clear hW
  go_wp2_with fail
  refine (HBL.out _).mono ?_
  rintro e w2 ⟨b, rfl, hb, hown, hb2'⟩
  have hA := V1.out.onB hb2'
  have hR := HR.out.onB hb2'
  obtain ⟨V, hV⟩ : ∃ V, V = w2.alloc (.cells #[.int .i64 (n : Nat), .slice (some ⟨b, 0, none⟩) m m] 38) := ⟨_, rfl⟩
  have hblt := (hown.lt b rfl).2
  have S : Hid (Blk V w.heap.size 38 #[.int .i64 (n : Nat), .slice (some ⟨b1, off1, none⟩) m c] ∧ Blk V (w.heap.size + 1) 38 #[.int .i64 0, .slice none 0 0] ∧ Blk V w2.heap.size 38 #[.int .i64 (n : Nat), .slice (some ⟨b, 0, none⟩) m m] ∧ OwnF (fun x : Nat => .int .u64 (x : Int)) 141 V w.heap.size (.slice (some ⟨b, 0, none⟩) m m) (filled g m 0) ∧ Below w.heap.size w V) := Lib.hid (by
    rw [hV]
    refine ⟨hA.alloc _, hR.alloc _, Blk.new w2 _ _, ?_, ?_⟩
    · rw [filled_zero]
      exact (hown.mono (by have := HWS.out; omega)).alloc _
    · exact below_new (HbW.out.trans (hb2'.mono HbW.out.size)) (Nat.le_refl _) _)
  have HNE : Hid (w.heap.size + 2 ≤ b ∧ b < w2.heap.size) := Lib.hid ⟨by have := HWS.out; omega, hblt⟩
  have HVV := Lib.hid hV
  have HL2 := Lib.hid hb2'.size
  have k11 : w2.cell? ⟨w.heap.size, 1, none⟩ = some (.slice (some ⟨b1, off1, none⟩) m c) := hA.cell 1
  have hl3 : w.heap.size < w2.heap.size := by have := HWS.out; have := hb2'.size; omega
  clear hA hR hown hb2' hb hblt k10 V1 HR hV
  go_wp2_with fail
  rw [← HVV.out]
  have kO := S.out.2.2.1.cell 1
  go_wp2_with fail
  clear kO k11 hl3
  simp only [hpw, hge]
  go_loopw [25] (fun i wr => ∃ k : Nat, k ≤ m ∧ i = .int .i64 k ∧ Blk wr w.heap.size 38 #[.int .i64 (n : Nat), .slice (some ⟨b1, off1, none⟩) m c] ∧ Blk wr (w.heap.size + 1) 38 #[.int .i64 0, .slice none 0 0] ∧ Blk wr w2.heap.size 38 #[.int .i64 (n : Nat), .slice (some ⟨b, 0, none⟩) m m] ∧ OwnF (fun x : Nat => .int .u64 (x : Int)) 141 wr w.heap.size (.slice (some ⟨b, 0, none⟩) m m) (filled g m k) ∧ Below w.heap.size w wr) (fun i _ => m - (intOf i).toNat)
  case atStart => exact ⟨0, Nat.zero_le _, rfl, S.out⟩
  case round =>
    obtain ⟨k, hk, rfl, hA, hR, hO, hown, hbw⟩ := hrel
    have R := Lib.hid (And.intro hA (And.intro hR (And.intro hO (And.intro hown hbw))))
    by_cases hlt : k < m
    · have kO : wr.cell? ⟨w2.heap.size, 1, none⟩ = some (.slice (some ⟨b, 0, none⟩) m m) := hO.cell 1
      have kA0 : wr.cell? ⟨w.heap.size, 0, none⟩ = some (.int .i64 (n : Nat)) := hA.cell 0
      have kA1 : wr.cell? ⟨w.heap.size, 1, none⟩ = some (.slice (some ⟨b1, off1, none⟩) m c) := hA.cell 1
      obtain ⟨uo, kc, kz⟩ := own_cell hown k (by rw [filled_length]; exact hlt)
      have hgk := HG.out k
      cases one
      · obtain ⟨hop, hix⟩ := HCL.out k hlt
        simp only [Bool.false_eq_true, if_false, if_true] at hgk
        have v1 := HW1.out wr _ hbw hix
        rw [← hgk] at v1
        generalize k &&& (18446744073709551615 - p) = from1 at *
        have HGK := Lib.hid hgk
        clear hA hR hO hown hbw hgk
        go_wp2_with fail
        go_still_tail 9, (by kernel_rfl)
        go_wp2_with fail
        go_roundw
        case rel =>
          obtain ⟨hA, hR, hO, hown, hbw⟩ := R.out
          have hst := hown.set_ k (g k)
          rw [filled_set _ _ _ hlt] at hst
          exact ⟨k + 1, by omega, by go_num, hA.store (by have := HNE.out; omega) k _, hR.store (by have := HNE.out; omega) k _, hO.store (by have := HNE.out; omega) k _, hst, (hbw.setCell (p := ⟨b, k, none⟩) (by have := HNE.out; simp only; omega) _).drew⟩
        case measure => simp [intOf]; omega
      · obtain ⟨hop, hix⟩ := HOR.out k hlt
        simp only [Bool.false_eq_true, if_false, if_true] at hgk
        have v1 := HW1.out wr _ hbw hix
        rw [← hgk] at v1
        generalize k ||| p = from1 at *
        have HGK := Lib.hid hgk
        clear hA hR hO hown hbw hgk
        go_wp2_with fail
        go_still_tail 9, (by kernel_rfl)
        go_wp2_with fail
        go_roundw
        case rel =>
          obtain ⟨hA, hR, hO, hown, hbw⟩ := R.out
          have hst := hown.set_ k (g k)
          rw [filled_set _ _ _ hlt] at hst
          exact ⟨k + 1, by omega, by go_num, hA.store (by have := HNE.out; omega) k _, hR.store (by have := HNE.out; omega) k _, hO.store (by have := HNE.out; omega) k _, hst, (hbw.setCell (p := ⟨b, k, none⟩) (by have := HNE.out; simp only; omega) _).drew⟩
        case measure => simp [intOf]; omega
    · obtain rfl : k = m := by omega
      have kO0 : wr.cell? ⟨w2.heap.size, 0, none⟩ = some (.int .i64 (n : Nat)) := hO.cell 0
      have kO1 : wr.cell? ⟨w2.heap.size, 1, none⟩ = some (.slice (some ⟨b, 0, none⟩) k k) := hO.cell 1
      have kR0 : wr.cell? ⟨w.heap.size + 1, 0, none⟩ = some (.int .i64 0) := hR.cell 0
      have kR1 : wr.cell? ⟨w.heap.size + 1, 1, none⟩ = some (.slice none 0 0) := hR.cell 1
      have z0 := hR.frozen 0
      have z1 := hR.frozen 1
      clear hA hR hO hown hbw
      go_wp2_with fail
      refine bodyPost_ret (v := .agg #[.int .i64 (n : Nat), .slice (some ⟨b, 0, none⟩) k k]) ?_ rfl ⟨b, rfl, by have := HNE.out; omega, ?_, by simp, ?_⟩
      · simp [results, Tryz.results245, go_sem, *]
      · obtain ⟨hA, hR, hO, hown, hbw⟩ := R.out
        rw [filled_all] at hown
        exact (hown.set_below' (by have := HNE.out; simp only; omega) _).set_below' (by have := HNE.out; simp only; omega) _
      · obtain ⟨hA, hR, hO, hown, hbw⟩ := R.out
        exact (hbw.setCell (by simp only; omega) _).setCell (by simp only; omega) _
end Go.Proofs.YtbhbhfplpbcfiaaGreatDoor
