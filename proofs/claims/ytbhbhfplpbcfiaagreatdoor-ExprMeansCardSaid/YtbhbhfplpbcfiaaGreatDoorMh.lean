/- Contract: set.with. Contract: set.with. Contracts: set.asked, With (exported). Contracts: set.Compose. Contracts: set.quantified, Exists, Forall. Contracts: the document's With, Compose, Exists. Contracts: the document's Exists. -/
import Derived.Test.YtbhbhfplpbcfiaaGreatDoorMg
import Derived.Test.YtbhbhfplpbcfiaaGreatDoorSetW
import Derived.Deep.DeepCutAuto
import Derived.Deep.RegionWith
section
namespace Go.Proofs.YtbhbhfplpbcfiaaGreatDoor
open Go.RowKit Go.Sort
set_option linter.unusedSimpArgs false
set_option linter.unusedVariables false

set_option maxRecDepth 100000 in
set_option maxHeartbeats 8000000 in
theorem swith_zero (n v : Nat) (hv : v < n) (h6 : ¬ 6 ≤ v) (A : Option Addr) (len c : Nat) (ws : List Nat) (w : World) (h : SetArg w n A len c ws) (hok : SOk n ws) :
    Calls Tryz.prog 245 #[setA n A len c, .int .i64 (v : Nat), .bool false] w (SetRes w n ((List.range (wordsN n)).map (withW n v false ws))) := by
  have hn := hok.n16
  obtain rfl : len = wordsN n := by rw [← h.hlen, hok.len]
  have hm := wordsN_le hn
  have hm1 := wordsN_pos n
  have hc1 := h.hcap
  have hc2 := h.hmax
  unfold maxLen at hc2
  have HBL := Lib.hid (fun W => sblank_any n hn W)
  have HFU := Lib.hid (fun W => sfull_any n hn W)
  have HLT := Lib.hid (fun k => wat_lt hok.lt k)
  have hfl := fullN_lt n
  obtain ⟨g, hg⟩ : ∃ g : Nat → Nat, g = withW n v false ws := ⟨_, rfl⟩
  rw [← hg]
  have HCO := Lib.hid (fun W => scolumn_any v (by omega) W)
  have hcl := col_lt v
  have hpv := u64_pow v (by omega)
  have hq : 2 ^ v < 64 := (show 2 ^ v < 2 ^ 6 from Nat.pow_lt_pow_right (by omega) (by omega))
  have HX1 := Lib.hid (fun k => u64_andNot_nat (wat ws k) (colN v) (wat_lt hok.lt k) hcl)
  have HX2 := Lib.hid (fun k => u64_or_nat (wat ws k &&& (18446744073709551615 - colN v)) ((wat ws k &&& (18446744073709551615 - colN v)) * 2 ^ 2 ^ v % 18446744073709551616) (Nat.lt_of_le_of_lt Nat.and_le_left (wat_lt hok.lt k)) (Nat.mod_lt _ (by omega)))
  have HX3 := Lib.hid (fun k => u64_and_nat ((wat ws k &&& (18446744073709551615 - colN v)) ||| (wat ws k &&& (18446744073709551615 - colN v)) * 2 ^ 2 ^ v % 18446744073709551616) (fullN n) (Nat.or_lt_two_pow (n := 64) (Nat.lt_of_le_of_lt Nat.and_le_left (wat_lt hok.lt k)) (Nat.mod_lt _ (by omega))) hfl)
  have HG : Hid (∀ k, g k = ((wat ws k &&& (18446744073709551615 - colN v)) ||| (wat ws k &&& (18446744073709551615 - colN v)) * 2 ^ 2 ^ v % 18446744073709551616) &&& fullN n) := Lib.hid (fun k => by rw [hg]; unfold withW; rw [if_neg h6, if_neg (by decide)])
  generalize colN v = cl at *
  generalize 2 ^ v = q at *
  have hv1 := SetVar.new h
  obtain ⟨b1, off1, rfl, hb1, hword1⟩ := h.word (w' := w) hm1
  have HW1 := Lib.hid hword1
  unfold SetRes setV setA U at *
  generalize fullN n = f at *
  generalize wordsN n = m at *
  obtain ⟨W, hW⟩ : ∃ W, W = (w.alloc (.cells #[.int .i64 (n : Nat), .slice (some ⟨b1, off1, none⟩) m c] 38)).alloc (.cells #[.int .i64 0, .slice none 0 0] 38) := ⟨_, rfl⟩
  have hbW : Below w.heap.size w W := by rw [hW]; exact ((Below.refl _ _).alloc (Nat.le_refl _) _).alloc (by simp) _
  have hV1 : Blk W w.heap.size 38 #[.int .i64 (n : Nat), .slice (some ⟨b1, off1, none⟩) m c] := by rw [hW]; exact hv1.blk.alloc _
  have hR : Blk W (w.heap.size + 1) 38 #[.int .i64 0, .slice none 0 0] := by
    rw [hW]
    have := Blk.new (w.alloc (.cells #[.int .i64 (n : Nat), .slice (some ⟨b1, off1, none⟩) m c] 38)) 38 #[.int .i64 0, .slice none 0 0]
    rwa [World.size_alloc] at this
  have hWs : W.heap.size = w.heap.size + 2 := by rw [hW]; simp
  have HWW := Lib.hid hW
  have HbW := Lib.hid hbW
  have HWS := Lib.hid hWs
  have V1 := Lib.hid hV1
  have HR := Lib.hid hR
  clear h hbW hword1 hWs hV1 hR hv1 hg hok
  have k10 : W.cell? ⟨w.heap.size, 0, none⟩ = some (.int .i64 (n : Nat)) := V1.out.cell 0
  go_enter Tryz.func245, Tryz.ntmps245
  go_wp2_with fail
  rw [← HWW.out]
  clear hW
  go_wp2_with fail
  refine (HBL.out _).mono ?_
  rintro e w2 ⟨b, rfl, hb, hown, hb2'⟩
  have hA := V1.out.onB hb2'
  have hR := HR.out.onB hb2'
  obtain ⟨V, hV⟩ : ∃ V, V = w2.alloc (.cells #[.int .i64 (n : Nat), .slice (some ⟨b, 0, none⟩) m m] 38) := ⟨_, rfl⟩
  have hblt := (hown.lt b rfl).2
  have S : Hid (Blk V w.heap.size 38 #[.int .i64 (n : Nat), .slice (some ⟨b1, off1, none⟩) m c] ∧ Blk V (w.heap.size + 1) 38 #[.int .i64 0, .slice none 0 0] ∧ Blk V w2.heap.size 38 #[.int .i64 (n : Nat), .slice (some ⟨b, 0, none⟩) m m] ∧ OwnF (fun x : Nat => .int .u64 (x : Int)) 141 V w.heap.size (.slice (some ⟨b, 0, none⟩) m m) (filled g m 0) ∧ Below w.heap.size w V) := Lib.hid (by
    rw [hV]
    refine ⟨hA.alloc _, hR.alloc _, Blk.new w2 _ _, ?_, ?_⟩
    · rw [filled_zero]
      exact (hown.mono (by have := HWS.out; omega)).alloc _
    · exact below_new (HbW.out.trans (hb2'.mono HbW.out.size)) (Nat.le_refl _) _)
  have HNE : Hid (w.heap.size + 2 ≤ b ∧ b < w2.heap.size) := Lib.hid ⟨by have := HWS.out; omega, hblt⟩
  have HVV := Lib.hid hV
  have HL2 := Lib.hid hb2'.size
  have k11 : w2.cell? ⟨w.heap.size, 1, none⟩ = some (.slice (some ⟨b1, off1, none⟩) m c) := hA.cell 1
  have hl3 : w.heap.size < w2.heap.size := by have := HWS.out; have := hb2'.size; omega
  clear hA hR hown hb2' hb hblt k10 V1 HR hV
  go_wp2_with fail
  refine (HCO.out _).mono ?_
  rintro e w' ⟨rfl, rfl⟩
  go_wp2_with fail
  rw [← HVV.out]
  clear k11 hl3
  go_loopw [51] (fun i wr => ∃ k : Nat, k ≤ m ∧ i = .int .i64 k ∧ Blk wr w.heap.size 38 #[.int .i64 (n : Nat), .slice (some ⟨b1, off1, none⟩) m c] ∧ Blk wr (w.heap.size + 1) 38 #[.int .i64 0, .slice none 0 0] ∧ Blk wr w2.heap.size 38 #[.int .i64 (n : Nat), .slice (some ⟨b, 0, none⟩) m m] ∧ OwnF (fun x : Nat => .int .u64 (x : Int)) 141 wr w.heap.size (.slice (some ⟨b, 0, none⟩) m m) (filled g m k) ∧ Below w.heap.size w wr) (fun i _ => m - (intOf i).toNat)
  case atStart => exact ⟨0, Nat.zero_le _, rfl, S.out⟩
  case round =>
    obtain ⟨k, hk, rfl, hA, hR, hO, hown, hbw⟩ := hrel
    have R := Lib.hid (And.intro hA (And.intro hR (And.intro hO (And.intro hown hbw))))
    by_cases hlt : k < m
    · have kO : wr.cell? ⟨w2.heap.size, 1, none⟩ = some (.slice (some ⟨b, 0, none⟩) m m) := hO.cell 1
      have kA0 : wr.cell? ⟨w.heap.size, 0, none⟩ = some (.int .i64 (n : Nat)) := hA.cell 0
      have kA1 : wr.cell? ⟨w.heap.size, 1, none⟩ = some (.slice (some ⟨b1, off1, none⟩) m c) := hA.cell 1
      obtain ⟨uo, kc, kz⟩ := own_cell hown k (by rw [filled_length]; exact hlt)
      have hgk := HG.out k
      have v1 := HW1.out wr k hbw hlt
      have x1 := HX1.out k
      have x2 := HX2.out k
      have x3 := HX3.out k
      rw [← hgk] at x3
      generalize wat ws k = a1 at *
      generalize a1 &&& (18446744073709551615 - cl) = y1 at *
      have hsh : IntKind.u64.wrap ((y1 : Int) * 2 ^ q) = ((y1 * 2 ^ q % 18446744073709551616 : Nat) : Int) := by rw [IntKind.wrap_u64]; simp
      generalize y1 * 2 ^ q % 18446744073709551616 = y2 at *
      clear hA hR hO hown hbw hgk
      go_wp2_with fail
      go_still_tail 14, (by kernel_rfl)
      still_call ((HFU.out _).mono fun _ _ ⟨a, b⟩ => ⟨a, b.symm⟩)
      repeat still_step
      refine wpStill_nil ?_
      go_wp2_with fail
      go_roundw
      case rel =>
        obtain ⟨hA, hR, hO, hown, hbw⟩ := R.out
        have hst := hown.set_ k (g k)
        rw [filled_set _ _ _ hlt] at hst
        exact ⟨k + 1, by omega, by go_num, hA.store (by have := HNE.out; omega) k _, hR.store (by have := HNE.out; omega) k _, hO.store (by have := HNE.out; omega) k _, hst, (hbw.setCell (p := ⟨b, k, none⟩) (by have := HNE.out; simp only; omega) _).drew⟩
      case measure => simp [intOf]; omega
    · obtain rfl : k = m := by omega
      have kO0 : wr.cell? ⟨w2.heap.size, 0, none⟩ = some (.int .i64 (n : Nat)) := hO.cell 0
      have kO1 : wr.cell? ⟨w2.heap.size, 1, none⟩ = some (.slice (some ⟨b, 0, none⟩) k k) := hO.cell 1
      have kR0 : wr.cell? ⟨w.heap.size + 1, 0, none⟩ = some (.int .i64 0) := hR.cell 0
      have kR1 : wr.cell? ⟨w.heap.size + 1, 1, none⟩ = some (.slice none 0 0) := hR.cell 1
      have z0 := hR.frozen 0
      have z1 := hR.frozen 1
      clear hA hR hO hown hbw
      go_wp2_with fail
      refine bodyPost_ret (v := .agg #[.int .i64 (n : Nat), .slice (some ⟨b, 0, none⟩) k k]) ?_ rfl ⟨b, rfl, by have := HNE.out; omega, ?_, by simp, ?_⟩
      · simp [results, Tryz.results245, go_sem, *]
      · obtain ⟨hA, hR, hO, hown, hbw⟩ := R.out
        rw [filled_all] at hown
        exact (hown.set_below' (by have := HNE.out; simp only; omega) _).set_below' (by have := HNE.out; simp only; omega) _
      · obtain ⟨hA, hR, hO, hown, hbw⟩ := R.out
        exact (hbw.setCell (by simp only; omega) _).setCell (by simp only; omega) _
end Go.Proofs.YtbhbhfplpbcfiaaGreatDoor
end

section
namespace Go.Proofs.YtbhbhfplpbcfiaaGreatDoor
open Go.RowKit Go.Sort
set_option linter.unusedSimpArgs false
set_option linter.unusedVariables false

set_option maxRecDepth 100000 in
set_option maxHeartbeats 8000000 in
theorem swith_one (n v : Nat) (hv : v < n) (h6 : ¬ 6 ≤ v) (A : Option Addr) (len c : Nat) (ws : List Nat) (w : World) (h : SetArg w n A len c ws) (hok : SOk n ws) :
    Calls Tryz.prog 245 #[setA n A len c, .int .i64 (v : Nat), .bool true] w (SetRes w n ((List.range (wordsN n)).map (withW n v true ws))) := by
  have hn := hok.n16
  obtain rfl : len = wordsN n := by rw [← h.hlen, hok.len]
  have hm := wordsN_le hn
  have hm1 := wordsN_pos n
  have hc1 := h.hcap
  have hc2 := h.hmax
  unfold maxLen at hc2
  have HBL := Lib.hid (fun W => sblank_any n hn W)
  have HFU := Lib.hid (fun W => sfull_any n hn W)
  have HLT := Lib.hid (fun k => wat_lt hok.lt k)
  have hfl := fullN_lt n
  obtain ⟨g, hg⟩ : ∃ g : Nat → Nat, g = withW n v true ws := ⟨_, rfl⟩
  rw [← hg]
  have HCO := Lib.hid (fun W => scolumn_any v (by omega) W)
  have hcl := col_lt v
  have hpv := u64_pow v (by omega)
  have hq : 2 ^ v < 64 := (show 2 ^ v < 2 ^ 6 from Nat.pow_lt_pow_right (by omega) (by omega))
  have HX1 := Lib.hid (fun k => u64_and_nat (wat ws k) (colN v) (wat_lt hok.lt k) hcl)
  have HX2 := Lib.hid (fun k => u64_or_nat (wat ws k &&& colN v) ((wat ws k &&& colN v) / 2 ^ 2 ^ v) (Nat.lt_of_le_of_lt Nat.and_le_left (wat_lt hok.lt k)) (Nat.lt_of_le_of_lt (Nat.div_le_self _ _) (Nat.lt_of_le_of_lt Nat.and_le_left (wat_lt hok.lt k))))
  have HG : Hid (∀ k, g k = (wat ws k &&& colN v) ||| (wat ws k &&& colN v) / 2 ^ 2 ^ v) := Lib.hid (fun k => by rw [hg]; unfold withW; rw [if_neg h6, if_pos rfl])
  generalize colN v = cl at *
  generalize 2 ^ v = q at *
  have hv1 := SetVar.new h
  obtain ⟨b1, off1, rfl, hb1, hword1⟩ := h.word (w' := w) hm1
  have HW1 := Lib.hid hword1
  unfold SetRes setV setA U at *
  generalize fullN n = f at *
  generalize wordsN n = m at *
  obtain ⟨W, hW⟩ : ∃ W, W = (w.alloc (.cells #[.int .i64 (n : Nat), .slice (some ⟨b1, off1, none⟩) m c] 38)).alloc (.cells #[.int .i64 0, .slice none 0 0] 38) := ⟨_, rfl⟩
  have hbW : Below w.heap.size w W := by rw [hW]; exact ((Below.refl _ _).alloc (Nat.le_refl _) _).alloc (by simp) _
  have hV1 : Blk W w.heap.size 38 #[.int .i64 (n : Nat), .slice (some ⟨b1, off1, none⟩) m c] := by rw [hW]; exact hv1.blk.alloc _
  have hR : Blk W (w.heap.size + 1) 38 #[.int .i64 0, .slice none 0 0] := by
    rw [hW]
    have := Blk.new (w.alloc (.cells #[.int .i64 (n : Nat), .slice (some ⟨b1, off1, none⟩) m c] 38)) 38 #[.int .i64 0, .slice none 0 0]
    rwa [World.size_alloc] at this
  have hWs : W.heap.size = w.heap.size + 2 := by rw [hW]; simp
  have HWW := Lib.hid hW
  have HbW := Lib.hid hbW
  have HWS := Lib.hid hWs
  have V1 := Lib.hid hV1
  have HR := Lib.hid hR
  clear h hbW hword1 hWs hV1 hR hv1 hg hok
  have k10 : W.cell? ⟨w.heap.size, 0, none⟩ = some (.int .i64 (n : Nat)) := V1.out.cell 0
  go_enter Tryz.func245, Tryz.ntmps245
  go_wp2_with fail
  rw [← HWW.out]
  clear hW
  go_wp2_with fail
  refine (HBL.out _).mono ?_
  rintro e w2 ⟨b, rfl, hb, hown, hb2'⟩
  have hA := V1.out.onB hb2'
  have hR := HR.out.onB hb2'
  obtain ⟨V, hV⟩ : ∃ V, V = w2.alloc (.cells #[.int .i64 (n : Nat), .slice (some ⟨b, 0, none⟩) m m] 38) := ⟨_, rfl⟩
  have hblt := (hown.lt b rfl).2
  have S : Hid (Blk V w.heap.size 38 #[.int .i64 (n : Nat), .slice (some ⟨b1, off1, none⟩) m c] ∧ Blk V (w.heap.size + 1) 38 #[.int .i64 0, .slice none 0 0] ∧ Blk V w2.heap.size 38 #[.int .i64 (n : Nat), .slice (some ⟨b, 0, none⟩) m m] ∧ OwnF (fun x : Nat => .int .u64 (x : Int)) 141 V w.heap.size (.slice (some ⟨b, 0, none⟩) m m) (filled g m 0) ∧ Below w.heap.size w V) := Lib.hid (by
    rw [hV]
    refine ⟨hA.alloc _, hR.alloc _, Blk.new w2 _ _, ?_, ?_⟩
    · rw [filled_zero]
      exact (hown.mono (by have := HWS.out; omega)).alloc _
    · exact below_new (HbW.out.trans (hb2'.mono HbW.out.size)) (Nat.le_refl _) _)
  have HNE : Hid (w.heap.size + 2 ≤ b ∧ b < w2.heap.size) := Lib.hid ⟨by have := HWS.out; omega, hblt⟩
  have HVV := Lib.hid hV
  have HL2 := Lib.hid hb2'.size
  have k11 : w2.cell? ⟨w.heap.size, 1, none⟩ = some (.slice (some ⟨b1, off1, none⟩) m c) := hA.cell 1
  have hl3 : w.heap.size < w2.heap.size := by have := HWS.out; have := hb2'.size; omega
  clear hA hR hown hb2' hb hblt k10 V1 HR hV
  go_wp2_with fail
  refine (HCO.out _).mono ?_
  rintro e w' ⟨rfl, rfl⟩
  go_wp2_with fail
  rw [← HVV.out]
  clear k11 hl3
  go_loopw [51] (fun i wr => ∃ k : Nat, k ≤ m ∧ i = .int .i64 k ∧ Blk wr w.heap.size 38 #[.int .i64 (n : Nat), .slice (some ⟨b1, off1, none⟩) m c] ∧ Blk wr (w.heap.size + 1) 38 #[.int .i64 0, .slice none 0 0] ∧ Blk wr w2.heap.size 38 #[.int .i64 (n : Nat), .slice (some ⟨b, 0, none⟩) m m] ∧ OwnF (fun x : Nat => .int .u64 (x : Int)) 141 wr w.heap.size (.slice (some ⟨b, 0, none⟩) m m) (filled g m k) ∧ Below w.heap.size w wr) (fun i _ => m - (intOf i).toNat)
  case atStart => exact ⟨0, Nat.zero_le _, rfl, S.out⟩
  case round =>
    obtain ⟨k, hk, rfl, hA, hR, hO, hown, hbw⟩ := hrel
    have R := Lib.hid (And.intro hA (And.intro hR (And.intro hO (And.intro hown hbw))))
    by_cases hlt : k < m
    · have kO : wr.cell? ⟨w2.heap.size, 1, none⟩ = some (.slice (some ⟨b, 0, none⟩) m m) := hO.cell 1
      have kA0 : wr.cell? ⟨w.heap.size, 0, none⟩ = some (.int .i64 (n : Nat)) := hA.cell 0
      have kA1 : wr.cell? ⟨w.heap.size, 1, none⟩ = some (.slice (some ⟨b1, off1, none⟩) m c) := hA.cell 1
      obtain ⟨uo, kc, kz⟩ := own_cell hown k (by rw [filled_length]; exact hlt)
      have hgk := HG.out k
      have v1 := HW1.out wr k hbw hlt
      have x1 := HX1.out k
      have x2 := HX2.out k
      rw [← hgk] at x2
      generalize wat ws k = a1 at *
      generalize a1 &&& cl = y1 at *
      have hsh : ((y1 : Int) / 2 ^ q) = ((y1 / 2 ^ q : Nat) : Int) := by simp
      generalize y1 / 2 ^ q = y2 at *
      clear hA hR hO hown hbw hgk
      go_wp2_with fail
      go_still_tail 10, (by kernel_rfl)
      go_wp2_with fail
      go_roundw
      case rel =>
        obtain ⟨hA, hR, hO, hown, hbw⟩ := R.out
        have hst := hown.set_ k (g k)
        rw [filled_set _ _ _ hlt] at hst
        exact ⟨k + 1, by omega, by go_num, hA.store (by have := HNE.out; omega) k _, hR.store (by have := HNE.out; omega) k _, hO.store (by have := HNE.out; omega) k _, hst, (hbw.setCell (p := ⟨b, k, none⟩) (by have := HNE.out; simp only; omega) _).drew⟩
      case measure => simp [intOf]; omega
    · obtain rfl : k = m := by omega
      have kO0 : wr.cell? ⟨w2.heap.size, 0, none⟩ = some (.int .i64 (n : Nat)) := hO.cell 0
      have kO1 : wr.cell? ⟨w2.heap.size, 1, none⟩ = some (.slice (some ⟨b, 0, none⟩) k k) := hO.cell 1
      have kR0 : wr.cell? ⟨w.heap.size + 1, 0, none⟩ = some (.int .i64 0) := hR.cell 0
      have kR1 : wr.cell? ⟨w.heap.size + 1, 1, none⟩ = some (.slice none 0 0) := hR.cell 1
      have z0 := hR.frozen 0
      have z1 := hR.frozen 1
      clear hA hR hO hown hbw
      go_wp2_with fail
      refine bodyPost_ret (v := .agg #[.int .i64 (n : Nat), .slice (some ⟨b, 0, none⟩) k k]) ?_ rfl ⟨b, rfl, by have := HNE.out; omega, ?_, by simp, ?_⟩
      · simp [results, Tryz.results245, go_sem, *]
      · obtain ⟨hA, hR, hO, hown, hbw⟩ := R.out
        rw [filled_all] at hown
        exact (hown.set_below' (by have := HNE.out; simp only; omega) _).set_below' (by have := HNE.out; simp only; omega) _
      · obtain ⟨hA, hR, hO, hown, hbw⟩ := R.out
        exact (hbw.setCell (by simp only; omega) _).setCell (by simp only; omega) _
end Go.Proofs.YtbhbhfplpbcfiaaGreatDoor
end

section
namespace Go.Proofs.YtbhbhfplpbcfiaaGreatDoor
open Go.RowKit Go.Sort
set_option linter.unusedSimpArgs false
set_option linter.unusedVariables false

theorem swith_any (n v : Nat) (hv : v < n) (one : Bool) (A : Option Addr) (len c : Nat) (ws : List Nat) (w : World) (h : SetArg w n A len c ws) (hok : SOk n ws) :
    Calls Tryz.prog 245 #[setA n A len c, .int .i64 (v : Nat), .bool one] w (SetRes w n ((List.range (wordsN n)).map (withW n v one ws))) := by
  by_cases h6 : 6 ≤ v
  · exact swith_big n v hv one h6 A len c ws w h hok
  · cases one
    · exact swith_zero n v hv h6 A len c ws w h hok
    · exact swith_one n v hv h6 A len c ws w h hok
def askC (m : Int) (ws : List Nat) (v : Int) : Int := if srightB m ws then (if 0 ≤ v ∧ v < m then 0 else 3) else 1
end Go.Proofs.YtbhbhfplpbcfiaaGreatDoor
end

section
namespace Go.Proofs.YtbhbhfplpbcfiaaGreatDoor
open Go.RowKit Go.Sort
set_option linter.unusedSimpArgs false
set_option linter.unusedVariables false

theorem cell_far (w : World) (p q : Addr) {u : Value} (h : q.block ≠ p.block) : (w.setCell p u).cell? q = w.cell? q := World.cell?_of_block (w := w) (Below.heap_setCell w p u q.block h)
/-- a variable by a set: the words -/
def compW (n v : Nat) (ws gs : List Nat) (k : Nat) : Nat := iteW (wat gs k) (withW n v true ws k) (withW n v false ws k)
def compT (t : List Bool) (v : Nat) (g : List Bool) : List Bool := (List.range t.length).map fun x => tat t (putV x v (tat g x).toNat)
theorem compT_length (t : List Bool) (v : Nat) (g : List Bool) : (compT t v g).length = t.length := by simp [compT]
theorem wat_range {f : Nat → Nat} {m k : Nat} (hk : k < m) : wat ((List.range m).map f) k = f k := by
  unfold wat; rw [List.getElem?_map, List.getElem?_range hk]; rfl
theorem comp_words (n v : Nat) (ws gs : List Nat) : ((List.range (wordsN n)).map fun k => iteW (wat gs k) (wat ((List.range (wordsN n)).map (withW n v true ws)) k) (wat ((List.range (wordsN n)).map (withW n v false ws)) k)) = (List.range (wordsN n)).map (compW n v ws gs) := by
  apply List.map_congr_left
  intro k hk
  rw [List.mem_range] at hk
  rw [wat_range hk, wat_range hk]; rfl
theorem comp_lt {n v : Nat} {ws gs : List Nat} (hlt : ∀ u ∈ ws, u < 18446744073709551616) (hg : ∀ u ∈ gs, u < 18446744073709551616) (k : Nat) : compW n v ws gs k < 18446744073709551616 := iteW_lt (wat_lt hg k) (withW_lt hlt k)
theorem comp_ok {n v : Nat} {ws gs : List Nat} (hok : SOk n ws) (hg : SOk n gs) (hv : v < n) : SOk n ((List.range (wordsN n)).map (compW n v ws gs)) := by
  have h1 := with_ok (one := true) hok hv
  have h0 := with_ok (one := false) hok hv
  refine SOk.made hok.n16 (fun k _ => comp_lt hok.lt hg.lt k) (fun j h2 h3 => ?_)
  have hz : ∀ ws, SOk n ws → (wat ws 0).testBit j = false := fun ws hk => by
    have := hk.hi j h2 h3
    unfold bitAt at this
    rwa [show j / 64 = 0 by omega, Nat.mod_eq_of_lt h3] at this
  have hp := wordsN_pos n
  have e1 := hz _ h1
  have e0 := hz _ h0
  rw [wat_range (by omega)] at e1 e0
  unfold compW
  rw [iteW_bit (wat_lt hg.lt 0) h3, hz _ hg, e0]
  rfl
theorem comp_tab {n v : Nat} {ws gs : List Nat} (hok : SOk n ws) (hg : SOk n gs) (hv : v < n) (x : Nat) (hx : x < 2 ^ n) : bitAt ((List.range (wordsN n)).map (compW n v ws gs)) x = (compT (tabS n ws) v (tabS n gs))[x]?.getD false := by
  have h1 := with_bit (one := true) hok hv hx
  have h0 := with_bit (one := false) hok hv hx
  rw [bitAt_range (idx_lt hx)] at h1 h0 ⊢
  unfold compW compT
  rw [iteW_bit (wat_lt hg.lt _) (Nat.mod_lt _ (by omega)), h1, h0, wat_bit, List.getElem?_map, List.getElem?_range (by rw [tabS_length]; exact hx)]
  simp only [Option.map_some, Option.getD_some]
  rw [tat_tab hx]
  cases hb : bitAt gs x
  · rw [tat_tab (putV_lt false hx hv)]; rfl
  · rw [tat_tab (putV_lt true hx hv)]; rfl
theorem pow_comp (n : Nat) : 1 ≤ wordsN n := wordsN_pos n
end Go.Proofs.YtbhbhfplpbcfiaaGreatDoor
end

section
namespace Go.Proofs.YtbhbhfplpbcfiaaGreatDoor
open Go.RowKit Go.Sort
set_option linter.unusedSimpArgs false
set_option linter.unusedVariables false

theorem u16_bit (q k : Nat) (hq : q < 65536) : bits .and .u16 ((q : Int) / 2 ^ k) 1 = if q.testBit k then 1 else 0 := by
  have h1 : ((q : Int) / 2 ^ k) = ((q / 2 ^ k : Nat) : Int) := by simp
  have h2 : q / 2 ^ k ≤ q := Nat.div_le_self _ _
  rw [h1, show (1 : Int) = ((1 : Nat) : Int) from rfl, u16_and_nat _ _ (by omega) (by omega), Nat.and_one_is_mod, Nat.testBit_eq_decide_div_mod_eq]
  rcases Nat.mod_two_eq_zero_or_one (q / 2 ^ k) with h | h <;> simp [h]
/-- tables, variable by variable -/
def quantT (o vars : Nat) (t : List Bool) : Nat → List Bool
  | 0 => t
  | v + 1 => if vars.testBit v then opT o (withT (quantT o vars t v) v 0) (withT (quantT o vars t v) v 1) else quantT o vars t v
theorem quantT_length (o vars : Nat) (t : List Bool) : ∀ v, (quantT o vars t v).length = t.length
  | 0 => rfl
  | v + 1 => by
    rw [quantT]
    split
    · rw [opT_length, withT_length, quantT_length o vars t v]
    · exact quantT_length o vars t v
/-- a set in new memory, as a result -/
def SetNew (w : World) (n m : Nat) (t : List Bool) (b : Nat) (w' : World) : Prop := w.heap.size ≤ b ∧ b < w'.heap.size ∧ SetArg w' n (some ⟨b, 0, none⟩) m m (packT t) ∧ Below w.heap.size w w'
theorem SetArg.store {w : World} {m : Int} {b o len c : Nat} {ws : List Nat} (h : SetArg w m (some ⟨b, o, none⟩) len c ws) {p : Addr} (hp : p.block ≠ b) (u : Value) (hpl : p.block < w.heap.size) : SetArg (w.setCell p u) m (some ⟨b, o, none⟩) len c ws :=
  ⟨h.hlen, h.hcap, h.hmax, fun hn => by
    obtain ⟨b', off', he, hb, hc⟩ := h.row hn
    have e1 : b = b' := by injection he with he; injection he
    refine ⟨b', off', he, by simpa using hb, fun j hj => ?_⟩
    rw [cell_far _ _ _ (by simp only; omega)]
    exact hc j hj, h.lt, h.wf⟩
theorem SetArg.blk_lt {w : World} {m : Int} {b o len c : Nat} {ws : List Nat} (h : SetArg w m (some ⟨b, o, none⟩) len c ws) (hl : 0 < len) : b < w.heap.size := by
  obtain ⟨b', off', he, hb, _⟩ := h.row (by rw [h.hlen]; exact hl)
  have e1 : b = b' := by injection he with he; injection he
  simpa [e1] using hb
/-- a set in new memory and no error -/
def SetNewT (w : World) (n : Nat) (t : List Bool) (e : Ending) (w' : World) : Prop := ∃ b, e = .returned (.tuple #[.agg #[.int .i64 (n : Nat), .slice (some ⟨b, 0, none⟩) (wordsN n) (wordsN n)], .int .u8 0]) ∧ SetNew w n (wordsN n) t b w'
theorem SetVar.put {w : World} {g : Nat} {a0 a1 : Value} {n : Int} {b l c : Nat} {ws : List Nat} (hblk : Blk w g 38 #[a0, a1]) (h : SetArg w n (some ⟨b, 0, none⟩) l c ws) (hne : g ≠ b) : SetVar ((w.setCell ⟨g, 0, none⟩ (.int .i64 n)).setCell ⟨g, 1, none⟩ (.slice (some ⟨b, 0, none⟩) l c)) g n (some ⟨b, 0, none⟩) l c ws :=
  ⟨(hblk.set_ 0 _).set_ 1 _, (h.store (p := ⟨g, 0, none⟩) hne _ hblk.lt).store (p := ⟨g, 1, none⟩) hne _ (by rw [World.size_setCell]; exact hblk.lt)⟩
theorem new_of_res {w w' : World} {n b : Nat} {ws : List Nat} {t : List Bool} (hn : n ≤ 16) (ht : t.length = 2 ^ n) (hok : SOk n ws) (hb : ∀ x, x < 2 ^ n → bitAt ws x = t[x]?.getD false) (h1 : w.heap.size ≤ b) (hown : OwnF U 141 w' w.heap.size (.slice (some ⟨b, 0, none⟩) (wordsN n) (wordsN n)) ws) (hbel : Below w.heap.size w w') : SetNew w n (wordsN n) t b w' := by
  have he := hok.eq_pack ht hb
  have hl := hok.len
  rw [he] at hown hok hl
  exact ⟨h1, (hown.lt b rfl).2, own_arg hown hl hok.lt hn (wordsN_le hn), hbel⟩
theorem swith_tab (n v : Nat) (hn : n ≤ 16) (hv : v < n) (one : Bool) (A : Option Addr) (len c : Nat) (t : List Bool) (ht : t.length = 2 ^ n) (w : World) (h : SetArg w n A len c (packT t)) :
    Calls Tryz.prog 245 #[.agg #[.int .i64 (n : Nat), .slice A len c], .int .i64 (v : Nat), .bool one] w fun e w' => ∃ b, e = .returned (.agg #[.int .i64 (n : Nat), .slice (some ⟨b, 0, none⟩) (wordsN n) (wordsN n)]) ∧ SetNew w n (wordsN n) (withT t v one.toNat) b w' := by
  have hok := SOk.pack hn ht
  refine (swith_any n v hv one A len c _ w h hok).mono ?_
  rintro e w' ⟨b, rfl, hlo, hown, hl, hb⟩
  exact ⟨b, rfl, new_of_res hn (by rw [withT_length, ht]) (with_ok hok hv) (fun x hx => by rw [with_tab hok hv x hx, tab_pack ht]) hlo hown hb⟩
theorem sOp_tab (o : Nat) (ho : o ≤ 15) (n : Nat) (hn : n ≤ 16) (A A' : Option Addr) (len len' c c' : Nat) (t t' : List Bool) (ht : t.length = 2 ^ n) (ht' : t'.length = 2 ^ n) (w : World) (h : SetArg w n A len c (packT t)) (h' : SetArg w n A' len' c' (packT t')) :
    Calls Tryz.prog 144 #[.int .i64 (o : Nat), .agg #[.int .i64 (n : Nat), .slice A len c], .agg #[.int .i64 (n : Nat), .slice A' len' c']] w fun e w' => ∃ b, e = .returned (.tuple #[.agg #[.int .i64 (n : Nat), .slice (some ⟨b, 0, none⟩) (wordsN n) (wordsN n)], .int .u8 0]) ∧ SetNew w n (wordsN n) (opT o t t') b w' := by
  have hok := SOk.pack hn ht
  have hok' := SOk.pack hn ht'
  refine (sopS_any o ho n A A' len len' c c' _ _ w h h' hok hok').mono ?_
  rintro e w' ⟨b, rfl, hlo, hown, hl, hb⟩
  refine ⟨b, rfl, new_of_res hn (by rw [opT_length, ht]) (and_full_ok hn fun k => opAcc_lt (wat_lt hok.lt k) (wat_lt hok'.lt k) 4) (fun x hx => ?_) hlo hown hb⟩
  rw [and_full_bit hx]
  show (opW o (wat (packT t) (x / 64)) (wat (packT t') (x / 64))).testBit (x % 64) = _
  rw [opW_bit (wat_lt hok.lt _) (wat_lt hok'.lt _) (Nat.mod_lt _ (by omega)), wat_bit, wat_bit, bitAt_pack, bitAt_pack]
  unfold opT
  rw [List.getElem?_map, List.getElem?_range (by rw [ht]; exact hx)]
  rfl
theorem iteW_same (a : Nat) : iteW a a a = a := by
  unfold iteW
  apply Nat.eq_of_testBit_eq
  intro j
  rw [Nat.testBit_or, Nat.testBit_and, Nat.testBit_and]
  cases a.testBit j <;> simp
theorem site_same (n : Nat) (A : Option Addr) (len c : Nat) (t : List Bool) (hn : n ≤ 16) (ht : t.length = 2 ^ n) (w : World) (h : SetArg w n A len c (packT t)) :
    Calls Tryz.prog 244 #[.agg #[.int .i64 (n : Nat), .slice A len c], .agg #[.int .i64 (n : Nat), .slice A len c], .agg #[.int .i64 (n : Nat), .slice A len c]] w fun e w' => ∃ b, e = .returned (.agg #[.int .i64 (n : Nat), .slice (some ⟨b, 0, none⟩) (wordsN n) (wordsN n)]) ∧ SetNew w n (wordsN n) t b w' := by
  have hok := SOk.pack hn ht
  refine (site_any n A A A len len len c c c _ _ _ w h h h hok hok hok).mono ?_
  rintro e w' ⟨b, rfl, hlo, hown, hl, hb⟩
  have he : ((List.range (wordsN n)).map fun k => iteW (wat (packT t) k) (wat (packT t) k) (wat (packT t) k)) = packT t := by
    rw [← range_wat (ws := packT t) (m := wordsN n) hok.len]
    apply List.map_congr_left
    intro k hk
    rw [range_wat hok.len, iteW_same]
  rw [he] at hown
  exact ⟨b, rfl, new_of_res hn ht hok (fun x hx => bitAt_pack t x) hlo hown hb⟩
theorem SetNewT.ans {w w' : World} {n : Nat} {t : List Bool} {e : Ending} (h : SetNewT w n t e w') (hn : n ≤ 16) (ht : t.length = 2 ^ n) : SetAns w n 0 t e w' := by
  obtain ⟨b, rfl, _, _, ha, hb⟩ := h
  exact ⟨n, _, _, _, _, 0, rfl, ha, hb, .inl ⟨rfl, rfl, hn, rfl, ht, rfl⟩⟩
/-- the same result as an answer -/
theorem ans_tab {w w' : World} {n : Nat} {t : List Bool} {A : Option Addr} {l c : Nat} (hn : n ≤ 16) (ht : t.length = 2 ^ n) (h : SetArg w' n A l c (packT t)) (hb : Below w.heap.size w w') : SetAns w n 0 t (.returned (.tuple #[.agg #[.int .i64 (n : Nat), .slice A l c], .int .u8 0])) w' :=
  ⟨n, A, l, c, _, 0, rfl, h, hb, .inl ⟨rfl, rfl, hn, rfl, ht, rfl⟩⟩
set_option maxRecDepth 100000 in
set_option maxHeartbeats 8000000 in
theorem squant_no (m : Int) (vars : Nat) (o : Int) (A : Option Addr) (len c : Nat) (ws : List Nat) (w : World) (h : SetArg w m A len c ws) (hvars : vars < 65536) (q : Int) (hno : (srightB m ws = false ∧ q = 1) ∨ (∃ n : Nat, m = n ∧ n ≤ 16 ∧ srightB m ws = true ∧ q = 3 ∧ 2 ^ n ≤ vars)) :
    Calls Tryz.prog 240 #[setA m A len c, .int .u16 (vars : Nat), .int .i64 o] w (SetErr w q) := by
  have HR := Lib.hid (fun W' (h : SetArg W' m A len c ws) => sright_any m A len c ws W' h)
  unfold SetErr setA at *
  generalize srightB m ws = r at *
  obtain ⟨W0, hW0⟩ : ∃ W0, W0 = ((w.alloc (.cells #[.int .i64 m, .slice A len c] 38)).alloc (.cells #[.int .i64 0, .slice none 0 0] 38)) := ⟨_, rfl⟩
  have hb0 : Below w.heap.size w W0 := by rw [hW0]; exact (((Below.refl _ _).alloc (by simp) (.cells #[.int .i64 m, .slice A len c] 38)).alloc (by simp) (.cells #[.int .i64 0, .slice none 0 0] 38))
  have hv0 : SetVar W0 (w.heap.size) m A len c ws := by
    have := SetVar.new h
    rw [hW0]; exact (this.alloc _)
  have hv1 : Blk W0 (w.heap.size + 1) 38 #[.int .i64 0, .slice none 0 0] := by
    have := Blk.new (w.alloc (.cells #[.int .i64 m, .slice A len c] 38)) 38 #[.int .i64 0, .slice none 0 0]
    simp only [World.size_alloc] at this
    rw [hW0]; exact this
  have HWW := Lib.hid hW0
  have HB := Lib.hid hb0
  have Va := Lib.hid hv0
  have R := Lib.hid hv1
  clear hb0 hv0 hv1 h 
  rcases hno with ⟨rfl, rfl⟩ | ⟨n, rfl, hn, rfl, rfl, hle⟩
  · go_enter Tryz.func240, Tryz.ntmps240
    go_wp2_with fail
    rw [← HWW.out]
    clear hW0
    have kVa0 := Va.out.c0
    have kVa1 := Va.out.c1
    go_wp2_with fail
    refine (HR.out _ Va.out.arg).mono ?_
    rintro e x1 ⟨rfl, hb1⟩
    clear kVa0 kVa1
    have Va' := Lib.hid (Va.out.on hb1)
    clear Va
    have Va := Va'
    clear Va'
    have R' := Lib.hid (R.out.onB hb1)
    clear R
    have R := R'
    clear R'
    have HB' := Lib.hid (HB.out.trans (hb1.mono HB.out.size))
    clear HB
    have HB := HB'
    clear HB'
    clear hb1
    have kR0 := R.out.cell 0
    have zR0 := R.out.frozen 0
    have kR1 := R.out.cell 1
    have zR1 := R.out.frozen 1
    go_wp2_with fail
    refine bodyPost_ret (v := .tuple #[.agg #[.int .i64 0, .slice none 0 0], .int .u8 1]) ?_ rfl ⟨rfl, ?_⟩
    · simp [results, Tryz.results240, go_sem, *]
    · first | exact HB.out | exact (HB.out.setCell (by simp only; omega) _).setCell (by simp only; omega) _
  · have hdiv : (((vars : Int) / 2 ^ n) != 0) = true := by
      have h1 : ((vars : Int) / 2 ^ n) = ((vars / 2 ^ n : Nat) : Int) := by simp
      have h2 : 0 < vars / 2 ^ n := Nat.div_pos hle (Nat.two_pow_pos n)
      rw [h1, bne_iff_ne]; omega
    clear hle
    go_enter Tryz.func240, Tryz.ntmps240
    go_wp2_with fail
    rw [← HWW.out]
    clear hW0
    have kVa0 := Va.out.c0
    have kVa1 := Va.out.c1
    go_wp2_with fail
    refine (HR.out _ Va.out.arg).mono ?_
    rintro e x1 ⟨rfl, hb1⟩
    clear kVa0 kVa1
    have Va' := Lib.hid (Va.out.on hb1)
    clear Va
    have Va := Va'
    clear Va'
    have R' := Lib.hid (R.out.onB hb1)
    clear R
    have R := R'
    clear R'
    have HB' := Lib.hid (HB.out.trans (hb1.mono HB.out.size))
    clear HB
    have HB := HB'
    clear HB'
    clear hb1
    have kR0 := R.out.cell 0
    have zR0 := R.out.frozen 0
    have kR1 := R.out.cell 1
    have zR1 := R.out.frozen 1
    have kVa0 := Va.out.c0
    have kVa1 := Va.out.c1
    go_wp2_with fail
    refine bodyPost_ret (v := .tuple #[.agg #[.int .i64 0, .slice none 0 0], .int .u8 3]) ?_ rfl ⟨rfl, ?_⟩
    · simp [results, Tryz.results240, go_sem, *]
    · first | exact HB.out | exact (HB.out.setCell (by simp only; omega) _).setCell (by simp only; omega) _
set_option maxRecDepth 100000 in
set_option maxHeartbeats 8000000 in
theorem squant_any (n vars o : Nat) (ho : o ≤ 15) (hvars : vars < 2 ^ n) (A : Option Addr) (len c : Nat) (t : List Bool) (w : World) (hn : n ≤ 16) (ht : t.length = 2 ^ n) (h : SetArg w n A len c (packT t)) :
    Calls Tryz.prog 240 #[setA n A len c, .int .u16 (vars : Nat), .int .i64 (o : Nat)] w (SetNewT w n (quantT o vars t n)) := by
  have hok := SOk.pack hn ht
  have hr := fun W' (h : SetArg W' n A len c (packT t)) => sright_any n A len c _ W' h
  rw [(sright_iff hok.lt).2 ⟨by omega, by simpa using hok⟩] at hr
  have HR := Lib.hid hr
  have hv16 : vars < 65536 := Nat.lt_of_lt_of_le hvars (pow16 hn)
  have hdiv : (((vars : Int) / 2 ^ n) != 0) = false := by
    have h1 : ((vars : Int) / 2 ^ n) = ((vars / 2 ^ n : Nat) : Int) := by simp
    rw [h1, Nat.div_eq_of_lt hvars]; rfl
  have HI := Lib.hid (fun W' (h : SetArg W' n A len c (packT t)) => site_same n A len c t hn ht W' h)
  have HQ := Lib.hid (fun k => quantT_length o vars t k)
  have HX0 := Lib.hid (fun W A l c k (hk : k < n) (h : SetArg W n A l c (packT (quantT o vars t k))) => swith_tab n k hn hk false A l c _ (by rw [quantT_length, ht]) W h)
  have HX1 := Lib.hid (fun W A l c k (hk : k < n) (h : SetArg W n A l c (packT (quantT o vars t k))) => swith_tab n k hn hk true A l c _ (by rw [quantT_length, ht]) W h)
  have HOP := Lib.hid (fun W A1 A0 l1 l0 c1 c0 k (h0 : SetArg W n A0 l0 c0 (packT (withT (quantT o vars t k) k 0))) (h1 : SetArg W n A1 l1 c1 (packT (withT (quantT o vars t k) k 1))) => sOp_tab o ho n hn A0 A1 l0 l1 c0 c1 _ _ (by rw [withT_length, quantT_length, ht]) (by rw [withT_length, quantT_length, ht]) W h0 h1)
  have HBT := Lib.hid (fun k => u16_bit vars k hv16)
  have HST1 : Hid (∀ k, vars.testBit k = true → quantT o vars t (k + 1) = opT o (withT (quantT o vars t k) k 0) (withT (quantT o vars t k) k 1)) := Lib.hid (fun k hk => by rw [quantT, if_pos hk])
  have HST0 : Hid (∀ k, vars.testBit k = false → quantT o vars t (k + 1) = quantT o vars t k) := Lib.hid (fun k hk => by rw [quantT, if_neg (by simp [hk])])
  have HL0 : Hid (quantT o vars t 0 = t) := Lib.hid rfl
  have HLN : Hid ((quantT o vars t n).length = 2 ^ n) := Lib.hid (by rw [quantT_length, ht])
  have HN := Lib.hid hn
  unfold SetNewT SetNew setA at *
  have HMP := Lib.hid (wordsN_pos n)
  generalize wordsN n = m at *
  clear hok hr HQ ht hvars
  obtain ⟨W0, hW0⟩ : ∃ W0, W0 = ((w.alloc (.cells #[.int .i64 n, .slice A len c] 38)).alloc (.cells #[.int .i64 0, .slice none 0 0] 38)) := ⟨_, rfl⟩
  have hb0 : Below w.heap.size w W0 := by rw [hW0]; exact (((Below.refl _ _).alloc (by simp) (.cells #[.int .i64 n, .slice A len c] 38)).alloc (by simp) (.cells #[.int .i64 0, .slice none 0 0] 38))
  have hv0 : SetVar W0 (w.heap.size) n A len c (packT t) := by
    have := SetVar.new h
    rw [hW0]; exact (this.alloc _)
  have hv1 : Blk W0 (w.heap.size + 1) 38 #[.int .i64 0, .slice none 0 0] := by
    have := Blk.new (w.alloc (.cells #[.int .i64 n, .slice A len c] 38)) 38 #[.int .i64 0, .slice none 0 0]
    simp only [World.size_alloc] at this
    rw [hW0]; exact this
  have HWW := Lib.hid hW0
  have HB := Lib.hid hb0
  have Va := Lib.hid hv0
  have R := Lib.hid hv1
  clear hb0 hv0 hv1 h 
  go_enter Tryz.func240, Tryz.ntmps240
  go_wp2_with fail
  rw [← HWW.out]
  clear hW0
  have kVa0 := Va.out.c0
  have kVa1 := Va.out.c1
  go_wp2_with fail
  refine (HR.out _ Va.out.arg).mono ?_
  rintro e x1 ⟨rfl, hb1⟩
  clear kVa0 kVa1
  have Va' := Lib.hid (Va.out.on hb1)
  clear Va
  have Va := Va'
  clear Va'
  have R' := Lib.hid (R.out.onB hb1)
  clear R
  have R := R'
  clear R'
  have HB' := Lib.hid (HB.out.trans (hb1.mono HB.out.size))
  clear HB
  have HB := HB'
  clear HB'
  clear hb1
  have kVa0 := Va.out.c0
  have kVa1 := Va.out.c1
  go_wp2_with fail
  refine (HI.out _ Va.out.arg).mono ?_
  rintro e x2 ⟨b, rfl, hlo2, hhi2, ho2, hb2⟩
  clear kVa0 kVa1
  have HSZ := Lib.hid R.out.lt
  have HBB : Hid (w.heap.size + 1 < b ∧ b < x2.heap.size) := Lib.hid ⟨by have := HSZ.out; omega, hhi2⟩
  have Va' := Lib.hid (Va.out.on hb2)
  clear Va
  have Va := Va'
  clear Va'
  have R' := Lib.hid (R.out.onB hb2)
  clear R
  have R := R'
  clear R'
  have HB' := Lib.hid (HB.out.trans (hb2.mono HB.out.size))
  clear HB
  have HB := HB'
  clear HB'
  have HSX := Lib.hid R.out.lt
  obtain ⟨V, hV⟩ : ∃ V, V = x2.alloc (.cells #[.int .i64 n, .slice (some ⟨b, 0, none⟩) m m] 38) := ⟨_, rfl⟩
  have hbV : Below x2.heap.size x2 V := by rw [hV]; exact (Below.refl _ _).alloc (Nat.le_refl _) _
  have hOV : SetVar V x2.heap.size n (some ⟨b, 0, none⟩) m m (packT (quantT o vars t 0)) := by rw [hV]; exact SetVar.new ho2
  have ka0 : x2.cell? ⟨w.heap.size, 0, none⟩ = some (.int .i64 (n : Nat)) := Va.out.c0
  have hlx : w.heap.size < x2.heap.size := by have := HSX.out; omega
  have R' := Lib.hid (R.out.onB hbV)
  clear R
  have R := R'
  clear R'
  have HB' := Lib.hid (HB.out.trans (hbV.mono HB.out.size))
  clear HB
  have HB := HB'
  clear HB'
  have HVV := Lib.hid hV
  have O := Lib.hid hOV
  clear hhi2 hlo2 ho2 hb2 hbV hOV Va hV
  go_wp2_with fail
  rw [← HVV.out]
  clear ka0 hlx hdiv
  go_loopw [29] (fun i wr => ∃ k : Nat, k ≤ n ∧ i = .int .i64 k ∧ Blk wr (w.heap.size + 1) 38 #[.int .i64 0, .slice none 0 0] ∧ (∃ b', (w.heap.size + 1 < b' ∧ b' ≠ x2.heap.size) ∧ SetVar wr x2.heap.size n (some ⟨b', 0, none⟩) m m (packT (quantT o vars t k))) ∧ Below w.heap.size w wr) (fun i _ => n - (intOf i).toNat)
  case atStart => exact ⟨0, Nat.zero_le _, rfl, R.out, ⟨b, ⟨HBB.out.1, by have := HBB.out.2; omega⟩, O.out⟩, HB.out⟩
  case round =>
    obtain ⟨k, hk, rfl, hR, ⟨b', hb', hO⟩, hbw⟩ := hrel
    have R := Lib.hid hR
    have O := Lib.hid hO
    have HB := Lib.hid hbw
    have HBB := Lib.hid hb'
    have HXL := Lib.hid hO.blk.lt
    clear hR hO hbw hb'
    by_cases hlt : k < n
    · have hbt := HBT.out k
      cases hbit : vars.testBit k
      · rw [hbit] at hbt
        simp only [Bool.false_eq_true, if_false, if_true] at hbt
        have HSTK := Lib.hid (HST0.out k hbit)
        clear hbit
        go_wp2_with fail
        go_roundw
        case rel => exact ⟨k + 1, by omega, by go_num, R.out, ⟨b', HBB.out, by rw [HSTK.out]; exact O.out⟩, HB.out⟩
        case measure => simp [intOf]; omega
      · rw [hbit] at hbt
        simp only [Bool.false_eq_true, if_false, if_true] at hbt
        have HSTK := Lib.hid (HST1.out k hbit)
        clear hbit
        have p0 := O.out.c0
        have p1 := O.out.c1
        go_wp2_with fail
        go_region_with (first
          | (go_at_call_of 245 (Value.bool false); refine (HX0.out _ _ _ _ k hlt (O.out.arg.on ?_)).mono ?_; (with_reducible (first | exact Below.refl _ _ | exact (Below.refl _ _).drew | exact hbK0 | exact hbK0.drew | exact hbK1 | exact hbK1.drew)); rintro e w0 ⟨b0, rfl, hlo0, hhi0, T0, hb0⟩; have hbK0 : Below wr.heap.size wr w0 := (by first | exact (Below.refl _ _).drew.trans hb0 | exact (Below.refl _ _).trans hb0); have hO0 := O.out.on hbK0; have q0 := hO0.c0; have q1 := hO0.c1; clear hO0)
          | (go_at_call_of 245 (Value.bool true); refine (HX1.out _ _ _ _ k hlt (O.out.arg.on ?_)).mono ?_; (with_reducible (first | exact Below.refl _ _ | exact (Below.refl _ _).drew | exact hbK0 | exact hbK0.drew | exact hbK1 | exact hbK1.drew)); rintro e w1 ⟨b1, rfl, hlo1, hhi1, T1, hb1⟩; have hbK1 : Below wr.heap.size wr w1 := (by first | exact hbK0.trans (hb1.mono hbK0.size) | exact hbK0.drew.trans (hb1.mono hbK0.size)))
          | (go_at_call 144; refine (HOP.out _ _ _ _ _ _ _ k (by first | exact T0.on hb1 | exact T0.on ((Below.refl _ _).drew.trans hb1)) T1).mono ?_; rintro e w2 ⟨b2, rfl, hlo2, hhi2, T2, hb2⟩; have hbK2 : Below wr.heap.size wr w2 := (by first | exact hbK1.trans (hb2.mono hbK1.size) | exact hbK1.drew.trans (hb2.mono hbK1.size)); have hlo := Nat.le_trans hbK1.size hlo2; have hO2 := O.out.on hbK2; have q0 := hO2.c0; have q1 := hO2.c1; have z0 := hO2.blk.frozen 0; have z1 := hO2.blk.frozen 1; have HO2 := Lib.hid hO2.blk; clear hO2)
          | fail)
        all_goals
          have HT2 := Lib.hid T2
          have HLO := Lib.hid hlo
          have HHI := Lib.hid hhi2
          have R2 := Lib.hid (R.out.onB hbK2)
          have HB2 := Lib.hid (HB.out.trans (hbK2.mono HB.out.size))
          clear hbK0 hbK1 hbK2 T0 T1 T2 hlo hlo0 hlo1 hlo2 hhi0 hhi1 hhi2 hb0 hb1 hb2 z0 z1
          clear p0 p1
          go_wp2_with fail
          go_roundw
          case rel =>
            have h1 := HXL.out; have h2 := HSX.out; have h3 := HLO.out; have h4 := HBB.out
            exact ⟨k + 1, by omega, by go_num, (R2.out.far (p := ⟨x2.heap.size, 0, none⟩) (by simp only; omega) _).far (p := ⟨x2.heap.size, 1, none⟩) (by simp only; omega) _, ⟨b2, ⟨by omega, by omega⟩, by rw [HSTK.out]; exact SetVar.put HO2.out HT2.out (by omega)⟩, (HB2.out.setCell (p := ⟨x2.heap.size, 0, none⟩) (by simp only; omega) _).setCell (p := ⟨x2.heap.size, 1, none⟩) (by simp only; omega) _⟩
          case measure => simp [intOf]; omega
    · obtain rfl : k = n := by omega
      have p0 := O.out.c0
      have p1 := O.out.c1
      have n0 := R.out.cell 0
      have n1 := R.out.cell 1
      have z0 := R.out.frozen 0
      have z1 := R.out.frozen 1
      go_wp2_with fail
      refine bodyPost_ret (v := .tuple #[.agg #[.int .i64 (k : Nat), .slice (some ⟨b', 0, none⟩) m m], .int .u8 0]) ?_ rfl ⟨b', rfl, by have := HBB.out; omega, ?_, ?_, ?_⟩
      · simp [results, Tryz.results240, go_sem, *]
      · have := O.out.arg.blk_lt HMP.out; simp only [World.size_setCell]; omega
      · have h1 := HBB.out; have h2 := R.out.lt; exact (O.out.arg.store (p := ⟨w.heap.size + 1, 0, none⟩) (by simp only; omega) _ h2).store (p := ⟨w.heap.size + 1, 1, none⟩) (by simp only; omega) _ (by rw [World.size_setCell]; exact h2)
      · exact (HB.out.setCell (by simp only; omega) _).setCell (by simp only; omega) _
set_option maxRecDepth 100000 in
set_option maxHeartbeats 8000000 in
theorem sExists_no (m : Int) (vars : Nat) (A : Option Addr) (len c : Nat) (ws : List Nat) (w : World) (h : SetArg w m A len c ws) (hvars : vars < 65536) (q : Int) (hno : (srightB m ws = false ∧ q = 1) ∨ (∃ n : Nat, m = n ∧ n ≤ 16 ∧ srightB m ws = true ∧ q = 3 ∧ 2 ^ n ≤ vars)) :
    Calls Tryz.prog 238 #[setA m A len c, .int .u16 (vars : Nat)] w (SetErr w q) := by
  have HQ := Lib.hid (fun W' (h : SetArg W' m A len c ws) => squant_no m vars 14 A len c ws W' h hvars q hno)
  unfold SetErr setA at *
  obtain ⟨W0, hW0⟩ : ∃ W0, W0 = ((w.alloc (.cells #[.int .i64 m, .slice A len c] 38)).alloc (.cells #[.int .i64 0, .slice none 0 0] 38)) := ⟨_, rfl⟩
  have hb0 : Below w.heap.size w W0 := by rw [hW0]; exact (((Below.refl _ _).alloc (by simp) (.cells #[.int .i64 m, .slice A len c] 38)).alloc (by simp) (.cells #[.int .i64 0, .slice none 0 0] 38))
  have hv0 : SetVar W0 (w.heap.size) m A len c ws := by
    have := SetVar.new h
    rw [hW0]; exact (this.alloc _)
  have hv1 : Blk W0 (w.heap.size + 1) 38 #[.int .i64 0, .slice none 0 0] := by
    have := Blk.new (w.alloc (.cells #[.int .i64 m, .slice A len c] 38)) 38 #[.int .i64 0, .slice none 0 0]
    simp only [World.size_alloc] at this
    rw [hW0]; exact this
  have HWW := Lib.hid hW0
  have HB := Lib.hid hb0
  have Va := Lib.hid hv0
  have R := Lib.hid hv1
  clear hb0 hv0 hv1 h hno
  go_enter Tryz.func238, Tryz.ntmps238
  go_wp2_with fail
  rw [← HWW.out]
  clear hW0
  have kVa0 := Va.out.c0
  have kVa1 := Va.out.c1
  go_wp2_with fail
  refine (HQ.out _ Va.out.arg).mono ?_
  rintro e x1 ⟨rfl, hb1⟩
  clear kVa0 kVa1
  have Va' := Lib.hid (Va.out.on hb1)
  clear Va
  have Va := Va'
  clear Va'
  have R' := Lib.hid (R.out.onB hb1)
  clear R
  have R := R'
  clear R'
  have HB' := Lib.hid (HB.out.trans (hb1.mono HB.out.size))
  clear HB
  have HB := HB'
  clear HB'
  clear hb1
  have kR0 := R.out.cell 0
  have zR0 := R.out.frozen 0
  have kR1 := R.out.cell 1
  have zR1 := R.out.frozen 1
  go_wp2_with fail
  refine bodyPost_ret (v := .tuple #[.agg #[.int .i64 0, .slice none 0 0], .int .u8 q]) ?_ rfl ⟨rfl, ?_⟩
  · simp [results, Tryz.results238, go_sem, *]
  · first | exact HB.out | exact (HB.out.setCell (by simp only; omega) _).setCell (by simp only; omega) _
set_option maxRecDepth 100000 in
set_option maxHeartbeats 8000000 in
theorem sExists_any (n vars : Nat) (hvars : vars < 2 ^ n) (A : Option Addr) (len c : Nat) (t : List Bool) (w : World) (hn : n ≤ 16) (ht : t.length = 2 ^ n) (h : SetArg w n A len c (packT t)) :
    Calls Tryz.prog 238 #[setA n A len c, .int .u16 (vars : Nat)] w (SetNewT w n (quantT 14 vars t n)) := by
  have HQ := Lib.hid (fun W' (h : SetArg W' n A len c (packT t)) => squant_any n vars 14 (by omega) hvars A len c t W' hn ht h)
  unfold SetNewT SetNew setA at *
  have HMP := Lib.hid (wordsN_pos n)
  generalize wordsN n = m at *
  obtain ⟨W0, hW0⟩ : ∃ W0, W0 = ((w.alloc (.cells #[.int .i64 n, .slice A len c] 38)).alloc (.cells #[.int .i64 0, .slice none 0 0] 38)) := ⟨_, rfl⟩
  have hb0 : Below w.heap.size w W0 := by rw [hW0]; exact (((Below.refl _ _).alloc (by simp) (.cells #[.int .i64 n, .slice A len c] 38)).alloc (by simp) (.cells #[.int .i64 0, .slice none 0 0] 38))
  have hv0 : SetVar W0 (w.heap.size) n A len c (packT t) := by
    have := SetVar.new h
    rw [hW0]; exact (this.alloc _)
  have hv1 : Blk W0 (w.heap.size + 1) 38 #[.int .i64 0, .slice none 0 0] := by
    have := Blk.new (w.alloc (.cells #[.int .i64 n, .slice A len c] 38)) 38 #[.int .i64 0, .slice none 0 0]
    simp only [World.size_alloc] at this
    rw [hW0]; exact this
  have HWW := Lib.hid hW0
  have HB := Lib.hid hb0
  have Va := Lib.hid hv0
  have R := Lib.hid hv1
  clear hb0 hv0 hv1 h 
  go_enter Tryz.func238, Tryz.ntmps238
  go_wp2_with fail
  rw [← HWW.out]
  clear hW0
  have kVa0 := Va.out.c0
  have kVa1 := Va.out.c1
  go_wp2_with fail
  refine (HQ.out _ Va.out.arg).mono ?_
  rintro e x2 ⟨b, rfl, hlo2, hhi2, ho2, hb2⟩
  clear kVa0 kVa1
  have HSZ := Lib.hid R.out.lt
  have HBB : Hid (w.heap.size + 1 < b ∧ b < x2.heap.size) := Lib.hid ⟨by have := HSZ.out; omega, hhi2⟩
  have Va' := Lib.hid (Va.out.on hb2)
  clear Va
  have Va := Va'
  clear Va'
  have R' := Lib.hid (R.out.onB hb2)
  clear R
  have R := R'
  clear R'
  have HB' := Lib.hid (HB.out.trans (hb2.mono HB.out.size))
  clear HB
  have HB := HB'
  clear HB'
  have HA := Lib.hid ho2
  clear ho2 hb2 hlo2 hhi2
  have kR0 := R.out.cell 0
  have zR0 := R.out.frozen 0
  have kR1 := R.out.cell 1
  have zR1 := R.out.frozen 1
  go_wp2_with fail
  refine bodyPost_ret (v := .tuple #[.agg #[.int .i64 (n : Nat), .slice (some ⟨b, 0, none⟩) m m], .int .u8 0]) ?_ rfl ⟨b, rfl, by have := HBB.out; omega, ?_, ?_, ?_⟩
  · simp [results, Tryz.results238, go_sem, *]
  · have := HBB.out; simp only [World.size_setCell]; omega
  · have h1 := HBB.out; have h2 := R.out.lt; exact (HA.out.store (p := ⟨w.heap.size + 1, 0, none⟩) (by simp only; omega) _ h2).store (p := ⟨w.heap.size + 1, 1, none⟩) (by simp only; omega) _ (by rw [World.size_setCell]; exact h2)
  · exact (HB.out.setCell (by simp only; omega) _).setCell (by simp only; omega) _
set_option maxRecDepth 100000 in
set_option maxHeartbeats 8000000 in
theorem sForall_no (m : Int) (vars : Nat) (A : Option Addr) (len c : Nat) (ws : List Nat) (w : World) (h : SetArg w m A len c ws) (hvars : vars < 65536) (q : Int) (hno : (srightB m ws = false ∧ q = 1) ∨ (∃ n : Nat, m = n ∧ n ≤ 16 ∧ srightB m ws = true ∧ q = 3 ∧ 2 ^ n ≤ vars)) :
    Calls Tryz.prog 237 #[setA m A len c, .int .u16 (vars : Nat)] w (SetErr w q) := by
  have HQ := Lib.hid (fun W' (h : SetArg W' m A len c ws) => squant_no m vars 8 A len c ws W' h hvars q hno)
  unfold SetErr setA at *
  obtain ⟨W0, hW0⟩ : ∃ W0, W0 = ((w.alloc (.cells #[.int .i64 m, .slice A len c] 38)).alloc (.cells #[.int .i64 0, .slice none 0 0] 38)) := ⟨_, rfl⟩
  have hb0 : Below w.heap.size w W0 := by rw [hW0]; exact (((Below.refl _ _).alloc (by simp) (.cells #[.int .i64 m, .slice A len c] 38)).alloc (by simp) (.cells #[.int .i64 0, .slice none 0 0] 38))
  have hv0 : SetVar W0 (w.heap.size) m A len c ws := by
    have := SetVar.new h
    rw [hW0]; exact (this.alloc _)
  have hv1 : Blk W0 (w.heap.size + 1) 38 #[.int .i64 0, .slice none 0 0] := by
    have := Blk.new (w.alloc (.cells #[.int .i64 m, .slice A len c] 38)) 38 #[.int .i64 0, .slice none 0 0]
    simp only [World.size_alloc] at this
    rw [hW0]; exact this
  have HWW := Lib.hid hW0
  have HB := Lib.hid hb0
  have Va := Lib.hid hv0
  have R := Lib.hid hv1
  clear hb0 hv0 hv1 h hno
  go_enter Tryz.func237, Tryz.ntmps237
  go_wp2_with fail
  rw [← HWW.out]
  clear hW0
  have kVa0 := Va.out.c0
  have kVa1 := Va.out.c1
  go_wp2_with fail
  refine (HQ.out _ Va.out.arg).mono ?_
  rintro e x1 ⟨rfl, hb1⟩
  clear kVa0 kVa1
  have Va' := Lib.hid (Va.out.on hb1)
  clear Va
  have Va := Va'
  clear Va'
  have R' := Lib.hid (R.out.onB hb1)
  clear R
  have R := R'
  clear R'
  have HB' := Lib.hid (HB.out.trans (hb1.mono HB.out.size))
  clear HB
  have HB := HB'
  clear HB'
  clear hb1
  have kR0 := R.out.cell 0
  have zR0 := R.out.frozen 0
  have kR1 := R.out.cell 1
  have zR1 := R.out.frozen 1
  go_wp2_with fail
  refine bodyPost_ret (v := .tuple #[.agg #[.int .i64 0, .slice none 0 0], .int .u8 q]) ?_ rfl ⟨rfl, ?_⟩
  · simp [results, Tryz.results237, go_sem, *]
  · first | exact HB.out | exact (HB.out.setCell (by simp only; omega) _).setCell (by simp only; omega) _
set_option maxRecDepth 100000 in
set_option maxHeartbeats 8000000 in
theorem sForall_any (n vars : Nat) (hvars : vars < 2 ^ n) (A : Option Addr) (len c : Nat) (t : List Bool) (w : World) (hn : n ≤ 16) (ht : t.length = 2 ^ n) (h : SetArg w n A len c (packT t)) :
    Calls Tryz.prog 237 #[setA n A len c, .int .u16 (vars : Nat)] w (SetNewT w n (quantT 8 vars t n)) := by
  have HQ := Lib.hid (fun W' (h : SetArg W' n A len c (packT t)) => squant_any n vars 8 (by omega) hvars A len c t W' hn ht h)
  unfold SetNewT SetNew setA at *
  have HMP := Lib.hid (wordsN_pos n)
  generalize wordsN n = m at *
  obtain ⟨W0, hW0⟩ : ∃ W0, W0 = ((w.alloc (.cells #[.int .i64 n, .slice A len c] 38)).alloc (.cells #[.int .i64 0, .slice none 0 0] 38)) := ⟨_, rfl⟩
  have hb0 : Below w.heap.size w W0 := by rw [hW0]; exact (((Below.refl _ _).alloc (by simp) (.cells #[.int .i64 n, .slice A len c] 38)).alloc (by simp) (.cells #[.int .i64 0, .slice none 0 0] 38))
  have hv0 : SetVar W0 (w.heap.size) n A len c (packT t) := by
    have := SetVar.new h
    rw [hW0]; exact (this.alloc _)
  have hv1 : Blk W0 (w.heap.size + 1) 38 #[.int .i64 0, .slice none 0 0] := by
    have := Blk.new (w.alloc (.cells #[.int .i64 n, .slice A len c] 38)) 38 #[.int .i64 0, .slice none 0 0]
    simp only [World.size_alloc] at this
    rw [hW0]; exact this
  have HWW := Lib.hid hW0
  have HB := Lib.hid hb0
  have Va := Lib.hid hv0
  have R := Lib.hid hv1
  clear hb0 hv0 hv1 h 
  go_enter Tryz.func237, Tryz.ntmps237
  go_wp2_with fail
  rw [← HWW.out]
  clear hW0
  have kVa0 := Va.out.c0
  have kVa1 := Va.out.c1
  go_wp2_with fail
  refine (HQ.out _ Va.out.arg).mono ?_
  rintro e x2 ⟨b, rfl, hlo2, hhi2, ho2, hb2⟩
  clear kVa0 kVa1
  have HSZ := Lib.hid R.out.lt
  have HBB : Hid (w.heap.size + 1 < b ∧ b < x2.heap.size) := Lib.hid ⟨by have := HSZ.out; omega, hhi2⟩
  have Va' := Lib.hid (Va.out.on hb2)
  clear Va
  have Va := Va'
  clear Va'
  have R' := Lib.hid (R.out.onB hb2)
  clear R
  have R := R'
  clear R'
  have HB' := Lib.hid (HB.out.trans (hb2.mono HB.out.size))
  clear HB
  have HB := HB'
  clear HB'
  have HA := Lib.hid ho2
  clear ho2 hb2 hlo2 hhi2
  have kR0 := R.out.cell 0
  have zR0 := R.out.frozen 0
  have kR1 := R.out.cell 1
  have zR1 := R.out.frozen 1
  go_wp2_with fail
  refine bodyPost_ret (v := .tuple #[.agg #[.int .i64 (n : Nat), .slice (some ⟨b, 0, none⟩) m m], .int .u8 0]) ?_ rfl ⟨b, rfl, by have := HBB.out; omega, ?_, ?_, ?_⟩
  · simp [results, Tryz.results237, go_sem, *]
  · have := HBB.out; simp only [World.size_setCell]; omega
  · have h1 := HBB.out; have h2 := R.out.lt; exact (HA.out.store (p := ⟨w.heap.size + 1, 0, none⟩) (by simp only; omega) _ h2).store (p := ⟨w.heap.size + 1, 1, none⟩) (by simp only; omega) _ (by rw [World.size_setCell]; exact h2)
  · exact (HB.out.setCell (by simp only; omega) _).setCell (by simp only; omega) _
end Go.Proofs.YtbhbhfplpbcfiaaGreatDoor
end

section
namespace Go.Proofs.YtbhbhfplpbcfiaaGreatDoor
open Go.RowKit Go.Sort
set_option linter.unusedSimpArgs false
set_option linter.unusedVariables false

set_option maxRecDepth 100000 in
set_option maxHeartbeats 8000000 in
theorem rwith_any (n v b : Nat) (hn : n ≤ 16) (hv : v < n) (hb : b ≤ 1) (A : Option Addr) (c : Nat) (t : List Bool) (w : World) (h : TabArg w A (2 ^ n) c t) :
    Calls Tryz.prog 64 #[.slice A (2 ^ n : Nat) c, .int .i64 (v : Nat), .int .i64 (b : Nat)] w (TabRes w (withT t v b)) := by
  obtain ⟨i0, hi, hz0, hz1, hz2⟩ := info_parts info_bool5
  have hN := pow16 hn
  obtain ⟨b1, off1, rfl, hb1, hv1⟩ := h.val (Nat.two_pow_pos n)
  have HV1 := Lib.hid hv1
  have hput : ∀ x, x < 2 ^ n → putV x v b < 2 ^ n := fun x hx => by
    rcases Nat.le_one_iff_eq_zero_or_eq_one.1 hb with rfl | rfl
    · exact putV_lt false hx hv
    · exact putV_lt true hx hv
  have HPT := Lib.hid hput
  have HPU := Lib.hid (fun W x (hx : x ≤ 1000000) => rput_any x v b hx (by omega) hb W)
  obtain ⟨f, hf⟩ : ∃ f : Nat → Bool, f = fun x => tat t (putV x v b) := ⟨_, rfl⟩
  have hT : withT t v b = (List.range (2 ^ n)).map f := by rw [hf, ← h.hlen]; rfl
  have HF : Hid (∀ x, tat t (putV x v b) = f x) := Lib.hid (fun x => (congrFun hf x).symm)
  rw [hT]
  unfold TabRes
  rw [List.length_map, List.length_range]
  generalize 2 ^ n = N at *
  clear h hv1 hf hT hput
  go_enter Tryz.func64, Tryz.ntmps64
  go_wp2_with fail
  go_loopw [7, 8] (fun v i wr => ∃ k : Nat, k ≤ N ∧ i = .int .i64 k ∧ OwnF Value.bool 4 wr w.heap.size v ((List.range k).map f) ∧ Below w.heap.size w wr) (fun _ i _ => N - (intOf i).toNat)
  case atStart => exact ⟨0, Nat.zero_le _, rfl, OwnF.nil_, Below.refl _ _⟩
  case round =>
    obtain ⟨k, hk, rfl, hown, hb⟩ := hrel
    by_cases hlt : k < N
    · have hx := HPT.out k hlt
      have c1' := HV1.out wr (putV k v b) hb hx
      rw [HF.out] at c1'
      have hpu := fun W => HPU.out W k (by omega)
      have HPK := Lib.hid hpu
      have HB := Lib.hid hb
      have HOWN := Lib.hid hown
      have hsz := hb.size
      obtain ⟨y, hy⟩ : ∃ y, y = f k := ⟨_, rfl⟩
      have HY := Lib.hid hy.symm
      rw [← hy] at c1'
      clear hy hb hown hpu
      generalize putV k v b = p at *
      go_wp2_with fail
      refine (HPK.out _).mono ?_
      rintro e w' ⟨rfl, rfl⟩
      go_wp2_with (at_builtin; refine wp_app1 (f := Value.bool) Tryz.underlying43 hi hz0 hz1 hz2 rfl (by omega) wr rfl _ _ rfl w.heap.size _ ((List.range k).map f) y 1 rfl HOWN.out hsz (by simp; omega) rfl rfl (by first | rfl | simp [World.setCell]) ?_; intro v1 w1 hown1 hb1 hs1 hg1 hv1)
      go_roundw
      case rel => exact ⟨k + 1, by omega, by go_num, by rw [range_snoc, HY.out]; exact hown1, HB.out.trans hb1⟩
      case measure => simp [intOf]; omega
    · obtain rfl : k = N := by omega
      obtain ⟨A', m', c', rfl, hml, _⟩ := hown.form
      have HB := Lib.hid hb
      have HOWN := Lib.hid hown
      clear hb hown
      go_wp2_with fail
      go_ret
      have hml2 : m' = k := by rw [← hml]; simp
      subst hml2
      exact ⟨A', c', rfl, HOWN.out, HB.out⟩
theorem rwith_tab (n v b : Nat) (hn : n ≤ 16) (hv : v < n) (hb : b ≤ 1) (A : Option Addr) (c : Nat) (t : List Bool) (w : World) (h : TabArg w A (2 ^ n) c t) :
    Calls Tryz.prog 64 #[.slice A (2 ^ n : Nat) c, .int .i64 (v : Nat), .int .i64 (b : Nat)] w fun e w' => ∃ B d, e = .returned (.slice B (2 ^ n) d) ∧ TabArg w' B (2 ^ n) d (withT t v b) ∧ Below w.heap.size w w' := by
  refine (rwith_any n v b hn hv hb A c t w h).mono ?_
  rintro e w' ⟨B, d, rfl, hown, hbel⟩
  have hl : (withT t v b).length = 2 ^ n := by rw [withT_length, h.hlen]
  rw [hl] at hown ⊢
  exact ⟨B, d, rfl, own_tab hown hl (pow16 hn), hbel⟩
end Go.Proofs.YtbhbhfplpbcfiaaGreatDoor
end

section
namespace Go.Proofs.YtbhbhfplpbcfiaaGreatDoor
open Go.RowKit Go.Sort
set_option linter.unusedSimpArgs false
set_option linter.unusedVariables false

/-- a row filled so far with another one's values -/
def mixB (new old : List Bool) (j : Nat) : List Bool := new.take j ++ old.drop j
theorem mixB_zero (new old : List Bool) : mixB new old 0 = old := by simp [mixB]
theorem mixB_all {new old : List Bool} {N : Nat} (h1 : new.length = N) (h2 : old.length = N) : mixB new old N = new := by
  unfold mixB; rw [List.take_of_length_le (by omega), List.drop_of_length_le (by omega), List.append_nil]
theorem mixB_length {new old : List Bool} {N j : Nat} (h1 : new.length = N) (h2 : old.length = N) (hj : j ≤ N) : (mixB new old j).length = N := by
  unfold mixB; simp; omega
theorem mixB_set {new old : List Bool} {N j : Nat} (h1 : new.length = N) (h2 : old.length = N) (hj : j < N) {x : Bool} (hx : tat new j = x) : (mixB new old j).set j x = mixB new old (j + 1) := by
  subst hx
  apply List.ext_getElem
  · rw [List.length_set, mixB_length h1 h2 (by omega), mixB_length h1 h2 (by omega)]
  · intro i hi1 hi2
    rw [List.length_set, mixB_length h1 h2 (by omega)] at hi1
    simp only [mixB, List.getElem_set, List.getElem_append, List.length_take, List.getElem_take, List.getElem_drop, h1]
    have hm : min j N = j := by omega
    have hm1 : min (j + 1) N = j + 1 := by omega
    simp only [hm, hm1]
    by_cases hji : j = i
    · subst hji
      rw [if_pos rfl, dif_pos (by omega)]
      unfold tat
      rw [List.getElem?_eq_getElem (by omega)]; rfl
    · rw [if_neg hji]
      by_cases hlt : i < j
      · rw [dif_pos hlt, dif_pos (by omega)]
      · rw [dif_neg hlt, dif_neg (by omega)]
        congr 1; omega
def exO (each : Bool) : Nat := if each then 8 else 14
def exB (a b each : Bool) : Bool := a && b || (!each && (a || b))
theorem exO_bit : ∀ a b each : Bool, (exO each).testBit (2 * a.toNat + b.toNat) = exB a b each := by decide
theorem exT_at (each : Bool) {t1 t2 : List Bool} {N j : Nat} (h1 : t1.length = N) (hj : j < N) : tat (opT (exO each) t1 t2) j = exB (tat t1 j) (tat t2 j) each := by
  unfold opT
  rw [tat, List.getElem?_map, List.getElem?_range (by omega)]
  simp only [Option.map_some, Option.getD_some]
  exact exO_bit _ _ _
theorem exO_le (each : Bool) : exO each ≤ 15 := by cases each <;> decide
set_option maxRecDepth 100000 in
set_option maxHeartbeats 8000000 in
theorem rexists_any (n vars : Nat) (each : Bool) (hn : n ≤ 16) (hvars : vars < 65536) (A : Option Addr) (c : Nat) (t : List Bool) (w : World) (h : TabArg w A (2 ^ n) c t) :
    Calls Tryz.prog 39 #[.slice A (2 ^ n : Nat) c, .int .i64 (vars : Nat), .bool each] w (TabRes w (quantT (exO each) vars t n)) := by
  obtain ⟨i0, hi, hz0, hz1, hz2⟩ := info_parts info_bool5
  have hN := pow16 hn
  have hN1 := Nat.two_pow_pos n
  have hsrc := Lib.hid ((h.row.src h.hlen).alloc (.cells #[] 4))
  have hown0 : OwnF Value.bool 4 (w.alloc (.cells #[] 4)) w.heap.size (.slice (some ⟨w.heap.size, 0, none⟩) 0 0) [] := World.ownsRow_lit w #[] 0 (Nat.le_refl _) (by unfold maxLen; omega) rfl
  have hown := Lib.hid hown0
  have HTL : Hid (t.length = 2 ^ n) := Lib.hid h.hlen
  have HVR := Lib.hid (fun W A c => rvars_any n hn A c W)
  have HVA := Lib.hid (fun W v (hv : v ≤ 16) => rvalue_any vars v (by omega) hv W)
  have HQL : Hid (∀ k, (quantT (exO each) vars t k).length = 2 ^ n) := Lib.hid (fun k => by rw [quantT_length, h.hlen])
  have HWI := Lib.hid (fun W A c t v b (hv : v < n) (hb : b ≤ 1) (h : TabArg W A (2 ^ n) c t) => rwith_any n v b hn hv hb A c t W h)
  have HST1 : Hid (∀ k, vars.testBit k = true → quantT (exO each) vars t (k + 1) = opT (exO each) (withT (quantT (exO each) vars t k) k 0) (withT (quantT (exO each) vars t k) k 1)) := Lib.hid (fun k hk => by rw [quantT, if_pos hk])
  have HST0 : Hid (∀ k, vars.testBit k = false → quantT (exO each) vars t (k + 1) = quantT (exO each) vars t k) := Lib.hid (fun k hk => by rw [quantT, if_neg (by simp [hk])])
  have HZ : Hid (quantT (exO each) vars t 0 = t) := Lib.hid rfl
  have HWL : Hid (∀ k v b, (withT (quantT (exO each) vars t k) v b).length = 2 ^ n) := Lib.hid (fun k v b => by rw [withT_length, quantT_length, h.hlen])
  unfold TabRes at *
  have HQN := Lib.hid (HQL.out n)
  rw [HQN.out]
  generalize 2 ^ n = N at *
  clear h hown0
  go_enter Tryz.func39, Tryz.ntmps39
  go_wp2_with (at_builtin; refine wp_appN (f := Value.bool) Tryz.underlying43 hi hz0 hz1 hz2 rfl (by omega) _ rfl _ _ rfl w.heap.size _ [] t A N c (fun _ => rfl) hown.out hsrc.out (by simp) (by simp; omega) rfl rfl ?_; intro v1 w1 hown1 hb1 hs1 hg1 hv1)
  simp only [List.nil_append] at hown1
  obtain ⟨g, c1, rfl, hgb, hgl, hgc⟩ := hown1.head (by rw [HTL.out]; exact hN1)
  rw [HTL.out] at hown1 hgc ⊢
  have HC := Lib.hid hown1.cap_le
  have HB1 := Lib.hid (((Below.refl _ _).alloc (Nat.le_refl _) _).trans hb1)
  have HO := Lib.hid hown1
  have HG := Lib.hid hgl
  clear hown1 hb1 hs1 hg1 hv1 hgl
  go_wp2_with fail
  go_loopw [8] (fun i wr => ∃ k : Nat, k ≤ n ∧ i = .int .i64 k ∧ OwnF Value.bool 4 wr w.heap.size (.slice (some ⟨g, 0, none⟩) N c1) (quantT (exO each) vars t k) ∧ Below w.heap.size w wr) (fun i _ => n - (intOf i).toNat)
  case atStart => exact ⟨0, Nat.zero_le _, rfl, by rw [HZ.out]; exact HO.out, HB1.out⟩
  case round =>
    obtain ⟨k, hk, rfl, hown, hb⟩ := hrel
    have HO := Lib.hid hown
    have HB := Lib.hid hb
    clear hown hb
    by_cases hlt : k < n
    · have hva := fun W => HVA.out W k (by omega)
      cases hbit : vars.testBit k
      · rw [hbit] at hva
        simp only [Bool.toNat_false, Bool.toNat_true] at hva
        have HVK := Lib.hid hva
        have HSTK := Lib.hid (HST0.out k hbit)
        clear hbit hva
        go_wp2_with fail
        refine (HVR.out _ _ _).mono ?_
        rintro e w' ⟨rfl, rfl⟩
        go_wp2_with fail
        refine (HVK.out _).mono ?_
        rintro e w' ⟨rfl, rfl⟩
        go_wp2_with fail
        go_roundw
        case rel => exact ⟨k + 1, by omega, by go_num, by rw [HSTK.out]; exact HO.out, HB.out⟩
        case measure => simp [intOf]; omega
      · rw [hbit] at hva
        simp only [Bool.toNat_false, Bool.toNat_true] at hva
        have HVK := Lib.hid hva
        have HSTK := Lib.hid (HST1.out k hbit)
        clear hbit hva
        go_wp2_with fail
        refine (HVR.out _ _ _).mono ?_
        rintro e w' ⟨rfl, rfl⟩
        go_wp2_with fail
        refine (HVK.out _).mono ?_
        rintro e w' ⟨rfl, rfl⟩
        go_wp2_with fail
        refine (HWI.out _ _ _ _ k 0 hlt (by omega) (own_tab HO.out (HQL.out k) hN)).mono ?_
        rintro e wa ⟨A1, d1, rfl, hoa, hba⟩
        rw [HWL.out] at hoa ⊢
        have HOA := Lib.hid hoa
        have HO2 := Lib.hid (HO.out.below hba)
        have HB2 := Lib.hid (HB.out.trans (hba.mono HB.out.size))
        have hgw : g < wr.heap.size := (HO.out.lt g rfl).2
        have HGW := Lib.hid hgw
        have HS2 := Lib.hid hba.size
        clear hoa hba hgw
        go_wp2_with fail
        refine (HWI.out _ _ _ _ k 1 hlt (by omega) (own_tab HO2.out (HQL.out k) hN)).mono ?_
        rintro e wb ⟨A2, d2, rfl, hob, hbb⟩
        rw [HWL.out] at hob ⊢
        have HOB := Lib.hid (hob.mono HS2.out)
        have HOA2 := Lib.hid (HOA.out.below hbb)
        have HO3 := Lib.hid (HO2.out.below hbb)
        have HB3 := Lib.hid (HB2.out.trans (hbb.mono HB2.out.size))
        have HS3 := Lib.hid (Nat.le_trans HS2.out hbb.size)
        clear hob hbb
        obtain ⟨ga, ca, eA, hga1, hga2, hga3⟩ := HOA2.out.head (by rw [HWL.out]; exact hN1)
        rw [HWL.out] at eA hga3
        injection eA with eA _ eC
        subst eA eC
        obtain ⟨gb, cb, eB, hgb1, hgb2, hgb3⟩ := HOB.out.head (by rw [HWL.out]; exact hN1)
        rw [HWL.out] at eB hgb3
        injection eB with eB _ eC
        subst eB eC
        have HWA := HWL.out k k 0
        have HWB := HWL.out k k 1
        have HQK := HQL.out k
        have HTX : Hid (∀ j, j < N → tat (quantT (exO each) vars t (k + 1)) j = exB (tat (withT (quantT (exO each) vars t k) k 0) j) (tat (withT (quantT (exO each) vars t k) k 1) j) each) := Lib.hid (fun j hj => by rw [HSTK.out]; exact exT_at each HWA hj)
        have HQ1 := HQL.out (k + 1)
        have HL := Lib.hid (And.intro HQ1 (And.intro HQK (And.intro HWA HWB)))
        generalize withT (quantT (exO each) vars t k) k 0 = ta at *
        generalize withT (quantT (exO each) vars t k) k 1 = tb at *
        generalize hTN : quantT (exO each) vars t (k + 1) = tn at *
        have HTN := Lib.hid hTN
        clear hTN
        clear HWA HWB HQK HQ1
        obtain ⟨wo, rfl⟩ : ∃ wo : World, wo = wr := ⟨_, rfl⟩
        go_wp2_with fail
        go_loopw [11] (fun i wr => ∃ j : Nat, j ≤ N ∧ i = .int .i64 j ∧ OwnF Value.bool 4 wr w.heap.size (.slice (some ⟨g, 0, none⟩) N c1) (mixB tn (quantT (exO each) vars t k) j) ∧ OwnF Value.bool 4 wr wo.heap.size (.slice (some ⟨ga, 0, none⟩) N d1) ta ∧ OwnF Value.bool 4 wr wo.heap.size (.slice (some ⟨gb, 0, none⟩) N d2) tb ∧ Below w.heap.size w wr) (fun i _ => N - (intOf i).toNat)
        case atStart => exact ⟨0, Nat.zero_le _, rfl, by rw [mixB_zero]; exact HO3.out, HOA2.out, HOB.out, HB3.out⟩
        case round =>
          obtain ⟨j, hj, rfl, ho1, ho2, ho3, hb⟩ := hrel
          have H := Lib.hid (And.intro ho1 (And.intro ho2 (And.intro ho3 hb)))
          by_cases hjl : j < N
          · have ka := (ho2.at_ j (by rw [HL.out.2.2.1]; exact hjl)).1
            have kb := (ho3.at_ j (by rw [HL.out.2.2.2]; exact hjl)).1
            obtain ⟨uo, kc, kz⟩ := own_cell ho1 j (by rw [mixB_length HL.out.1 HL.out.2.1 (by omega)]; exact hjl)
            have hx := HTX.out j hjl
            have ka' : wr.cell? ⟨ga, j, none⟩ = some (.bool (tat ta j)) := by rw [ka]; unfold tat; rw [List.getElem?_eq_getElem (by rw [HL.out.2.2.1]; exact hjl)]; first | rfl | simp [List.getD]
            have kb' : wr.cell? ⟨gb, j, none⟩ = some (.bool (tat tb j)) := by rw [kb]; unfold tat; rw [List.getElem?_eq_getElem (by rw [HL.out.2.2.2]; exact hjl)]; first | rfl | simp [List.getD]
            clear ka kb ho1 ho2 ho3 hb
            generalize tat ta j = xa at *
            generalize tat tb j = xb at *
            cases xa <;> cases xb <;> cases each
            all_goals
              have HXX := Lib.hid hx
              clear hx
              go_wp2_with fail
              go_roundw
              case rel =>
                obtain ⟨ho1, ho2, ho3, hb⟩ := H.out
                have hst := ho1.set_ j (tat tn j)
                rw [mixB_set HL.out.1 HL.out.2.1 hjl rfl, HXX.out] at hst
                exact ⟨j + 1, by omega, by go_num, hst, ho2.set_below (a := ⟨g, j, none⟩) HGW.out _, ho3.set_below (a := ⟨g, j, none⟩) HGW.out _, hb.setCell (p := ⟨g, j, none⟩) hgb _⟩
              case measure => simp [intOf]; omega
          · obtain rfl : j = N := by omega
            clear ho1 ho2 ho3 hb
            go_wp2_with fail
            go_roundw
            case rel =>
              obtain ⟨ho1, ho2, ho3, hb⟩ := H.out
              rw [mixB_all HL.out.1 HL.out.2.1] at ho1
              exact ⟨k + 1, by omega, by go_num, by rw [HTN.out]; exact ho1, hb⟩
            case measure => simp [intOf]; omega
    · obtain rfl : k = n := by omega
      go_wp2_with fail
      refine (HVR.out _ _ _).mono ?_
      rintro e w' ⟨rfl, rfl⟩
      go_wp2_with fail
      go_ret
      exact ⟨_, _, rfl, HO.out, HB.out⟩
end Go.Proofs.YtbhbhfplpbcfiaaGreatDoor
end
