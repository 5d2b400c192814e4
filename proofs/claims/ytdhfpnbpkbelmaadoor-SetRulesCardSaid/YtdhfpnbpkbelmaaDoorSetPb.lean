/- Contract: set.Op. -/
import Derived.Test.YtdhfpnbpkbelmaaDoorSetPa
namespace Go.Proofs.YtdhfpnbpkbelmaaDoor
open Go.RowKit Go.Sort
set_option linter.unusedSimpArgs false
set_option linter.unusedVariables false

theorem own_cell {α : Type} {f : α → Value} {E : TypeId} {w : World} {base g n cap : Nat} {xs : List α} (h : OwnF f E w base (.slice (some ⟨g, 0, none⟩) n cap) xs) (k : Nat) (hk : k < xs.length) : ∃ u, w.cell? ⟨g, k, none⟩ = some (f u) ∧ w.frozen? ⟨g, k, none⟩ = false := by
  have h1 := h.at_ k hk
  rw [List.getElem?_eq_getElem hk] at h1
  exact ⟨_, h1⟩
theorem pair_ok {n : Nat} {ws ws' : List Nat} (h : SOk n ws) (h' : SOk n ws') : pairB (n : Int) (n : Int) ws ws' = true := by
  unfold pairB
  rw [(sright_iff h.lt).2 ⟨by omega, by simpa using h⟩, (sright_iff h'.lt).2 ⟨by omega, by simpa using h'⟩]
  simp
theorem pair_yes {m m' : Int} {ws ws' : List Nat} (hlt : ∀ v ∈ ws, v < 18446744073709551616) (hlt' : ∀ v ∈ ws', v < 18446744073709551616) (h : pairB m m' ws ws' = true) : ∃ n : Nat, m = n ∧ m' = n ∧ SOk n ws ∧ SOk n ws' := by
  unfold pairB at h
  rw [Bool.and_eq_true, Bool.and_eq_true, decide_eq_true_eq] at h
  obtain ⟨⟨h1, h2⟩, rfl⟩ := h
  obtain ⟨h0, h1⟩ := (sright_iff hlt).1 h1
  obtain ⟨_, h2⟩ := (sright_iff hlt').1 h2
  exact ⟨m.toNat, by omega, by omega, h1, h2⟩
/-- the argument's words, in later memory -/
theorem SetArg.word {w w' : World} {m : Int} {A : Option Addr} {len c : Nat} {ws : List Nat} (h : SetArg w m A len c ws) (hl : 0 < len) : ∃ b off, A = some ⟨b, off, none⟩ ∧ b < w.heap.size ∧ ∀ w' k, Below w.heap.size w w' → k < len → w'.cell? ⟨b, off + k, none⟩ = some (.int .u64 (wat ws k : Nat)) := by
  obtain ⟨b, off, rfl, hb, hcell⟩ := h.row (by rw [h.hlen]; exact hl)
  exact ⟨b, off, rfl, hb, fun w' k hw hk => (hw.cell (p := ⟨b, off + k, none⟩) hb).trans (hcell k (by rw [h.hlen]; exact hk))⟩
set_option maxRecDepth 100000 in
set_option maxHeartbeats 8000000 in
theorem sopS_any (o : Nat) (ho : o ≤ 15) (n : Nat) (A A' : Option Addr) (len len' c c' : Nat) (ws ws' : List Nat) (w : World) (h : SetArg w n A len c ws) (h' : SetArg w n A' len' c' ws') (hok : SOk n ws) (hok' : SOk n ws') :
    Calls Tryd.prog 29 #[.int .i64 (o : Nat), setA n A len c, setA n A' len' c'] w (SetRes2 w n ((List.range (wordsN n)).map fun k => opW o (wat ws k) (wat ws' k) &&& fullN n)) := by
  have hn := hok.n16
  obtain rfl : len = wordsN n := by rw [← h.hlen, hok.len]
  obtain rfl : len' = wordsN n := by rw [← h'.hlen, hok'.len]
  have hm := wordsN_le hn
  have hm1 := wordsN_pos n
  have hc1 := h.hcap
  have hc2 := h.hmax
  have hc3 := h'.hcap
  have hc4 := h'.hmax
  unfold maxLen at hc2 hc4
  have hpr := fun W' (h1 : SetArg W' n A (wordsN n) c ws) (h2 : SetArg W' n A' (wordsN n) c' ws') => spair_any n n A A' (wordsN n) (wordsN n) c c' ws ws' W' h1 h2
  rw [pair_ok hok hok'] at hpr
  have HPR := Lib.hid hpr
  have HBL := Lib.hid (fun W => sblank_any n hn W)
  have HFU := Lib.hid (fun W => sfull_any n hn W)
  have hfl := fullN_lt n
  have HOP := Lib.hid (fun W k => sop_any o (wat ws k) (wat ws' k) ho (wat_lt hok.lt k) (wat_lt hok'.lt k) W)
  have HAN := Lib.hid (fun k => u64_and_nat (opW o (wat ws k) (wat ws' k)) (fullN n) (opAcc_lt (wat_lt hok.lt k) (wat_lt hok'.lt k) 4) hfl)
  obtain ⟨g, hg⟩ : ∃ g : Nat → Nat, g = fun k => opW o (wat ws k) (wat ws' k) &&& fullN n := ⟨_, rfl⟩
  rw [← hg]
  have HG := Lib.hid (fun k => congrFun hg k)
  have hv1 := SetVar.new h
  have hv2 := SetVar.new (h'.alloc (.cells #[.int .i64 (n : Nat), .slice A (wordsN n) c] 24))
  rw [World.size_alloc] at hv2
  obtain ⟨b1, off1, rfl, hb1, hword1⟩ := h.word (w' := w) hm1
  obtain ⟨b2, off2, rfl, hb2, hword2⟩ := h'.word (w' := w) hm1
  have HW1 := Lib.hid hword1
  have HW2 := Lib.hid hword2
  unfold SetRes2 setV setA U at *
  generalize fullN n = f at *
  generalize wordsN n = m at *
  obtain ⟨W, hW⟩ : ∃ W, W = ((w.alloc (.cells #[.int .i64 (n : Nat), .slice (some ⟨b1, off1, none⟩) m c] 24)).alloc (.cells #[.int .i64 (n : Nat), .slice (some ⟨b2, off2, none⟩) m c'] 24)).alloc (.cells #[.int .i64 0, .slice none 0 0] 24) := ⟨_, rfl⟩
  have hbW : Below w.heap.size w W := by rw [hW]; exact (((Below.refl _ _).alloc (Nat.le_refl _) _).alloc (by simp) _).alloc (by simp; omega) _
  have hV1 : SetVar W w.heap.size n (some ⟨b1, off1, none⟩) m c ws := by rw [hW]; exact (hv1.alloc _).alloc _
  have hV2 : SetVar W (w.heap.size + 1) n (some ⟨b2, off2, none⟩) m c' ws' := by rw [hW]; exact hv2.alloc _
  have hR : Blk W (w.heap.size + 2) 24 #[.int .i64 0, .slice none 0 0] := by
    rw [hW]
    have := Blk.new ((w.alloc (.cells #[.int .i64 (n : Nat), .slice (some ⟨b1, off1, none⟩) m c] 24)).alloc (.cells #[.int .i64 (n : Nat), .slice (some ⟨b2, off2, none⟩) m c'] 24)) 24 #[.int .i64 0, .slice none 0 0]
    rwa [World.size_alloc, World.size_alloc] at this
  have hWs : W.heap.size = w.heap.size + 3 := by rw [hW]; simp
  have HWW := Lib.hid hW
  have HbW := Lib.hid hbW
  have HWS := Lib.hid hWs
  have V1 := Lib.hid hV1
  have V2 := Lib.hid hV2
  have HR := Lib.hid hR
  clear h h' hbW hword1 hword2 hWs hV1 hV2 hR hv1 hv2 hg hpr hok hok'
  have k10 := V1.out.c0
  have k11 := V1.out.c1
  have k20 := V2.out.c0
  have k21 := V2.out.c1
  go_enter Tryd.func29, Tryd.ntmps29
  go_wp2_with fail
  rw [← HWW.out]
  clear hW
  go_wp2_with fail
  refine (HPR.out _ V1.out.arg V2.out.arg).mono ?_
  rintro e w1 ⟨rfl, hb1'⟩
  have V1' := Lib.hid (V1.out.on hb1')
  have V2' := Lib.hid (V2.out.on hb1')
  have HR' := Lib.hid (HR.out.onB hb1')
  have HB1 := Lib.hid (HbW.out.trans (hb1'.mono HbW.out.size))
  have HS1 : Hid (w.heap.size + 3 ≤ w1.heap.size) := Lib.hid (by have := hb1'.size; have := HWS.out; omega)
  clear k10 k11 k20 k21 V1 V2 HR hb1'
  have k10 := V1'.out.c0
  go_wp2_with fail
  refine (HBL.out _).mono ?_
  rintro e w2 ⟨b, rfl, hb, hown, hb2'⟩
  have hA := V1'.out.blk.onB hb2'
  have hB := V2'.out.blk.onB hb2'
  have hR := HR'.out.onB hb2'
  obtain ⟨V, hV⟩ : ∃ V, V = w2.alloc (.cells #[.int .i64 (n : Nat), .slice (some ⟨b, 0, none⟩) m m] 24) := ⟨_, rfl⟩
  have hblt := (hown.lt b rfl).2
  have S : Hid (Blk V w.heap.size 24 #[.int .i64 (n : Nat), .slice (some ⟨b1, off1, none⟩) m c] ∧ Blk V (w.heap.size + 1) 24 #[.int .i64 (n : Nat), .slice (some ⟨b2, off2, none⟩) m c'] ∧ Blk V (w.heap.size + 2) 24 #[.int .i64 0, .slice none 0 0] ∧ Blk V w2.heap.size 24 #[.int .i64 (n : Nat), .slice (some ⟨b, 0, none⟩) m m] ∧
      OwnF (fun x : Nat => .int .u64 (x : Int)) 86 V w.heap.size (.slice (some ⟨b, 0, none⟩) m m) (filled g m 0) ∧ Below w.heap.size w V) := Lib.hid (by
    rw [hV]
    refine ⟨hA.alloc _, hB.alloc _, hR.alloc _, Blk.new w2 _ _, ?_, ?_⟩
    · rw [filled_zero]
      exact (hown.mono (by have := HS1.out; omega)).alloc _
    · exact below_new (HB1.out.trans (hb2'.mono HB1.out.size)) (Nat.le_refl _) _)
  have HNE : Hid (w.heap.size + 3 ≤ b ∧ b < w2.heap.size) := Lib.hid ⟨by have := HS1.out; omega, hblt⟩
  have HVV := Lib.hid hV
  have hl2 : w1.heap.size ≤ w2.heap.size := hb2'.size
  have HL2 := Lib.hid hl2
  clear hA hB hR hown hb2' hb hblt k10 V1' V2' HR' hl2 hV
  go_wp2_with fail
  rw [← HVV.out]
  have kO := S.out.2.2.2.1.cell 1
  go_wp2_with fail
  clear kO
  go_loopw [29] (fun i wr => ∃ k : Nat, k ≤ m ∧ i = .int .i64 k ∧ Blk wr w.heap.size 24 #[.int .i64 (n : Nat), .slice (some ⟨b1, off1, none⟩) m c] ∧ Blk wr (w.heap.size + 1) 24 #[.int .i64 (n : Nat), .slice (some ⟨b2, off2, none⟩) m c'] ∧ Blk wr (w.heap.size + 2) 24 #[.int .i64 0, .slice none 0 0] ∧ Blk wr w2.heap.size 24 #[.int .i64 (n : Nat), .slice (some ⟨b, 0, none⟩) m m] ∧
      OwnF (fun x : Nat => .int .u64 (x : Int)) 86 wr w.heap.size (.slice (some ⟨b, 0, none⟩) m m) (filled g m k) ∧ Below w.heap.size w wr) (fun i _ => m - (intOf i).toNat)
  case atStart => exact ⟨0, Nat.zero_le _, rfl, S.out⟩
  case round =>
    obtain ⟨k, hk, rfl, hA, hB, hR, hO, hown, hbw⟩ := hrel
    have R := Lib.hid (And.intro hA (And.intro hB (And.intro hR (And.intro hO (And.intro hown hbw)))))
    by_cases hlt : k < m
    · have v1 := HW1.out wr k hbw hlt
      have v2 := HW2.out wr k hbw hlt
      have kO : wr.cell? ⟨w2.heap.size, 1, none⟩ = some (.slice (some ⟨b, 0, none⟩) m m) := hO.cell 1
      have kA0 : wr.cell? ⟨w.heap.size, 0, none⟩ = some (.int .i64 (n : Nat)) := hA.cell 0
      have kA : wr.cell? ⟨w.heap.size, 1, none⟩ = some (.slice (some ⟨b1, off1, none⟩) m c) := hA.cell 1
      have kB : wr.cell? ⟨w.heap.size + 1, 1, none⟩ = some (.slice (some ⟨b2, off2, none⟩) m c') := hB.cell 1
      obtain ⟨uo, kc, kz⟩ := own_cell hown k (by rw [filled_length]; exact hlt)
      have hop := fun W => HOP.out W k
      have han := HAN.out k
      have hgk := HG.out k
      rw [← hgk] at han
      generalize opW o (wat ws k) (wat ws' k) = ow at *
      generalize wat ws k = a1 at *
      generalize wat ws' k = a2 at *
      have HOPK := Lib.hid hop
      clear hA hB hR hO hown hbw hop hgk
      go_wp2_with fail
      go_still_tail 20, (by kernel_rfl)
      still_call ((HOPK.out _).mono fun _ _ ⟨a, b⟩ => ⟨a, b.symm⟩)
      repeat still_step
      still_call ((HFU.out _).mono fun _ _ ⟨a, b⟩ => ⟨a, b.symm⟩)
      repeat still_step
      refine wpStill_nil ?_
      go_wp2_with fail
      go_roundw
      case rel =>
        obtain ⟨hA, hB, hR, hO, hown, hbw⟩ := R.out
        have hst := hown.set_ k (g k)
        rw [filled_set _ _ _ hlt] at hst
        exact ⟨k + 1, by omega, by go_num, hA.store (by have := HNE.out; omega) k _, hB.store (by have := HNE.out; omega) k _, hR.store (by have := HNE.out; omega) k _, hO.store (by have := HNE.out; omega) k _, hst, (hbw.setCell (p := ⟨b, k, none⟩) (by have := HNE.out; simp only; omega) _).drew⟩
      case measure => simp [intOf]; omega
    · obtain rfl : k = m := by omega
      have kO0 : wr.cell? ⟨w2.heap.size, 0, none⟩ = some (.int .i64 (n : Nat)) := hO.cell 0
      have kO1 : wr.cell? ⟨w2.heap.size, 1, none⟩ = some (.slice (some ⟨b, 0, none⟩) k k) := hO.cell 1
      have kR0 : wr.cell? ⟨w.heap.size + 2, 0, none⟩ = some (.int .i64 0) := hR.cell 0
      have kR1 : wr.cell? ⟨w.heap.size + 2, 1, none⟩ = some (.slice none 0 0) := hR.cell 1
      have z0 := hR.frozen 0
      have z1 := hR.frozen 1
      clear hA hB hR hO hown hbw
      go_wp2_with fail
      refine bodyPost_ret (v := .tuple #[.agg #[.int .i64 (n : Nat), .slice (some ⟨b, 0, none⟩) k k], .int .u8 0]) ?_ rfl ⟨b, rfl, by have := HNE.out; omega, ?_, by simp, ?_⟩
      · simp [results, Tryd.results29, go_sem, *]
      · obtain ⟨hA, hB, hR, hO, hown, hbw⟩ := R.out
        rw [filled_all] at hown
        exact (hown.set_below' (by have := HNE.out; simp only; omega) _).set_below' (by have := HNE.out; simp only; omega) _
      · obtain ⟨hA, hB, hR, hO, hown, hbw⟩ := R.out
        exact (hbw.setCell (by simp only; omega) _).setCell (by simp only; omega) _
end Go.Proofs.YtdhfpnbpkbelmaaDoor
