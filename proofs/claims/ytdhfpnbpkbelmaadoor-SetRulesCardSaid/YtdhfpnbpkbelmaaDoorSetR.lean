/- Contract: set.Right. -/
import Derived.Test.YtdhfpnbpkbelmaaDoorSetA
namespace Go.Proofs.YtdhfpnbpkbelmaaDoor
open Go.RowKit Go.Sort
set_option linter.unusedSimpArgs false
set_option linter.unusedVariables false

/-- a set as an argument -/
structure SetArg (w : World) (m : Int) (A : Option Addr) (len c : Nat) (ws : List Nat) : Prop where
  hlen : ws.length = len
  hcap : len ≤ c
  hmax : c ≤ maxLen
  row : RowF U 0 w w.heap.size A ws
  lt : ∀ v ∈ ws, v < 18446744073709551616
  wf : (Lit.int .i64 m).wf = true
theorem SetArg.on {w w' : World} {m : Int} {A : Option Addr} {len c : Nat} {ws : List Nat} (h : SetArg w m A len c ws) (hb : Below w.heap.size w w') : SetArg w' m A len c ws := ⟨h.hlen, h.hcap, h.hmax, h.row.on hb, h.lt, h.wf⟩
def setA (m : Int) (A : Option Addr) (len c : Nat) : Value := .agg #[.int .i64 m, .slice A len c]
/-- may a set be? -/
def srightB (m : Int) (ws : List Nat) : Bool := smayB m && decide (ws.length = wordsN m.toNat) && decide (wat ws 0 &&& (18446744073709551615 - fullN m.toNat) = 0)
theorem andNot_zero {a f : Nat} (ha : a < 18446744073709551616) (hf : f < 18446744073709551616) : a &&& (18446744073709551615 - f) = 0 ↔ ∀ j, j < 64 → f.testBit j = false → a.testBit j = false := by
  have hc : ∀ j, j < 64 → (18446744073709551615 - f).testBit j = !f.testBit j := fun j hj => by
    have h := Nat.testBit_two_pow_sub_succ (x := f) (n := 64) hf j
    rw [show 2 ^ 64 - (f + 1) = 18446744073709551615 - f by omega] at h
    rw [h, decide_eq_true hj, Bool.true_and]
  constructor
  · intro h j hj hfj
    have := congrArg (fun x => x.testBit j) h
    simp only [Nat.testBit_and, Nat.zero_testBit, hc j hj, hfj, Bool.not_false, Bool.and_true] at this
    exact this
  · intro h
    apply Nat.eq_of_testBit_eq
    intro j
    rw [Nat.testBit_and, Nat.zero_testBit]
    by_cases hj : j < 64
    · rw [hc j hj]
      cases hf2 : f.testBit j
      · rw [h j hj hf2]; rfl
      · simp
    · rw [Nat.testBit_lt_two_pow (Nat.lt_of_lt_of_le ha (show 18446744073709551616 ≤ 2 ^ j from (show 2 ^ 64 ≤ 2 ^ j from Nat.pow_le_pow_right (by omega) (by omega))))]
      rfl
theorem sright_iff {m : Int} {ws : List Nat} (hlt : ∀ v ∈ ws, v < 18446744073709551616) : srightB m ws = true ↔ 0 ≤ m ∧ SOk m.toNat ws := by
  unfold srightB smayB
  rw [Bool.and_eq_true, Bool.and_eq_true, decide_eq_true_eq, decide_eq_true_eq, decide_eq_true_eq]
  have hfb := fun j hj => fullN_bit m.toNat j hj
  have hb0 : ∀ j, j < 64 → bitAt ws j = (wat ws 0).testBit j := fun j hj => by
    unfold bitAt wat
    rw [show j / 64 = 0 by omega, Nat.mod_eq_of_lt hj]
  constructor
  · rintro ⟨⟨⟨h0, h1⟩, h2⟩, h3⟩
    rw [andNot_zero (wat_lt hlt 0) (fullN_lt _)] at h3
    exact ⟨h0, by omega, h2, hlt, fun x hx hx2 => by rw [hb0 x hx2]; exact h3 x hx2 (by rw [hfb x hx2]; exact decide_eq_false (by omega))⟩
  · rintro ⟨h0, hk⟩
    refine ⟨⟨⟨h0, by have := hk.n16; omega⟩, hk.len⟩, ?_⟩
    rw [andNot_zero (wat_lt hlt 0) (fullN_lt _)]
    intro j hj hf
    rw [hfb j hj, decide_eq_false_iff_not] at hf
    rw [← hb0 j hj]
    exact hk.hi j (by omega) hj
set_option maxRecDepth 100000 in
set_option maxHeartbeats 2000000 in
theorem sright_any (m : Int) (A : Option Addr) (len c : Nat) (ws : List Nat) (w : World) (h : SetArg w m A len c ws) : Calls Tryd.prog 32 #[setA m A len c] w fun e w' => e = .returned (.bool (srightB m ws)) ∧ Below w.heap.size w w' := by
  have hm := i64_of_wf h.wf
  have hlc : len ≤ maxLen := Nat.le_trans h.hcap h.hmax
  unfold maxLen at hlc
  unfold setA
  obtain ⟨W, hW⟩ : ∃ W, W = w.alloc (.cells #[.int .i64 m, .slice A len c] 24) := ⟨_, rfl⟩
  have hbW : Below w.heap.size w W := by rw [hW]; exact (Below.refl _ _).alloc (Nat.le_refl _) _
  have HBW : Hid (Blk W w.heap.size 24 #[.int .i64 m, .slice A len c]) := Lib.hid (by rw [hW]; exact Blk.new w _ _)
  have hrow := h.row.on hbW
  have HL := Lib.hid h.hlen
  have HLT := Lib.hid h.lt
  have c1 := regrown_calls (W := W) (fun W' hW' => (smay_any m W').mono fun _ _ ⟨he, hb⟩ => ⟨he, by rw [← hb]; exact hW'⟩)
  have HWW := Lib.hid hW
  have HbW := Lib.hid hbW
  have HROW := Lib.hid hrow
  clear h hbW hrow
  by_cases h1 : smayB m = true
  · rw [h1] at c1
    have h1' : 0 ≤ m ∧ m ≤ 16 := by simpa [smayB] using h1
    obtain ⟨n, rfl⟩ := Int.eq_ofNat_of_zero_le h1'.1
    have hn : n ≤ 16 := by omega
    have hd : srightB n ws = (decide (ws.length = wordsN n) && decide (wat ws 0 &&& (18446744073709551615 - fullN n) = 0)) := by unfold srightB; rw [h1, Bool.true_and]; simp only [Int.toNat_natCast]
    rw [hd]
    have hwN := wordsN_le hn
    have hwP := wordsN_pos n
    have c2 := regrown_calls (W := W) (fun W' hW' => (swords_any n hn W').mono fun _ _ ⟨he, hb⟩ => ⟨he, by rw [← hb]; exact hW'⟩)
    have c3 := regrown_calls (W := W) (fun W' hW' => (sfull_any n hn W').mono fun _ _ ⟨he, hb⟩ => ⟨he, by rw [← hb]; exact hW'⟩)
    have hfl := fullN_lt n
    have hwl := wat_lt HLT.out 0
    generalize fullN n = f at *
    generalize wordsN n = k at *
    unfold U at c3
    clear h1 h1' hd
    by_cases h2 : len = k
    · subst h2
      rw [HL.out, decide_eq_true rfl, Bool.true_and]
      obtain ⟨b, off, rfl, hb, hcell⟩ := HROW.out (by rw [HL.out]; omega)
      have h0 : W.cell? ⟨b, off, none⟩ = some (.int .u64 (wat ws 0 : Nat)) := hcell 0 (by rw [HL.out]; omega)
      have HAN := u64_andNot_nat (wat ws 0) f hwl hfl
      generalize wat ws 0 = v at *
      have hz : (((v &&& (18446744073709551615 - f) : Nat) : Int) == 0) = decide (v &&& (18446744073709551615 - f) = 0) := by
        rw [Bool.eq_iff_iff, beq_iff_eq, decide_eq_true_eq]; omega
      generalize v &&& (18446744073709551615 - f) = x at *
      generalize hq : decide (x = 0) = q at *
      have C := Lib.hid (And.intro c1 (And.intro c2 c3))
      have H0 := Lib.hid h0
      clear c1 c2 c3 hcell h0 hq
      go_enter Tryd.func32, Tryd.ntmps32
      go_wp2_with fail
      rw [← HWW.out]
      clear hW
      obtain ⟨c1, c2, c3⟩ := C.out
      have j0 : ∀ d os, (grow (redrawn W d) os).cell? ⟨w.heap.size, 0, none⟩ = some (.int .i64 (n : Nat)) := fun d os => cell_regrown (HBW.out.cell 0) d os
      have j1 : ∀ d os, (grow (redrawn W d) os).cell? ⟨w.heap.size, 1, none⟩ = some (.slice (some ⟨b, off, none⟩) len c) := fun d os => cell_regrown (HBW.out.cell 1) d os
      have j2 : ∀ d os, (grow (redrawn W d) os).cell? ⟨b, off, none⟩ = some (.int .u64 (v : Nat)) := fun d os => cell_regrown H0.out d os
      refine wp_region_quiet_below (by kernel_rfl) (by kernel_rfl) ?_
      repeat (first | go_big_quiet_step (first | with_reducible exact c1 _ _ | with_reducible exact c2 _ _ | with_reducible exact c3 _ _ | fail) | quiet_step (first | with_reducible exact c1 _ _ | with_reducible exact c2 _ _ | with_reducible exact c3 _ _ | fail))
      refine wpQuiet_nil ?_
      intro w2 hw'
      have hbel2 : Below W.heap.size W w2 := regrown_below hw'
      clear hw' j0 j1 j2 c1 c2 c3
      go_wp2_with fail
      go_ret
      exact ⟨rfl, HbW.out.trans (hbel2.mono HbW.out.size)⟩
    · have hd : decide (ws.length = k) = false := decide_eq_false (by rw [HL.out]; exact h2)
      have hne : ((len : Int) == (k : Int)) = false := by rw [beq_eq_false_iff_ne]; omega
      rw [hd, Bool.false_and]
      have C := Lib.hid (And.intro c1 c2)
      clear c1 c2 c3 h2 hd
      go_enter Tryd.func32, Tryd.ntmps32
      go_wp2_with fail
      rw [← HWW.out]
      clear hW
      obtain ⟨c1, c2⟩ := C.out
      have j0 : ∀ d os, (grow (redrawn W d) os).cell? ⟨w.heap.size, 0, none⟩ = some (.int .i64 (n : Nat)) := fun d os => cell_regrown (HBW.out.cell 0) d os
      have j1 : ∀ d os, (grow (redrawn W d) os).cell? ⟨w.heap.size, 1, none⟩ = some (.slice A len c) := fun d os => cell_regrown (HBW.out.cell 1) d os
      refine wp_region_quiet_below (by kernel_rfl) (by kernel_rfl) ?_
      repeat (first | go_big_quiet_step (first | with_reducible exact c1 _ _ | with_reducible exact c2 _ _ | fail) | quiet_step (first | with_reducible exact c1 _ _ | with_reducible exact c2 _ _ | fail))
      refine wpQuiet_nil ?_
      intro w2 hw'
      have hbel2 : Below W.heap.size W w2 := regrown_below hw'
      clear hw' j0 j1 c1 c2
      go_wp2_with fail
      go_ret
      exact ⟨rfl, HbW.out.trans (hbel2.mono HbW.out.size)⟩
  · have h1' : smayB m = false := by simpa using h1
    rw [h1'] at c1
    have hd : srightB m ws = false := by unfold srightB; rw [h1', Bool.false_and, Bool.false_and]
    rw [hd]
    have C := Lib.hid c1
    clear c1 h1 h1' hd
    go_enter Tryd.func32, Tryd.ntmps32
    go_wp2_with fail
    rw [← HWW.out]
    clear hW
    have c1 := C.out
    have j0 : ∀ d os, (grow (redrawn W d) os).cell? ⟨w.heap.size, 0, none⟩ = some (.int .i64 m) := fun d os => cell_regrown (HBW.out.cell 0) d os
    refine wp_region_quiet_below (by kernel_rfl) (by kernel_rfl) ?_
    repeat (first | go_big_quiet_step (first | with_reducible exact c1 _ _ | fail) | quiet_step (first | with_reducible exact c1 _ _ | fail))
    refine wpQuiet_nil ?_
    intro w2 hw'
    have hbel2 : Below W.heap.size W w2 := regrown_below hw'
    clear hw' j0 c1
    go_wp2_with fail
    go_ret
    exact ⟨rfl, HbW.out.trans (hbel2.mono HbW.out.size)⟩
end Go.Proofs.YtdhfpnbpkbelmaaDoor
