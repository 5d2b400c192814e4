/- The library's sort of uint32: what it leaves is a permutation (5): the pivot. -/
import Derived.Test.YtciokbngjfeihaaGreatSrtB
import Derived.Test.YtciokbngjfeihaaGreatSrtD
namespace Go.Proofs.YtciokbngjfeihaaGreat
open Go Go.RowKit
set_option linter.unusedSimpArgs false
set_option linter.unusedVariables false

/-- the counter of exchanges -/
def CntAt (w : World) (s : Nat) (k : Nat) : Prop := ∃ m : Nat, m ≤ k ∧ w.cell? ⟨s, 0, none⟩ = some (.int .i64 (m : Nat)) ∧ w.frozen? ⟨s, 0, none⟩ = false
theorem CntAt.more {w : World} {s k k' : Nat} (h : CntAt w s k) (hk : k ≤ k') : CntAt w s k' := by
  obtain ⟨m, h1, h2⟩ := h
  exact ⟨m, Nat.le_trans h1 hk, h2⟩
theorem U32At.chg {w w' : World} {g n c s : Nat} {xs : List Int} (h : U32At w g n c xs) (hc : Chg [s] w w') (hs : g ≠ s) : U32At w' g n c xs := OwnF.chg h hc (fun k hk => by
  have : k = g := by
    have := mem_blk.1 hk
    simp [Value.ownBlock] at this
    exact this.symm
  subst this
  simpa using hs)
/-- what a look at two places leaves: the counter alone has turned -/
def Cnt (w : World) (s k : Nat) (w' : World) : Prop := CntAt w' s k ∧ Chg [s] w w'
set_option maxRecDepth 100000 in
set_option maxHeartbeats 8000000 in
theorem order2_any (g n c a b s k : Nat) (xs : List Int) (w : World) (h : U32At w g n c xs) (ha : a < n) (hb : b < n) (hn : n ≤ 1000000000) (hs : CntAt w s k) (hk : k ≤ 1000000) :
    Calls Tryz.prog 114 #[.slice (some ⟨g, 0, none⟩) n c, .int .i64 (a : Nat), .int .i64 (b : Nat), .pointer (some ⟨s, 0, none⟩)] w fun e w' => (∃ p q : Nat, e = .returned (.tuple #[.int .i64 (p : Nat), .int .i64 (q : Nat)]) ∧ (p = a ∨ p = b) ∧ (q = a ∨ q = b)) ∧ Cnt w s (k + 1) w' := by
  have a1 : (a : Int) < (n : Int) := by omega
  have b1 : (b : Int) < (n : Int) := by omega
  obtain ⟨c0, _⟩ := h.cell ha
  obtain ⟨c1, _⟩ := h.cell hb
  obtain ⟨m, hm, c2, f2⟩ := hs
  generalize xs[a]?.getD 0 = x at *
  generalize xs[b]?.getD 0 = y at *
  obtain ⟨q, hq⟩ := less_some y x
  have HQ := Lib.hid hq
  have v1 := wrapN ((m : Int) + 1) (by omega) (by omega)
  clear h hq
  cases q with
  | true =>
    go_enter Tryz.func114, Tryz.ntmps114
    go_wp2_with fail
    go_quiet ((go_at_call 103; exact q_same (HQ.out _)))
    go_wp2_with fail
    refine bodyPost_ret (v := .tuple #[.int .i64 (b : Nat), .int .i64 (a : Nat)]) (by simp [results, Tryz.results114, go_sem, *]) rfl ⟨⟨b, a, rfl, .inr rfl, .inl rfl⟩, ⟨m + 1, by omega, ?_, ?_⟩, ?_⟩
    · rw [show ((m + 1 : Nat) : Int) = (m : Int) + 1 by omega]
      exact World.cell?_setCell_same _ _ _ c2
    · simp [f2]
    · exact ((Chg.refl _ _).drewN _).setCell (.inl (by simp)) _
  | false =>
    go_enter Tryz.func114, Tryz.ntmps114
    go_wp2_with fail
    go_quiet ((go_at_call 103; exact q_same (HQ.out _)))
    go_wp2_with fail
    refine bodyPost_ret (v := .tuple #[.int .i64 (a : Nat), .int .i64 (b : Nat)]) (by simp [results, Tryz.results114, go_sem, *]) rfl ⟨⟨a, b, rfl, .inl rfl, .inr rfl⟩, ⟨m, by omega, ?_, ?_⟩, ?_⟩
    · simp [c2]
    · simp [f2]
    · exact (Chg.refl _ _).drewN _
set_option maxRecDepth 100000 in
set_option maxHeartbeats 8000000 in
theorem median_any (g n c p q r s k : Nat) (xs : List Int) (w : World) (h : U32At w g n c xs) (hp : p < n) (hq : q < n) (hr : r < n) (hn : n ≤ 1000000000) (hs : CntAt w s k) (hk : k ≤ 1000) (hg : g ≠ s) :
    Calls Tryz.prog 112 #[.slice (some ⟨g, 0, none⟩) n c, .int .i64 (p : Nat), .int .i64 (q : Nat), .int .i64 (r : Nat), .pointer (some ⟨s, 0, none⟩)] w fun e w' => (∃ m : Nat, e = .returned (.int .i64 (m : Nat)) ∧ (m = p ∨ m = q ∨ m = r)) ∧ Cnt w s (k + 3) w' := by
  have H1 := Lib.hid (order2_any g n c p q s k xs w h hp hq hn hs (by omega))
  have HR := Lib.hid (And.intro h hg)
  clear h hs
  go_enter Tryz.func112, Tryz.ntmps112
  go_wp2_with fail
  refine H1.out.mono ?_
  rintro e w1 ⟨⟨p1, q1, rfl, hp1, hq1⟩, hc1, hw1⟩
  have h1 := HR.out.1.chg hw1 HR.out.2
  have H2 := Lib.hid (order2_any g n c q1 r s (k + 1) xs w1 h1 (by omega) hr hn hc1 (by omega))
  have HW1 := Lib.hid (And.intro h1 hw1)
  have HP1 := Lib.hid (And.intro hp1 hq1)
  clear h1 hc1 hw1 hp1 hq1
  go_wp2_with fail
  refine H2.out.mono ?_
  rintro e w2 ⟨⟨q2, r2, rfl, hq2, hr2⟩, hc2, hw2⟩
  have h2 := HW1.out.1.chg hw2 HR.out.2
  have H3 := Lib.hid (order2_any g n c p1 q2 s (k + 1 + 1) xs w2 h2 (by have := HP1.out; omega) (by have := HP1.out; omega) hn hc2 (by omega))
  have HW2 := Lib.hid (HW1.out.2.trans hw2 (fun x hx => .inl hx))
  have HP2 := Lib.hid (And.intro hq2 hr2)
  clear h2 hc2 hw2 hq2 hr2
  go_wp2_with fail
  refine H3.out.mono ?_
  rintro e w3 ⟨⟨p3, q3, rfl, hp3, hq3⟩, hc3, hw3⟩
  have FIN := Lib.hid (And.intro hc3 (HW2.out.trans hw3 (fun x hx => .inl hx)))
  have HP3 : Hid (q3 = p ∨ q3 = q ∨ q3 = r) := Lib.hid (by
    have h1 := HP1.out
    have h2 := HP2.out
    omega)
  clear hc3 hw3 hp3 hq3
  go_wp2_with fail
  go_ret
  exact ⟨⟨q3, rfl, HP3.out⟩, FIN.out.1, FIN.out.2⟩
set_option maxRecDepth 100000 in
set_option maxHeartbeats 8000000 in
theorem medadj_any (g n c p s k : Nat) (xs : List Int) (w : World) (h : U32At w g n c xs) (hp : 1 ≤ p) (hp2 : p + 1 < n) (hn : n ≤ 1000000000) (hs : CntAt w s k) (hk : k ≤ 1000) (hg : g ≠ s) :
    Calls Tryz.prog 111 #[.slice (some ⟨g, 0, none⟩) n c, .int .i64 (p : Nat), .pointer (some ⟨s, 0, none⟩)] w fun e w' => (∃ m : Nat, e = .returned (.int .i64 (m : Nat)) ∧ p ≤ m + 1 ∧ m ≤ p + 1) ∧ Cnt w s (k + 3) w' := by
  have H1 := median_any g n c (p - 1) p (p + 1) s k xs w h (by omega) (by omega) (by omega) hn hs hk hg
  have e1 : ((p - 1 : Nat) : Int) = (p : Int) - 1 := by omega
  have e2 : ((p + 1 : Nat) : Int) = (p : Int) + 1 := by omega
  rw [e1, e2] at H1
  have H2 := Lib.hid H1
  clear H1 e1 e2 h hs
  go_enter Tryz.func111, Tryz.ntmps111
  go_wp2_with fail
  refine H2.out.mono ?_
  rintro e w1 ⟨⟨m, rfl, hm⟩, hc⟩
  have HM : Hid (p ≤ m + 1 ∧ m ≤ p + 1) := Lib.hid (by omega)
  have HC := Lib.hid hc
  clear hm hc
  go_wp2_with fail
  go_ret
  exact ⟨⟨m, rfl, HM.out⟩, HC.out⟩
/-- a pivot and a hint -/
def PivOut (a b : Nat) (e : Ending) : Prop := ∃ p h : Nat, e = .returned (.tuple #[.int .i64 (p : Nat), .int .i64 (h : Nat)]) ∧ a ≤ p ∧ p < b ∧ h ≤ 2
set_option maxRecDepth 100000 in
set_option maxHeartbeats 16000000 in
theorem pivot_any (g n c a b : Nat) (xs : List Int) (w : World) (h : U32At w g n c xs) (hab : a + 12 < b) (hb : b ≤ n) (hn : n ≤ 1000000000) (hg : g < w.heap.size) :
    Calls Tryz.prog 100 #[.slice (some ⟨g, 0, none⟩) n c, .int .i64 (a : Nat), .int .i64 (b : Nat)] w fun e w' => PivOut a b e ∧ Below w.heap.size w w' := by
  obtain ⟨l, hl⟩ : ∃ l, l = b - a := ⟨_, rfl⟩
  have l1 : (b : Int) - (a : Int) = (l : Int) := by omega
  have l2 : a + l ≤ b := by omega
  have l3 : b ≤ a + l := by omega
  clear hl
  obtain ⟨d, hd⟩ : ∃ d, d = l / 4 := ⟨_, rfl⟩
  have d1 : (l : Int) / 4 = (d : Int) := by omega
  have d2 : 4 * d ≤ l := by omega
  have d3 : l < 4 * d + 4 := by omega
  clear hd
  obtain ⟨W, hW⟩ : ∃ W, W = w.alloc (.cells #[.int .i64 0] 3) := ⟨_, rfl⟩
  have hs0 : CntAt W w.heap.size 0 := ⟨0, Nat.le_refl _, by rw [hW]; simp, by rw [hW]; simp⟩
  have hu : U32At W g n c xs := by rw [hW]; exact OwnF.alloc h _
  have hne : g ≠ w.heap.size := by omega
  have hcw : Chg [w.heap.size] W W := Chg.refl _ _
  have HWW := Lib.hid hW
  have HBW : Hid (∀ w', Chg [w.heap.size] W w' → Below w.heap.size w w') := Lib.hid (fun w' h => by
    have hb : Below w.heap.size w W := by rw [hW]; exact (Below.refl _ _).alloc (Nat.le_refl _) _
    refine hb.trans ⟨h.os, h.tape, h.output, h.size, fun k hk => h.block k (by rw [hW]; simp; omega) (by simp; omega)⟩)
  have HU := Lib.hid (And.intro hu (And.intro hs0 hcw))
  have h8 : (8 : Int) ≤ (l : Int) := by omega
  have m1 := wrapN ((d : Int) * 1) (by omega) (by omega)
  have m2 := wrapN ((d : Int) * 2) (by omega) (by omega)
  have m3 := wrapN ((d : Int) * 3) (by omega) (by omega)
  clear h hu hs0 hcw
  by_cases h50 : 50 ≤ l
  · have h50i : (50 : Int) ≤ (l : Int) := by omega
    have e1 : (a : Int) + (d : Int) = ((a + d : Nat) : Int) := by omega
    have e2 : (a : Int) + (d : Int) * 2 = ((a + d * 2 : Nat) : Int) := by omega
    have e3 : (a : Int) + (d : Int) * 3 = ((a + d * 3 : Nat) : Int) := by omega
    have M1 := medadj_any g n c (a + d) w.heap.size 0 xs W HU.out.1 (by omega) (by omega) hn HU.out.2.1 (by omega) hne
    rw [← e1] at M1
    have HM1 := Lib.hid M1
    have HM2 := Lib.hid (fun W' (h : U32At W' g n c xs) (hs : CntAt W' w.heap.size 3) => medadj_any g n c (a + d * 2) w.heap.size 3 xs W' h (by omega) (by omega) hn hs (by omega) hne)
    rw [← e2] at HM2
    have HM3 := Lib.hid (fun W' (h : U32At W' g n c xs) (hs : CntAt W' w.heap.size 6) => medadj_any g n c (a + d * 3) w.heap.size 6 xs W' h (by omega) (by omega) hn hs (by omega) hne)
    rw [← e3] at HM3
    clear M1 e1 e2 e3
    have HMD := Lib.hid (fun (p q r k : Nat) W' (h : U32At W' g n c xs) (hs : CntAt W' w.heap.size k) (hk : k ≤ 1000) (h1 : p < n) (h2 : q < n) (h3 : r < n) => median_any g n c p q r w.heap.size k xs W' h h1 h2 h3 hn hs hk hne)
    go_enter Tryz.func100, Tryz.ntmps100
    go_wp2_with fail
    rw [← HWW.out]
    clear hW
    refine HM1.out.mono ?_
    rintro e w1 ⟨⟨p1, rfl, k1⟩, hc1, hw1⟩
    have u1 := HU.out.1.chg hw1 hne
    have HC2 := Lib.hid (HM2.out w1 u1 hc1)
    have HU1 := Lib.hid (And.intro u1 hw1)
    have K1 := Lib.hid k1
    clear u1 hc1 hw1 k1
    go_wp2_with fail
    refine HC2.out.mono ?_
    rintro e w2 ⟨⟨p2, rfl, k2⟩, hc2, hw2⟩
    have u2 := HU1.out.1.chg hw2 hne
    have HC3 := Lib.hid (HM3.out w2 u2 hc2)
    have HU2 := Lib.hid (And.intro u2 (HU1.out.2.trans hw2 (fun x hx => .inl hx)))
    have K2 := Lib.hid k2
    clear u2 hc2 hw2 k2
    go_wp2_with fail
    refine HC3.out.mono ?_
    rintro e w3 ⟨⟨p3, rfl, k3⟩, hc3, hw3⟩
    have u3 := HU2.out.1.chg hw3 hne
    have HC4 := Lib.hid (HMD.out p1 p2 p3 9 w3 u3 hc3 (by omega) (by have := K1.out; omega) (by have := K2.out; omega) (by omega))
    have HU3 := Lib.hid (HU2.out.2.trans hw3 (fun x hx => .inl hx))
    have K3 := Lib.hid k3
    clear u3 hc3 hw3 k3
    go_wp2_with fail
    refine HC4.out.mono ?_
    rintro e w4 ⟨⟨j, rfl, k4⟩, ⟨m, hm, c4, f4⟩, hw4⟩
    have HFIN := Lib.hid (HBW.out w4 (HU3.out.trans hw4 (fun x hx => .inl hx)))
    have K4 : Hid (a ≤ j ∧ j < b) := Lib.hid (by have q1 := K1.out; have q2 := K2.out; have q3 := K3.out; omega)
    clear hw4 k4
    by_cases m0 : m = 0
    · subst m0
      go_wp2_with fail
      refine bodyPost_ret (v := .tuple #[.int .i64 (j : Nat), .int .i64 1]) (by simp [results, Tryz.results100, go_sem, *]) rfl ⟨⟨j, 1, rfl, K4.out.1, K4.out.2, by omega⟩, HFIN.out⟩
    · have t0 : ((m : Int) == 0) = false := by simp; omega
      by_cases m12 : m = 12
      · subst m12
        go_wp2_with fail
        refine bodyPost_ret (v := .tuple #[.int .i64 (j : Nat), .int .i64 2]) (by simp [results, Tryz.results100, go_sem, *]) rfl ⟨⟨j, 2, rfl, K4.out.1, K4.out.2, by omega⟩, HFIN.out⟩
      · have t1 : ((m : Int) == 12) = false := by simp; omega
        clear m0 m12
        go_wp2_with fail
        refine bodyPost_ret (v := .tuple #[.int .i64 (j : Nat), .int .i64 0]) (by simp [results, Tryz.results100, go_sem, *]) rfl ⟨⟨j, 0, rfl, K4.out.1, K4.out.2, by omega⟩, HFIN.out⟩
  · have h50i : ¬ (50 : Int) ≤ (l : Int) := by omega
    have e1 : (a : Int) + (d : Int) = ((a + d : Nat) : Int) := by omega
    have e2 : (a : Int) + (d : Int) * 2 = ((a + d * 2 : Nat) : Int) := by omega
    have e3 : (a : Int) + (d : Int) * 3 = ((a + d * 3 : Nat) : Int) := by omega
    have HMD := median_any g n c (a + d) (a + d * 2) (a + d * 3) w.heap.size 0 xs W HU.out.1 (by omega) (by omega) (by omega) hn HU.out.2.1 (by omega) hne
    rw [← e1, ← e2, ← e3] at HMD
    have HMD2 := Lib.hid HMD
    clear HMD e1 e2 e3
    go_enter Tryz.func100, Tryz.ntmps100
    go_wp2_with fail
    rw [← HWW.out]
    clear hW
    refine HMD2.out.mono ?_
    rintro e w4 ⟨⟨j, rfl, k4⟩, ⟨m, hm, c4, f4⟩, hw4⟩
    have HFIN := Lib.hid (HBW.out w4 hw4)
    have K4 : Hid (a ≤ j ∧ j < b) := Lib.hid (by omega)
    clear hw4 k4
    by_cases m0 : m = 0
    · subst m0
      go_wp2_with fail
      refine bodyPost_ret (v := .tuple #[.int .i64 (j : Nat), .int .i64 1]) (by simp [results, Tryz.results100, go_sem, *]) rfl ⟨⟨j, 1, rfl, K4.out.1, K4.out.2, by omega⟩, HFIN.out⟩
    · have t0 : ((m : Int) == 0) = false := by simp; omega
      by_cases m12 : m = 12
      · subst m12
        go_wp2_with fail
        refine bodyPost_ret (v := .tuple #[.int .i64 (j : Nat), .int .i64 2]) (by simp [results, Tryz.results100, go_sem, *]) rfl ⟨⟨j, 2, rfl, K4.out.1, K4.out.2, by omega⟩, HFIN.out⟩
      · have t1 : ((m : Int) == 12) = false := by simp; omega
        clear m0 m12
        go_wp2_with fail
        refine bodyPost_ret (v := .tuple #[.int .i64 (j : Nat), .int .i64 0]) (by simp [results, Tryz.results100, go_sem, *]) rfl ⟨⟨j, 0, rfl, K4.out.1, K4.out.2, by omega⟩, HFIN.out⟩
end Go.Proofs.YtciokbngjfeihaaGreat
