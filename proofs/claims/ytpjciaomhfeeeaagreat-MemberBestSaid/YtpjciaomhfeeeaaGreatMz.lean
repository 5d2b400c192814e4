/- Contracts: ramageref10.Plain. Contract: ramageref10.Right. -/
import Derived.Test.YtpjciaomhfeeeaaGreatNode
import Derived.Test.YtpjciaomhfeeeaaGreatNodeR
section
namespace Go.Proofs.YtpjciaomhfeeeaaGreat
open Go.RowKit
set_option linter.unusedSimpArgs false
set_option linter.unusedVariables false

set_option maxHeartbeats 2000000 in
theorem refPlain_any (f : Int) (e : Edg) (l n : Int) (w : World) (hf : 0 ≤ f ∧ f ≤ 255) (he : e.Wf) : Calls Tryz.prog 57 #[.int .u8 f, .agg e.cells.toArray, .int .i64 l, .int .i64 n] w fun r w' => r = .returned (.bool (plain f e l n)) ∧ Below w.heap.size w w' := by
  obtain ⟨t, p⟩ := e
  obtain ⟨h1, h2, h3, h4⟩ := he
  obtain ⟨h5, h6⟩ := hf
  simp only [Edg.cells] at h1 h2 h3 h4 ⊢
  have hfin : Below w.heap.size w (w.alloc (.cells #[.int .u8 t, .int .u32 p] 26)) := (Below.refl _ _).alloc (Nat.le_refl _) _
  by_cases hA : 1 ≤ f ∧ f ≤ 5 ∧ 0 ≤ n ∧ n ≤ 16 ∧ 0 ≤ l ∧ l ≤ n
  · have HA := Lib.hid hA
    obtain ⟨b1, b2, b3, b4, b5, b6⟩ := hA
    by_cases hf5 : f = 5
    · subst hf5
      by_cases hp0 : p = 0
      · subst hp0
        have HR : Hid (plain 5 ⟨t, 0⟩ l n = (t == 0)) := Lib.hid (plain_tag HA.out (.inr rfl))
        go_enter Tryz.func57, Tryz.ntmps57
        go_wp2_with fail
        go_ret
        exact ⟨by rw [HR.out]; rfl, hfin⟩
      · have hp00 : (p == 0) = false := by simpa using hp0
        have HR : Hid (plain 5 ⟨t, p⟩ l n = (decide (l ≤ t) && decide (t ≤ n))) := Lib.hid (plain_tbdd HA.out (by simp [hp0]))
        clear hp0
        by_cases ht : l ≤ t
        · have hd1 : decide (l ≤ t) = true := by simpa using ht
          go_enter Tryz.func57, Tryz.ntmps57
          go_wp2_with fail
          go_ret
          exact ⟨by rw [HR.out, hd1]; rfl, hfin⟩
        · have hd1 : decide (l ≤ t) = false := by simpa using ht
          go_enter Tryz.func57, Tryz.ntmps57
          go_wp2_with fail
          go_ret
          exact ⟨by rw [HR.out, hd1]; rfl, hfin⟩
    · have HR : Hid (plain f ⟨t, p⟩ l n = (t == 0)) := Lib.hid (plain_tag HA.out (.inl hf5))
      have hf50 : (f == 5) = false := by simpa using hf5
      have hf51 : (f != 5) = true := by simpa using hf5
      clear hf5
      go_enter Tryz.func57, Tryz.ntmps57
      go_wp2_with fail
      go_ret
      exact ⟨by rw [HR.out]; rfl, hfin⟩
  · have HR : Hid (plain f ⟨t, p⟩ l n = false) := Lib.hid (plain_noA hA)
    have HA := Lib.hid hA
    clear hA
    go_enter Tryz.func57, Tryz.ntmps57
    by_cases b1 : 1 ≤ f
    · by_cases b2 : f ≤ 5
      · by_cases b3 : 0 ≤ n
        · by_cases b4 : n ≤ 16
          · by_cases b5 : 0 ≤ l
            · have b6 : ¬ l ≤ n := fun b6 => HA.out ⟨b1, b2, b3, b4, b5, b6⟩
              go_wp2_with fail
              go_ret
              exact ⟨by rw [HR.out]; rfl, hfin⟩
            · go_wp2_with fail
              go_ret
              exact ⟨by rw [HR.out]; rfl, hfin⟩
          · go_wp2_with fail
            go_ret
            exact ⟨by rw [HR.out]; rfl, hfin⟩
        · go_wp2_with fail
          go_ret
          exact ⟨by rw [HR.out]; rfl, hfin⟩
      · go_wp2_with fail
        go_ret
        exact ⟨by rw [HR.out]; rfl, hfin⟩
    · go_wp2_with fail
      go_ret
      exact ⟨by rw [HR.out]; rfl, hfin⟩
/-- the record's fields as bounds: what stands between a record and 'it may be' -/
theorem right_eq (r : Rec) (n : Int) : right r n = (decide (1 ≤ r.form ∧ r.form ≤ 5 ∧ 0 ≤ n ∧ n ≤ 16 ∧ r.top ≤ r.bot ∧ r.bot < n ∧ (r.top = r.bot ∨ r.form = 3 ∨ r.form = 4)) && plain r.form r.lo (r.bot + 1) n && plain r.form r.hi (r.bot + 1) n &&
    (if r.form = 2 ∨ r.form = 4 then decide (r.hi.pos ≠ 0) else decide (r.lo ≠ r.hi))) := rfl
end Go.Proofs.YtpjciaomhfeeeaaGreat
end

section
namespace Go.Proofs.YtpjciaomhfeeeaaGreat
open Go.RowKit
set_option linter.unusedSimpArgs false
set_option linter.unusedVariables false

theorem posB {x : Int} (h : 0 ≤ x) : (x != 0) = decide (0 < x) := by
  by_cases hx : x = 0
  · subst hx; rfl
  · have : 0 < x := by omega
    simp [hx, this]
set_option maxRecDepth 100000 in
set_option maxHeartbeats 4000000 in
theorem refRightR_any (r : Rec) (n : Int) (w : World) (hr : r.Wf) (hn2 : n ≤ 9223372036854775807) : Calls Tryz.prog 48 #[.agg r.cells.toArray, .int .i64 n] w fun e w' => e = .returned (.bool (right r n)) ∧ Below w.heap.size w w' := by
  obtain ⟨f, t, b, ⟨lt, lp⟩, ⟨ht, hp⟩⟩ := r
  obtain ⟨⟨h1, h2⟩, ⟨h3, h4⟩, ⟨h5, h6⟩, ⟨h7, h8, h9, h10⟩, ⟨h11, h12, h13, h14⟩⟩ := hr
  simp only [Rec.cells] at h1 h2 h3 h4 h5 h6 h7 h8 h9 h10 h11 h12 h13 h14 ⊢
  have hwl : Edg.Wf ⟨lt, lp⟩ := ⟨h7, h8, h9, h10⟩
  have hwh : Edg.Wf ⟨ht, hp⟩ := ⟨h11, h12, h13, h14⟩
  have HWL := Lib.hid hwl
  have HWH := Lib.hid hwh
  have HPOS := Lib.hid (posB h13)
  clear hwl hwh
  have hfin : Below w.heap.size w (w.alloc (.cells #[.int .u8 f, .int .u8 t, .int .u8 b, .int .u8 lt, .int .u32 lp, .int .u8 ht, .int .u32 hp] 62)) := (Below.refl _ _).alloc (Nat.le_refl _) _
  by_cases c0 : 1 ≤ f
  · by_cases c1 : f ≤ 5
    · by_cases c2 : 0 ≤ n
      · by_cases c3 : n ≤ 16
        · by_cases c4 : t ≤ b
          · by_cases c5 : b < n
            · by_cases c6 : t = b ∨ f = 3 ∨ f = 4
              · have HA : Hid (1 ≤ f ∧ f ≤ 5 ∧ 0 ≤ n ∧ n ≤ 16 ∧ t ≤ b ∧ b < n ∧ (t = b ∨ f = 3 ∨ f = 4)) := Lib.hid ⟨c0, c1, c2, c3, c4, c5, c6⟩
                by_cases c7 : t < b
                · by_cases c8 : f = 3
                  · skip
                    have d1 : (f == 3) = true := by simpa using c8
                    have d2 : (f != 3) = false := by simpa using c8
                    clear c6 c8
                    go_enter Tryz.func48, Tryz.ntmps48
                    go_wp2_with fail
                    refine (refPlain_any f ⟨lt, lp⟩ _ _ _ ⟨h1, h2⟩ HWL.out).mono ?_
                    rintro e w1 ⟨rfl, hb1⟩
                    have hc1 : ∀ k, w1.cell? ⟨w.heap.size, k, none⟩ = _ := fun k => hb1.cell (p := ⟨w.heap.size, k, none⟩) (by simp)
                    have hsz1 := hb1.size
                    cases hL : plain f ⟨lt, lp⟩ (b + 1) n
                    · have HR : Hid (right ⟨f, t, b, ⟨lt, lp⟩, ⟨ht, hp⟩⟩ n = false) := Lib.hid (right_lo hL)
                      clear hL
                      go_wp2_with fail
                      go_ret
                      exact ⟨by rw [HR.out]; rfl, hfin.trans (hb1.mono (by simp))⟩
                    · have HL := Lib.hid hL
                      clear hL
                      go_wp2_with fail
                      refine (refPlain_any f ⟨ht, hp⟩ _ _ _ ⟨h1, h2⟩ HWH.out).mono ?_
                      rintro e w2 ⟨rfl, hb2⟩
                      have hc2 : ∀ k, w2.cell? ⟨w.heap.size, k, none⟩ = _ := fun k => (hb2.cell (p := ⟨w.heap.size, k, none⟩) (by have := hb1.size; simp at this; show w.heap.size < _; omega)).trans (hc1 k)
                      cases hH : plain f ⟨ht, hp⟩ (b + 1) n
                      · have HR : Hid (right ⟨f, t, b, ⟨lt, lp⟩, ⟨ht, hp⟩⟩ n = false) := Lib.hid (right_hi hH)
                        clear hH
                        go_wp2_with fail
                        go_ret
                        exact ⟨by rw [HR.out]; rfl, (hfin.trans (hb1.mono (by simp))).trans (hb2.mono (by have := hb1.size; simp at this; omega))⟩
                      · have HR := Lib.hid (right_end (r := ⟨f, t, b, ⟨lt, lp⟩, ⟨ht, hp⟩⟩) HA.out HL.out hH)
                        clear hH
                        by_cases g2 : f = 2
                        · have HG : Hid (f = 2 ∨ f = 4) := Lib.hid (.inl g2)
                          have g3 : (f == 2) = true := by simpa using g2
                          clear g2
                          go_wp2_with fail
                          go_ret
                          exact ⟨by rw [HR.out]; rw [if_pos HG.out, HPOS.out]; rfl, (hfin.trans (hb1.mono (by simp))).trans (hb2.mono (by have := hb1.size; simp at this; omega))⟩
                        · have g3 : (f == 2) = false := by simpa using g2
                          by_cases g4 : f = 4
                          · have HG : Hid (f = 2 ∨ f = 4) := Lib.hid (.inr g4)
                            have g5 : (f == 4) = true := by simpa using g4
                            clear g2 g4
                            go_wp2_with fail
                            go_ret
                            exact ⟨by rw [HR.out]; rw [if_pos HG.out, HPOS.out]; rfl, (hfin.trans (hb1.mono (by simp))).trans (hb2.mono (by have := hb1.size; simp at this; omega))⟩
                          · have g5 : (f == 4) = false := by simpa using g4
                            have HG : Hid (¬ (f = 2 ∨ f = 4)) := Lib.hid (by omega)
                            clear g2 g4
                            by_cases g6 : lp = hp
                            · have g7 : (lp == hp) = true := by simpa using g6
                              have g8 : (lp != hp) = false := by simpa using g6
                              by_cases g9 : lt = ht
                              · have HE : Hid ((⟨lt, lp⟩ : Edg) = ⟨ht, hp⟩) := Lib.hid (by rw [g6, g9])
                                have ga : (lt != ht) = false := by simpa using g9
                                have gb : (lt == ht) = true := by simpa using g9
                                clear g6 g9
                                go_wp2_with fail
                                go_ret
                                exact ⟨by rw [HR.out]; rw [if_neg HG.out, HE.out, bne_self_eq_false]; first | rfl | simp [ga], (hfin.trans (hb1.mono (by simp))).trans (hb2.mono (by have := hb1.size; simp at this; omega))⟩
                              · have HE : Hid ((⟨lt, lp⟩ : Edg) ≠ ⟨ht, hp⟩) := Lib.hid (fun e => g9 (by injection e))
                                have ga : (lt != ht) = true := by simpa using g9
                                have gb : (lt == ht) = false := by simpa using g9
                                clear g6 g9
                                go_wp2_with fail
                                go_ret
                                exact ⟨by rw [HR.out]; rw [if_neg HG.out, bne_iff_ne.2 HE.out]; first | rfl | simp [ga], (hfin.trans (hb1.mono (by simp))).trans (hb2.mono (by have := hb1.size; simp at this; omega))⟩
                            · have g7 : (lp == hp) = false := by simpa using g6
                              have g8 : (lp != hp) = true := by simpa using g6
                              have HE : Hid ((⟨lt, lp⟩ : Edg) ≠ ⟨ht, hp⟩) := Lib.hid (fun e => g6 (by injection e))
                              clear g6
                              go_wp2_with fail
                              go_ret
                              exact ⟨by rw [HR.out]; rw [if_neg HG.out, bne_iff_ne.2 HE.out]; first | rfl | simp [g8], (hfin.trans (hb1.mono (by simp))).trans (hb2.mono (by have := hb1.size; simp at this; omega))⟩
                  · have c9 : f = 4 := by omega
                    have d1 : (f == 3) = false := by simpa using c8
                    have d2 : (f != 3) = true := by simpa using c8
                    have d3 : (f == 4) = true := by simpa using c9
                    have d4 : (f != 4) = false := by simpa using c9
                    have HF4 : Hid (f = 2 ∨ f = 4) := Lib.hid (.inr c9)
                    have g3 : (f == 2) = false := by simp; omega
                    clear c6 c8 c9
                    go_enter Tryz.func48, Tryz.ntmps48
                    go_wp2_with fail
                    refine (refPlain_any f ⟨lt, lp⟩ _ _ _ ⟨h1, h2⟩ HWL.out).mono ?_
                    rintro e w1 ⟨rfl, hb1⟩
                    have hc1 : ∀ k, w1.cell? ⟨w.heap.size, k, none⟩ = _ := fun k => hb1.cell (p := ⟨w.heap.size, k, none⟩) (by simp)
                    have hsz1 := hb1.size
                    cases hL : plain f ⟨lt, lp⟩ (b + 1) n
                    · have HR : Hid (right ⟨f, t, b, ⟨lt, lp⟩, ⟨ht, hp⟩⟩ n = false) := Lib.hid (right_lo hL)
                      clear hL
                      go_wp2_with fail
                      go_ret
                      exact ⟨by rw [HR.out]; rfl, hfin.trans (hb1.mono (by simp))⟩
                    · have HL := Lib.hid hL
                      clear hL
                      go_wp2_with fail
                      refine (refPlain_any f ⟨ht, hp⟩ _ _ _ ⟨h1, h2⟩ HWH.out).mono ?_
                      rintro e w2 ⟨rfl, hb2⟩
                      have hc2 : ∀ k, w2.cell? ⟨w.heap.size, k, none⟩ = _ := fun k => (hb2.cell (p := ⟨w.heap.size, k, none⟩) (by have := hb1.size; simp at this; show w.heap.size < _; omega)).trans (hc1 k)
                      cases hH : plain f ⟨ht, hp⟩ (b + 1) n
                      · have HR : Hid (right ⟨f, t, b, ⟨lt, lp⟩, ⟨ht, hp⟩⟩ n = false) := Lib.hid (right_hi hH)
                        clear hH
                        go_wp2_with fail
                        go_ret
                        exact ⟨by rw [HR.out]; rfl, (hfin.trans (hb1.mono (by simp))).trans (hb2.mono (by have := hb1.size; simp at this; omega))⟩
                      · have HR := Lib.hid (right_end (r := ⟨f, t, b, ⟨lt, lp⟩, ⟨ht, hp⟩⟩) HA.out HL.out hH)
                        clear hH
                        go_wp2_with fail
                        go_ret
                        exact ⟨by rw [HR.out]; rw [if_pos HF4.out, HPOS.out]; rfl, (hfin.trans (hb1.mono (by simp))).trans (hb2.mono (by have := hb1.size; simp at this; omega))⟩
                · have c7' : decide (t < b) = false := by simpa using c7
                  clear c6
                  go_enter Tryz.func48, Tryz.ntmps48
                  go_wp2_with fail
                  refine (refPlain_any f ⟨lt, lp⟩ _ _ _ ⟨h1, h2⟩ HWL.out).mono ?_
                  rintro e w1 ⟨rfl, hb1⟩
                  have hc1 : ∀ k, w1.cell? ⟨w.heap.size, k, none⟩ = _ := fun k => hb1.cell (p := ⟨w.heap.size, k, none⟩) (by simp)
                  have hsz1 := hb1.size
                  cases hL : plain f ⟨lt, lp⟩ (b + 1) n
                  · have HR : Hid (right ⟨f, t, b, ⟨lt, lp⟩, ⟨ht, hp⟩⟩ n = false) := Lib.hid (right_lo hL)
                    clear hL
                    go_wp2_with fail
                    go_ret
                    exact ⟨by rw [HR.out]; rfl, hfin.trans (hb1.mono (by simp))⟩
                  · have HL := Lib.hid hL
                    clear hL
                    go_wp2_with fail
                    refine (refPlain_any f ⟨ht, hp⟩ _ _ _ ⟨h1, h2⟩ HWH.out).mono ?_
                    rintro e w2 ⟨rfl, hb2⟩
                    have hc2 : ∀ k, w2.cell? ⟨w.heap.size, k, none⟩ = _ := fun k => (hb2.cell (p := ⟨w.heap.size, k, none⟩) (by have := hb1.size; simp at this; show w.heap.size < _; omega)).trans (hc1 k)
                    cases hH : plain f ⟨ht, hp⟩ (b + 1) n
                    · have HR : Hid (right ⟨f, t, b, ⟨lt, lp⟩, ⟨ht, hp⟩⟩ n = false) := Lib.hid (right_hi hH)
                      clear hH
                      go_wp2_with fail
                      go_ret
                      exact ⟨by rw [HR.out]; rfl, (hfin.trans (hb1.mono (by simp))).trans (hb2.mono (by have := hb1.size; simp at this; omega))⟩
                    · have HR := Lib.hid (right_end (r := ⟨f, t, b, ⟨lt, lp⟩, ⟨ht, hp⟩⟩) HA.out HL.out hH)
                      clear hH
                      by_cases g2 : f = 2
                      · have HG : Hid (f = 2 ∨ f = 4) := Lib.hid (.inl g2)
                        have g3 : (f == 2) = true := by simpa using g2
                        clear g2
                        go_wp2_with fail
                        go_ret
                        exact ⟨by rw [HR.out]; rw [if_pos HG.out, HPOS.out]; rfl, (hfin.trans (hb1.mono (by simp))).trans (hb2.mono (by have := hb1.size; simp at this; omega))⟩
                      · have g3 : (f == 2) = false := by simpa using g2
                        by_cases g4 : f = 4
                        · have HG : Hid (f = 2 ∨ f = 4) := Lib.hid (.inr g4)
                          have g5 : (f == 4) = true := by simpa using g4
                          clear g2 g4
                          go_wp2_with fail
                          go_ret
                          exact ⟨by rw [HR.out]; rw [if_pos HG.out, HPOS.out]; rfl, (hfin.trans (hb1.mono (by simp))).trans (hb2.mono (by have := hb1.size; simp at this; omega))⟩
                        · have g5 : (f == 4) = false := by simpa using g4
                          have HG : Hid (¬ (f = 2 ∨ f = 4)) := Lib.hid (by omega)
                          clear g2 g4
                          by_cases g6 : lp = hp
                          · have g7 : (lp == hp) = true := by simpa using g6
                            have g8 : (lp != hp) = false := by simpa using g6
                            by_cases g9 : lt = ht
                            · have HE : Hid ((⟨lt, lp⟩ : Edg) = ⟨ht, hp⟩) := Lib.hid (by rw [g6, g9])
                              have ga : (lt != ht) = false := by simpa using g9
                              have gb : (lt == ht) = true := by simpa using g9
                              clear g6 g9
                              go_wp2_with fail
                              go_ret
                              exact ⟨by rw [HR.out]; rw [if_neg HG.out, HE.out, bne_self_eq_false]; first | rfl | simp [ga], (hfin.trans (hb1.mono (by simp))).trans (hb2.mono (by have := hb1.size; simp at this; omega))⟩
                            · have HE : Hid ((⟨lt, lp⟩ : Edg) ≠ ⟨ht, hp⟩) := Lib.hid (fun e => g9 (by injection e))
                              have ga : (lt != ht) = true := by simpa using g9
                              have gb : (lt == ht) = false := by simpa using g9
                              clear g6 g9
                              go_wp2_with fail
                              go_ret
                              exact ⟨by rw [HR.out]; rw [if_neg HG.out, bne_iff_ne.2 HE.out]; first | rfl | simp [ga], (hfin.trans (hb1.mono (by simp))).trans (hb2.mono (by have := hb1.size; simp at this; omega))⟩
                          · have g7 : (lp == hp) = false := by simpa using g6
                            have g8 : (lp != hp) = true := by simpa using g6
                            have HE : Hid ((⟨lt, lp⟩ : Edg) ≠ ⟨ht, hp⟩) := Lib.hid (fun e => g6 (by injection e))
                            clear g6
                            go_wp2_with fail
                            go_ret
                            exact ⟨by rw [HR.out]; rw [if_neg HG.out, bne_iff_ne.2 HE.out]; first | rfl | simp [g8], (hfin.trans (hb1.mono (by simp))).trans (hb2.mono (by have := hb1.size; simp at this; omega))⟩
              · have HR : Hid (right ⟨f, t, b, ⟨lt, lp⟩, ⟨ht, hp⟩⟩ n = false) := Lib.hid (right_noA (by simp only; omega))
                have d0 : t < b := by omega
                have d2 : (f != 3) = true := by simp; omega
                have d4 : (f != 4) = true := by simp; omega
                have d1 : (f == 3) = false := by simp; omega
                have d3 : (f == 4) = false := by simp; omega
                clear c6
                go_enter Tryz.func48, Tryz.ntmps48
                go_wp2_with fail
                go_ret
                exact ⟨by rw [HR.out]; rfl, hfin⟩
            · have HR : Hid (right ⟨f, t, b, ⟨lt, lp⟩, ⟨ht, hp⟩⟩ n = false) := Lib.hid (right_noA (by simp only; omega))
              go_enter Tryz.func48, Tryz.ntmps48
              go_wp2_with fail
              go_ret
              exact ⟨by rw [HR.out]; rfl, hfin⟩
          · have HR : Hid (right ⟨f, t, b, ⟨lt, lp⟩, ⟨ht, hp⟩⟩ n = false) := Lib.hid (right_noA (by simp only; omega))
            go_enter Tryz.func48, Tryz.ntmps48
            go_wp2_with fail
            go_ret
            exact ⟨by rw [HR.out]; rfl, hfin⟩
        · have HR : Hid (right ⟨f, t, b, ⟨lt, lp⟩, ⟨ht, hp⟩⟩ n = false) := Lib.hid (right_noA (by simp only; omega))
          go_enter Tryz.func48, Tryz.ntmps48
          go_wp2_with fail
          go_ret
          exact ⟨by rw [HR.out]; rfl, hfin⟩
      · have HR : Hid (right ⟨f, t, b, ⟨lt, lp⟩, ⟨ht, hp⟩⟩ n = false) := Lib.hid (right_noA (by simp only; omega))
        go_enter Tryz.func48, Tryz.ntmps48
        go_wp2_with fail
        go_ret
        exact ⟨by rw [HR.out]; rfl, hfin⟩
    · have HR : Hid (right ⟨f, t, b, ⟨lt, lp⟩, ⟨ht, hp⟩⟩ n = false) := Lib.hid (right_noA (by simp only; omega))
      go_enter Tryz.func48, Tryz.ntmps48
      go_wp2_with fail
      go_ret
      exact ⟨by rw [HR.out]; rfl, hfin⟩
  · have HR : Hid (right ⟨f, t, b, ⟨lt, lp⟩, ⟨ht, hp⟩⟩ n = false) := Lib.hid (right_noA (by simp only; omega))
    go_enter Tryz.func48, Tryz.ntmps48
    go_wp2_with fail
    go_ret
    exact ⟨by rw [HR.out]; rfl, hfin⟩
end Go.Proofs.YtpjciaomhfeeeaaGreat
end
