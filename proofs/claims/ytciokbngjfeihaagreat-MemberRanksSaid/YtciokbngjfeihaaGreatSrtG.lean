/- The library's sort of uint32: what it leaves is a permutation (7): the whole. -/
import Derived.Test.YtciokbngjfeihaaGreatSrtA
import Derived.Test.YtciokbngjfeihaaGreatSrtB
import Derived.Test.YtciokbngjfeihaaGreatSrtC
import Derived.Test.YtciokbngjfeihaaGreatSrtD
import Derived.Test.YtciokbngjfeihaaGreatSrtE
import Derived.Test.YtciokbngjfeihaaGreatSrtF
import Derived.Deep.DeepCutAuto
namespace Go.Proofs.YtciokbngjfeihaaGreat
open Go Go.RowKit
set_option linter.unusedSimpArgs false
set_option linter.unusedVariables false

def PdqC (g n c m : Nat) : Prop := ∀ (a b lim : Nat) (xs : List Int) (w : World), a ≤ b → b ≤ n → b - a ≤ m → U32At w g n c xs → g < w.heap.size → lim ≤ 64 →
  Calls Tryz.prog 95 #[.slice (some ⟨g, 0, none⟩) n c, .int .i64 (a : Nat), .int .i64 (b : Nat), .int .i64 (lim : Nat)] w fun e w' => e = .returned (.tuple #[]) ∧ Srt w g n c xs w'
theorem Srt.lt {w w' : World} {g n c : Nat} {xs : List Int} (h : Srt w g n c xs w') (hg : g < w.heap.size) : g < w'.heap.size := by
  obtain ⟨_, _, _, hc⟩ := h
  exact Nat.lt_of_lt_of_le hg hc.size
/-- go on from what stands -/
theorem Srt.go {w w1 w2 : World} {g n c : Nat} {xs : List Int} (h : Srt w g n c xs w1) (k : ∀ ys, U32At w1 g n c ys → Srt w1 g n c ys w2) : Srt w g n c xs w2 := by
  obtain ⟨ys, h1, h2, h3⟩ := h
  exact Srt.trans h1 h3 (k ys h2)
theorem Srt.calls {w w1 : World} {g n c : Nat} {xs : List Int} {P : Program} {f : FuncId} {args : Array Value} {R : Ending → Prop} (h : Srt w g n c xs w1) (k : ∀ ys, U32At w1 g n c ys → Calls P f args w1 fun e w2 => R e ∧ Srt w1 g n c ys w2) :
    Calls P f args w1 fun e w2 => R e ∧ Srt w g n c xs w2 := by
  obtain ⟨ys, h1, h2, h3⟩ := h
  exact (k ys h2).mono fun e w2 ⟨q1, q2⟩ => ⟨q1, Srt.trans h1 h3 q2⟩
theorem Srt.callsB {w w1 : World} {g n c : Nat} {xs : List Int} {P : Program} {f : FuncId} {args : Array Value} {R : Ending → Prop} (h : Srt w g n c xs w1) (hg : g < w1.heap.size) (k : ∀ ys, U32At w1 g n c ys → Calls P f args w1 fun e w2 => R e ∧ Below w1.heap.size w1 w2) :
    Calls P f args w1 fun e w2 => R e ∧ Srt w g n c xs w2 := by
  obtain ⟨ys, h1, h2, h3⟩ := h
  exact (k ys h2).mono fun e w2 ⟨q1, q2⟩ => ⟨q1, ys, h1, OwnF.belowB h2 q2 (fun k hk => by simp [Value.ownBlock] at hk; omega), h3.trans (chg_of_below q2 : Chg [] _ _) (fun x hx => by cases hx)⟩
set_option maxRecDepth 200000 in
set_option maxHeartbeats 32000000 in
theorem pdq_step (g n c m : Nat) (hn : n ≤ 1000000000) (ih : ∀ k, k < m → PdqC g n c k) : PdqC g n c m := by
  intro a0 b0 lim0 xs w hab hb hm h hg hl
  have HS := Lib.hid (Srt.refl h)
  have IH := Lib.hid ih
  clear h ih
  go_enter Tryz.func95, Tryz.ntmps95
  go_wp2_with fail
  go_loopw [1, 2, 3, 8, 9] (fun va vb vl vp vq wr => ∃ (a b lim : Nat) (p q : Bool), a0 ≤ a ∧ a ≤ b ∧ b ≤ b0 ∧ lim ≤ 64 ∧ va = .int .i64 (a : Nat) ∧ vb = .int .i64 (b : Nat) ∧ vl = .int .i64 (lim : Nat) ∧ vp = .bool p ∧ vq = .bool q ∧ Srt w g n c xs wr) (fun va vb _ _ _ _ => (intOf vb - intOf va).toNat)
  case atStart => exact ⟨a0, b0, lim0, true, true, Nat.le_refl _, hab, Nat.le_refl _, hl, rfl, rfl, rfl, rfl, rfl, HS.out⟩
  case round =>
    obtain ⟨a, b, lim, p, q, r1, r2, r3, r4, rfl, rfl, rfl, rfl, rfl, hs⟩ := hrel
    have HS := Lib.hid hs
    have hgr := hs.lt hg
    clear hs
    obtain ⟨l, hll⟩ : ∃ l, l = b - a := ⟨_, rfl⟩
    have l1 : (b : Int) - (a : Int) = (l : Int) := by omega
    have l2 : a + l ≤ b := by omega
    have l3 : b ≤ a + l := by omega
    clear hll
    by_cases h12 : l ≤ 12
    · have h12i : (l : Int) ≤ 12 := by omega
      have HC := Lib.hid (HS.out.calls (fun ys hy => ins_any g n c a b ys wr hy (by omega) (by omega) hn))
      go_wp2_with fail
      refine HC.out.mono ?_
      rintro e w2 ⟨rfl, h2⟩
      have H2 := Lib.hid h2
      clear h2
      go_wp2_with fail
      exact bodyPost_ret (results_none rfl _ _ _) rfl ⟨rfl, H2.out⟩
    · have h12i : ¬ (l : Int) ≤ 12 := by omega
      by_cases hl0 : lim = 0
      · subst hl0
        have HC := Lib.hid (HS.out.calls (fun ys hy => heap_any g n c a b ys wr hy (by omega) (by omega) hn))
        go_wp2_with fail
        refine HC.out.mono ?_
        rintro e w2 ⟨rfl, h2⟩
        have H2 := Lib.hid h2
        clear h2
        go_wp2_with fail
        exact bodyPost_ret (results_none rfl _ _ _) rfl ⟨rfl, H2.out⟩
      · have hl1 : ((lim : Int) == 0) = false := by simp; omega
        have hl2 : (lim == 0) = false := by simp; omega
        have hl3 : 1 ≤ lim := by omega
        clear hl0
        go_upto_if 35 with fail
        go_cut [3] (fun v wr => ∃ lim' : Nat, lim' ≤ 64 ∧ v = .int .i64 (lim' : Nat) ∧ Srt w g n c xs wr)
        case first =>
          cases p with
          | true =>
            go_wp2_with fail
            go_meet
            exact ⟨lim, r4, rfl, HS.out⟩
          | false =>
            have HC := Lib.hid (HS.out.calls (fun ys hy => break_any g n c a b ys wr hy (by omega) (by omega) hn hgr))
            go_wp2_with fail
            refine HC.out.mono ?_
            rintro e w2 ⟨rfl, h2⟩
            have H2 := Lib.hid h2
            clear h2
            go_wp2_with fail
            go_meet
            exact ⟨lim - 1, by omega, by go_num, H2.out⟩
        obtain ⟨lim', hl', rfl, hs⟩ := hcut
        have hgc := hs.lt hg
        have HS := Lib.hid hs
        clear hs hgr
        have HC := Lib.hid (HS.out.callsB hgc (fun ys hy => pivot_any g n c a b ys wc hy (by omega) (by omega) hn hgc))
        go_upto_if 50 with ((with_reducible refine HC.out.mono ?_); rintro e w2 ⟨⟨pv, ht, rfl, v1, v2, v3⟩, h2⟩; have H2 := Lib.hid h2; clear h2)
        obtain ⟨wo, hwo⟩ : ∃ wo : World, wo = w2 := ⟨_, rfl⟩
        subst hwo
        have hg2 := H2.out.lt hg
        go_cut [11, 12] (fun vp vh wr => ∃ p1 h1 : Nat, a ≤ p1 ∧ p1 < b ∧ h1 ≤ 2 ∧ vp = .int .i64 (p1 : Nat) ∧ vh = .int .i64 (h1 : Nat) ∧ Srt w g n c xs wr)
        case first =>
          by_cases hh : ht = 2
          · subst hh
            have HC := Lib.hid (H2.out.calls (fun ys hy => rev_any g n c a b ys wo hy (by omega) (by omega) hn))
            have e1 : (b : Int) - 1 - ((pv : Int) - (a : Int)) = ((b - 1 - (pv - a) : Nat) : Int) := by omega
            obtain ⟨p1, hp1⟩ : ∃ p1, p1 = b - 1 - (pv - a) := ⟨_, rfl⟩
            rw [← hp1] at e1
            have HP1 : Hid (a ≤ p1 ∧ p1 < b) := Lib.hid (by omega)
            clear hp1
            go_wp2_with fail
            refine HC.out.mono ?_
            rintro e w3 ⟨rfl, h3⟩
            have H3 := Lib.hid h3
            clear h3
            go_wp2_with fail
            go_meet
            exact ⟨p1, 1, HP1.out.1, HP1.out.2, by omega, rfl, rfl, H3.out⟩
          · have hh1 : ((ht : Int) == 2) = false := by simp; omega
            go_wp2_with fail
            go_meet
            exact ⟨pv, ht, v1, v2, v3, rfl, rfl, H2.out⟩
        obtain ⟨p1, h1, p11, p12, h12', rfl, rfl, hs⟩ := hcut
        have hg3 := hs.lt hg
        have HS := Lib.hid hs
        clear hs H2
        go_upto_region 15 with fail
        go_cut [68] (fun v wr => ∃ t : Bool, v = .bool t ∧ Srt w g n c xs wr)
        case first =>
          cases p with
          | false =>
            go_wp2_with fail
            go_meet
            exact ⟨false, rfl, HS.out⟩
          | true =>
            cases q with
            | false =>
              go_wp2_with fail
              go_meet
              exact ⟨false, rfl, HS.out⟩
            | true =>
              by_cases hh : h1 = 1
              · subst hh
                go_wp2_with fail
                go_meet
                exact ⟨true, rfl, HS.out⟩
              · have hh1 : ((h1 : Int) == 1) = false := by simp; omega
                go_wp2_with fail
                go_meet
                exact ⟨false, rfl, HS.out⟩
        obtain ⟨t, rfl, hs⟩ := hcut
        have hg4 := hs.lt hg
        have HS := Lib.hid hs
        clear hs
        go_upto_if 68 with fail
        go_cut [68] (fun v wr => ∃ t : Bool, v = .bool t ∧ Srt w g n c xs wr)
        case first =>
          cases t with
          | true =>
            have HC := Lib.hid (HS.out.calls (fun ys hy => partial_any g n c a b ys wc hy (by omega) (by omega) hn))
            go_wp2_with fail
            refine HC.out.mono ?_
            rintro e w3 ⟨⟨q3, rfl⟩, h3⟩
            have H3 := Lib.hid h3
            clear h3
            cases q3 with
            | true =>
              go_wp2_with fail
              exact bodyPost_ret (results_none rfl _ _ _) rfl ⟨rfl, H3.out⟩
            | false =>
              go_wp2_with fail
              go_meet
              exact ⟨true, rfl, H3.out⟩
          | false =>
            go_wp2_with fail
            go_meet
            exact ⟨false, rfl, HS.out⟩
        obtain ⟨t2, rfl, hs⟩ := hcut
        have hg5 := hs.lt hg
        obtain ⟨wo5, hwo5⟩ : ∃ wo5 : World, wo5 = wc := ⟨_, rfl⟩
        have HS := Lib.hid hs
        clear hs
        go_upto_region 17 with fail
        go_cut [87] (fun v wr => ∃ t : Bool, v = .bool t ∧ Srt w g n c xs wr)
        case first =>
          obtain ⟨ys, hp, hu, hc⟩ := HS.out
          have HP := Lib.hid (And.intro hp (And.intro hu hc))
          clear hp hc
          by_cases ha0 : 0 < a
          · have ha1 : (0 : Int) < (a : Int) := by omega
            have ha2 : ((a : Int) - 1).toNat = a - 1 := by omega
            have ha3 : (0 : Int) ≤ (a : Int) - 1 := by omega
            have ha4 : (a : Int) - 1 < (n : Int) := by omega
            have ha5 := wrapN ((a : Int) - 1) (by omega) (by omega)
            have ha6 : (p1 : Int) < (n : Int) := by omega
            have ha7 : p1 < n := by omega
            have ha8 : a - 1 < n := by omega
            obtain ⟨c0, _⟩ := hu.cell (k := a - 1) (by omega)
            obtain ⟨c1, _⟩ := hu.cell (k := p1) (by omega)
            generalize hx0 : ys[a - 1]?.getD 0 = x at *
            generalize hx1 : ys[p1]?.getD 0 = y at *
            obtain ⟨qq, hqq⟩ := less_some x y
            have HQ := Lib.hid hqq
            clear hu hqq hx0 hx1
            cases qq with
            | true =>
              go_quiet ((go_at_call 103; exact q_same (HQ.out _)))
              go_wp2_with fail
              go_meet
              exact ⟨false, rfl, Srt.drewN ⟨ys, HP.out.1, HP.out.2.1, HP.out.2.2⟩ _⟩
            | false =>
              go_quiet ((go_at_call 103; exact q_same (HQ.out _)))
              go_wp2_with fail
              go_meet
              exact ⟨true, rfl, Srt.drewN ⟨ys, HP.out.1, HP.out.2.1, HP.out.2.2⟩ _⟩
          · have ha1 : ¬ (0 : Int) < (a : Int) := by omega
            have ha2 : decide (0 < a) = false := by simpa using ha0
            clear hu
            go_quiet (fail)
            go_wp2_with fail
            go_meet
            exact ⟨false, rfl, Srt.drewN ⟨ys, HP.out.1, HP.out.2.1, HP.out.2.2⟩ _⟩
        obtain ⟨t3, rfl, hs⟩ := hcut
        have hg6 := hs.lt hg
        have HS := Lib.hid hs
        clear hs hwo5
        cases t3 with
        | true =>
          have HC := Lib.hid (HS.out.calls (fun ys hy => parteq_any g n c a b p1 ys wc hy (by omega) (by omega) (by omega) hn))
          go_wp2_with fail
          refine HC.out.mono ?_
          rintro e w3 ⟨⟨m3, rfl, m31, m32⟩, h3⟩
          have H3 := Lib.hid h3
          clear h3
          go_wp2_with fail
          go_roundw
          case rel => exact ⟨m3, b, lim', _, _, by omega, by omega, by omega, hl', rfl, rfl, rfl, rfl, rfl, H3.out⟩
          case measure => simp [intOf] <;> omega
        | false =>
          have HC := Lib.hid (HS.out.calls (fun ys hy => part_any g n c a b p1 ys wc hy (by omega) (by omega) (by omega) hn))
          go_wp2_with fail
          refine HC.out.mono ?_
          rintro e w3 ⟨⟨m3, q3, rfl, m31, m32⟩, h3⟩
          have hg7 := h3.lt hg
          have HCL := Lib.hid (h3.calls (fun ys hy => IH.out (m3 - a) (by omega) a m3 lim' ys w3 (by omega) (by omega) (by omega) hy hg7 hl'))
          have HCR := h3.calls (fun ys hy => IH.out (b - (m3 + 1)) (by omega) (m3 + 1) b lim' ys w3 (by omega) (by omega) (by omega) hy hg7 hl')
          rw [show ((m3 + 1 : Nat) : Int) = (m3 : Int) + 1 by omega] at HCR
          have HCR2 := Lib.hid HCR
          clear h3 HCR
          by_cases hlr : (m3 : Int) - (a : Int) < (b : Int) - (m3 : Int)
          · go_wp2_with fail
            refine HCL.out.mono ?_
            rintro e w4 ⟨rfl, h4⟩
            have H4 := Lib.hid h4
            clear h4
            go_wp2_with fail
            go_roundw
            case rel => exact ⟨m3 + 1, b, lim', _, _, by omega, by omega, by omega, hl', by go_num, rfl, rfl, rfl, rfl, H4.out⟩
            case measure => simp [intOf] <;> omega
          · go_wp2_with fail
            refine HCR2.out.mono ?_
            rintro e w4 ⟨rfl, h4⟩
            have H4 := Lib.hid h4
            clear h4
            go_wp2_with fail
            go_roundw
            case rel => exact ⟨a, m3, lim', _, _, by omega, by omega, by omega, hl', rfl, rfl, rfl, rfl, rfl, H4.out⟩
            case measure => simp [intOf] <;> omega
theorem pdq_any (g n c : Nat) (hn : n ≤ 1000000000) : ∀ m, PdqC g n c m := fun m => Nat.strongRecOn m fun m ih => pdq_step g n c m hn ih
set_option maxRecDepth 100000 in
set_option maxHeartbeats 8000000 in
theorem sort_any (g n c : Nat) (xs : List Int) (w : World) (h : U32At w g n c xs) (hn : n ≤ 1000000000) (hg : g < w.heap.size) :
    Calls Tryz.prog 93 #[.slice (some ⟨g, 0, none⟩) n c] w fun e w' => e = .returned (.tuple #[]) ∧ Srt w g n c xs w' := by
  have HL := Lib.hid (fun W => Tryz.bits_Len (n : Nat) W (by omega) (by omega))
  rw [show ((n : Nat) : Int).toNat = n from rfl] at HL
  have h32 : Lib.bitLen n ≤ 32 := Lib.bitLen_le n 32 (by omega) (by omega)
  have HC := Lib.hid (pdq_any g n c hn n 0 n (Lib.bitLen n) xs w (Nat.zero_le _) (Nat.le_refl _) (by omega) h hg (by omega))
  generalize Lib.bitLen n = k at *
  have hc : IntKind.u64.wrap (n : Int) = (n : Int) := wrap_u64n _ (by omega)
  clear h
  go_enter Tryz.func93, Tryz.ntmps93
  go_wp2_with fail
  refine (HL.out _).mono ?_
  rintro e w1 ⟨rfl, rfl⟩
  go_wp2_with fail
  refine HC.out.mono ?_
  rintro e w2 ⟨rfl, h2⟩
  go_wp2_with fail
  go_end0
  exact ⟨rfl, h2⟩
end Go.Proofs.YtciokbngjfeihaaGreat
