/- The walk of PermThen. -/
import Derived.Test.YtfnhknbofllhcaaPermV
import Derived.Test.YtfnhknbofllhcaaPermSteps
namespace Go.Proofs.Ytfnhknbofllhcaa
open Go.RowKit
set_option linter.unusedSimpArgs false
set_option linter.unusedVariables false

theorem then_any (A B : Option Addr) (n m c d : Nat) (ps qs : List Int) (w : World) (b : Bool) (hp : ps.length = n) (hq : qs.length = m) (hn : n ≤ 9223372036854775807) (hm : m ≤ 9223372036854775807) (ha : Ints w w.heap.size A ps) (hb : Ints w w.heap.size B qs) (hbb : decide (IsPerm ps ∧ IsPerm qs ∧ n = m) = b) :
    Calls Try.prog 21 #[.slice A n c, .slice B m d] w fun e w' => ∃ v, e = .returned (.tuple #[v, .bool b]) ∧ OwnI w' w.heap.size v (if b then thenL ps qs else []) ∧ Below w.heap.size w w' := by
  subst hbb
  by_cases h : IsPerm ps ∧ IsPerm qs ∧ n = m
  · rw [decide_eq_true h]
    obtain ⟨hP, hQ, rfl⟩ := h
    exact then_yes A B n c d ps qs w hp hq hP hQ ha hb
  · rw [decide_eq_false h]
    exact (then_no A B n m c d ps qs w hp hq hn hm ha hb h).mono fun e w' ⟨he, hw⟩ => ⟨_, he, OwnF.nil_, by subst hw; exact Below.refl _ _⟩
theorem step_any (A : Option Addr) (n c : Nat) (zs : List Int) (q : Int) (w : World) (b : Bool) (hz : zs.length = n) (hn : n ≤ 9223372036854775807) (hq : q ≤ 9223372036854775807) (hr : Ints w w.heap.size A zs) (hbb : decide (IsPerm zs ∧ 0 ≤ q ∧ q + 1 < n) = b) :
    Calls Try.prog 14 #[.slice A n c, .int .i64 q] w fun e w' => ∃ v, e = .returned (.tuple #[v, .bool b]) ∧ OwnI w' w.heap.size v (if b then swapL zs q.toNat else []) ∧ Below w.heap.size w w' := by
  subst hbb
  by_cases h : IsPerm zs ∧ 0 ≤ q ∧ q + 1 < n
  · rw [decide_eq_true h]
    exact step_yes A n c zs q w hz h.1 hr h.2.1 h.2.2
  · rw [decide_eq_false h]
    exact (step_no A n c zs q w hz hn hr h hq).mono fun e w' ⟨he, hw⟩ => ⟨_, he, OwnF.nil_, by subst hw; exact Below.refl _ _⟩
theorem own_len0 {w : World} {base : Nat} {v : Value} (h : OwnI w base v []) : ∃ A c, v = .slice A 0 c := by
  obtain ⟨A, n, c, rfl, h1, _⟩ := h.form
  simp at h1
  subst h1
  exact ⟨A, c, rfl⟩

/-- the loop at the law's end -/
theorem isPerm_any (zs : List Int) : decide (IsPerm zs) = true ∨ decide (IsPerm zs) = false := by cases decide (IsPerm zs) <;> simp

set_option maxHeartbeats 8000000 in
theorem permThen_walk (A B : Option Addr) (n m c d : Nat) (ps qs : List Int) (q : Int) (w : World) (hp : ps.length = n) (hq : qs.length = m) (hn : n ≤ maxLen) (hm : m ≤ maxLen) (hqb : q ≤ 9223372036854775807) (ha : Ints w w.heap.size A ps) (hb : Ints w w.heap.size B qs) :
    Calls Try.prog 6 #[.slice A n c, .slice B m d, .int .i64 q] w fun e w' => e = .returned (.bool true) ∧ Below w.heap.size w w' := by
  unfold maxLen at hn hm
  have Hp := Lib.hid hp
  have Hq := Lib.hid hq
  clear hp hq
  by_cases h40 : n ≤ 40 ∧ m ≤ 40
  · obtain ⟨hn40, hm40⟩ := h40
    obtain ⟨bT, hbT⟩ : ∃ b, decide (IsPerm ps ∧ IsPerm qs ∧ n = m) = b := ⟨_, rfl⟩
    obtain ⟨bS, hbS⟩ : ∃ b, decide (IsPerm ps ∧ 0 ≤ q ∧ q + 1 < n) = b := ⟨_, rfl⟩
    have HT := Lib.hid hbT
    have HS := Lib.hid hbS
    clear hbT hbS
    go_enter Try.func6, Try.ntmps6
    go_wp2_with fail
    refine (alive_any _).mono ?_
    rintro e w1 ⟨rfl, hb1⟩
    have ha1 := ha.on hb1
    have hb1' := hb.on hb1
    go_wp2_with fail
    refine (then_any A B n m c d ps qs _ bT Hp.out Hq.out hn hm ha1 hb1' HT.out).mono ?_
    rintro e w2 ⟨v, rfl, hown, hb2⟩
    have ha2 := ha1.on hb2
    have hb2' := hb1'.on hb2
    go_wp2_with fail
    refine (step_any A n c ps q _ bS Hp.out hn hqb ha2 HS.out).mono ?_
    rintro e w3 ⟨s, rfl, howns, hb3⟩
    have ha3 := ha2.on hb3
    have hb3' := hb2'.on hb3
    have hown3 := own_below hown hb3
    have hbel : Below w.heap.size w w3 := hb1.trans ((hb2.mono hb1.size).trans (hb3.mono (Nat.le_trans hb1.size hb2.size)))
    go_wp2_with fail
    refine (refRight_any A n c ps _ Hp.out (by omega) ha3).mono ?_
    rintro e w' ⟨rfl, rfl⟩
    clear ha ha1 ha2 hb hb1' hb2' hown hb1 hb2 hb3
    by_cases hP : IsPerm ps
    · rw [decide_eq_true hP]
      have HP := Lib.hid hP
      clear hP
      go_wp2_with fail
      refine (refRight_any B m d qs _ Hq.out (by omega) hb3').mono ?_
      rintro e w' ⟨rfl, rfl⟩
      by_cases hQ : IsPerm qs
      · by_cases hE : n = m
        · subst hE
          by_cases hq0 : 0 ≤ q
          · by_cases hq1 : q + 1 < n
            · have hT : bT = true := by rw [← HT.out]; exact decide_eq_true ⟨HP.out, hQ, rfl⟩
              rw [decide_eq_true hQ]
              have hnm : ((n : Int) == (n : Int)) = true := by simp
              have hS : bS = true := by rw [← HS.out]; exact decide_eq_true ⟨HP.out, hq0, hq1⟩
              have hq2 : q < (n : Int) - 1 := by omega
              subst hT hS
              simp only [Bool.false_eq_true, if_false, if_true] at howns hown3
              obtain ⟨A0, n0, c0, rfl, hl0, _⟩ := OwnF.form hown3
              obtain rfl : n = n0 := by rw [← hl0, thenL_length, Hp.out]
              have HL := Lib.hid hl0
              clear hl0
              clear hQ
              go_wp2_with fail
              refine (refStep_any A n c ps q _ Hp.out (by omega) ha3 hq0 hq1).mono ?_
              rintro e w4 ⟨v4, rfl, hown4, hb4⟩
              have ha4 := ha3.on hb4
              have hb4' := hb3'.on hb4
              have hown3' := own_below hown3 hb4
              have howns' := own_below howns hb4
              have hbel' := hbel.trans (hb4.mono hbel.size)
              obtain ⟨A1, n1, c1, rfl, h1, _⟩ := OwnF.form howns'
              obtain ⟨A2, n2, c2, rfl, h2, _⟩ := hown4.form
              have hl1 := OwnF.len_le howns'
              rw [h1] at hl1
              have hl2 := OwnF.len_le hown4
              rw [h2] at hl2
              have H1 := Lib.hid h1
              have H2 := Lib.hid h2
              clear h1 h2 howns hown3 hbel hb4 ha3 hb3'
              go_wp2_with fail
              refine (same_any A1 A2 n1 n2 c1 c2 _ _ _ H1.out H2.out hl1 hl2 (OwnI.ints howns') (OwnI.ints hown4)).mono ?_
              rintro e w5 ⟨rfl, k5, rfl⟩
              have ha3 := ha4
              have hb3' := hb4'
              have hown3 := hown3'
              have hbel := hbel'
              clear ha4 hb4' hown3' hbel'
              rw [decide_eq_true rfl]
              go_wp2_with fail
              go_loopw [12] (fun i wr => ∃ k t : Nat, k ≤ n ∧ i = .int .i64 k ∧ wr = w4.drewN t) (fun i _ => n - (intOf i).toNat)
              case atStart => exact ⟨0, k5, Nat.zero_le _, rfl, rfl⟩
              case round =>
                obtain ⟨k, t, hk, rfl, rfl⟩ := hrel
                by_cases hlt : k < n
                · obtain ⟨ba, oa, rfl, hba, hca⟩ := ha3 (by rw [Hp.out]; omega)
                  obtain ⟨bb, bo, rfl, hbb, hcb⟩ := hb3' (by rw [Hq.out]; omega)
                  obtain ⟨br, ro, rfl, hbr, hcr⟩ := (OwnI.ints hown3) (by rw [HL.out]; omega)
                  have hx := HP.out.get (k := k) (by rw [Hp.out]; exact hlt)
                  rw [Hp.out] at hx
                  have hck := hca k (by rw [Hp.out]; exact hlt)
                  have hcrk := hcr k (by rw [HL.out]; exact hlt)
                  rw [thenL_get ps qs k (by rw [Hp.out]; exact hlt)] at hcrk
                  generalize hxe : ps[k]?.getD 0 = x at *
                  clear hxe
                  obtain ⟨hx0, hx1⟩ := hx
                  have hcx := hcb x.toNat (by rw [Hq.out]; omega)
                  clear hca hcb hcr
                  go_wp2_with fail
                  go_quiet (fail)
                  go_wp2_with fail
                  go_roundw
                  case rel => exact ⟨k + 1, _, by omega, by go_num, rfl⟩
                  case measure => simp [intOf]; omega
                · have hkn : ((n : Int) == (n : Int)) = true := by simp
                  go_wp2_with fail
                  go_ret
                  exact ⟨by simp, below_drewN hbel _⟩
            · have hT : bT = true := by rw [← HT.out]; exact decide_eq_true ⟨HP.out, hQ, rfl⟩
              rw [decide_eq_true hQ]
              have hnm : ((n : Int) == (n : Int)) = true := by simp
              have hS : bS = false := by rw [← HS.out]; exact decide_eq_false (fun h => hq1 h.2.2)
              have hq2 : (n : Int) - 1 ≤ q := by omega
              subst hT hS
              simp only [Bool.false_eq_true, if_false, if_true] at howns hown3
              obtain ⟨A0, n0, c0, rfl, hl0, _⟩ := OwnF.form hown3
              obtain rfl : n = n0 := by rw [← hl0, thenL_length, Hp.out]
              have HL := Lib.hid hl0
              clear hl0
              obtain ⟨A1, c1, rfl⟩ := own_len0 howns
              clear hQ
              go_wp2_with fail
              go_loopw [12] (fun i wr => ∃ k t : Nat, k ≤ n ∧ i = .int .i64 k ∧ wr = w3.drewN t) (fun i _ => n - (intOf i).toNat)
              case atStart => exact ⟨0, 0, Nat.zero_le _, rfl, rfl⟩
              case round =>
                obtain ⟨k, t, hk, rfl, rfl⟩ := hrel
                by_cases hlt : k < n
                · obtain ⟨ba, oa, rfl, hba, hca⟩ := ha3 (by rw [Hp.out]; omega)
                  obtain ⟨bb, bo, rfl, hbb, hcb⟩ := hb3' (by rw [Hq.out]; omega)
                  obtain ⟨br, ro, rfl, hbr, hcr⟩ := (OwnI.ints hown3) (by rw [HL.out]; omega)
                  have hx := HP.out.get (k := k) (by rw [Hp.out]; exact hlt)
                  rw [Hp.out] at hx
                  have hck := hca k (by rw [Hp.out]; exact hlt)
                  have hcrk := hcr k (by rw [HL.out]; exact hlt)
                  rw [thenL_get ps qs k (by rw [Hp.out]; exact hlt)] at hcrk
                  generalize hxe : ps[k]?.getD 0 = x at *
                  clear hxe
                  obtain ⟨hx0, hx1⟩ := hx
                  have hcx := hcb x.toNat (by rw [Hq.out]; omega)
                  clear hca hcb hcr
                  go_wp2_with fail
                  go_quiet (fail)
                  go_wp2_with fail
                  go_roundw
                  case rel => exact ⟨k + 1, _, by omega, by go_num, rfl⟩
                  case measure => simp [intOf]; omega
                · have hkn : ((n : Int) == (n : Int)) = true := by simp
                  go_wp2_with fail
                  go_ret
                  exact ⟨by simp, below_drewN hbel _⟩
          · have hT : bT = true := by rw [← HT.out]; exact decide_eq_true ⟨HP.out, hQ, rfl⟩
            rw [decide_eq_true hQ]
            have hnm : ((n : Int) == (n : Int)) = true := by simp
            have hS : bS = false := by rw [← HS.out]; exact decide_eq_false (fun h => hq0 h.2.1)
            subst hT hS
            simp only [Bool.false_eq_true, if_false, if_true] at howns hown3
            obtain ⟨A0, n0, c0, rfl, hl0, _⟩ := OwnF.form hown3
            obtain rfl : n = n0 := by rw [← hl0, thenL_length, Hp.out]
            have HL := Lib.hid hl0
            clear hl0
            obtain ⟨A1, c1, rfl⟩ := own_len0 howns
            clear hQ
            go_wp2_with fail
            go_loopw [12] (fun i wr => ∃ k t : Nat, k ≤ n ∧ i = .int .i64 k ∧ wr = w3.drewN t) (fun i _ => n - (intOf i).toNat)
            case atStart => exact ⟨0, 0, Nat.zero_le _, rfl, rfl⟩
            case round =>
              obtain ⟨k, t, hk, rfl, rfl⟩ := hrel
              by_cases hlt : k < n
              · obtain ⟨ba, oa, rfl, hba, hca⟩ := ha3 (by rw [Hp.out]; omega)
                obtain ⟨bb, bo, rfl, hbb, hcb⟩ := hb3' (by rw [Hq.out]; omega)
                obtain ⟨br, ro, rfl, hbr, hcr⟩ := (OwnI.ints hown3) (by rw [HL.out]; omega)
                have hx := HP.out.get (k := k) (by rw [Hp.out]; exact hlt)
                rw [Hp.out] at hx
                have hck := hca k (by rw [Hp.out]; exact hlt)
                have hcrk := hcr k (by rw [HL.out]; exact hlt)
                rw [thenL_get ps qs k (by rw [Hp.out]; exact hlt)] at hcrk
                generalize hxe : ps[k]?.getD 0 = x at *
                clear hxe
                obtain ⟨hx0, hx1⟩ := hx
                have hcx := hcb x.toNat (by rw [Hq.out]; omega)
                clear hca hcb hcr
                go_wp2_with fail
                go_quiet (fail)
                go_wp2_with fail
                go_roundw
                case rel => exact ⟨k + 1, _, by omega, by go_num, rfl⟩
                case measure => simp [intOf]; omega
              · have hkn : ((n : Int) == (n : Int)) = true := by simp
                go_wp2_with fail
                go_ret
                exact ⟨by simp, below_drewN hbel _⟩
        · by_cases hq0 : 0 ≤ q
          · by_cases hq1 : q + 1 < n
            · have hT : bT = false := by rw [← HT.out]; exact decide_eq_false (fun h => hE h.2.2)
              rw [decide_eq_true hQ]
              have hnm : ((n : Int) == (m : Int)) = false := by rw [beq_eq_false_iff_ne]; omega
              have hS : bS = true := by rw [← HS.out]; exact decide_eq_true ⟨HP.out, hq0, hq1⟩
              have hq2 : q < (n : Int) - 1 := by omega
              subst hT hS
              simp only [Bool.false_eq_true, if_false, if_true] at howns hown3
              obtain ⟨A0, c0, rfl⟩ := own_len0 hown3
              clear hQ hE
              go_wp2_with fail
              refine (refStep_any A n c ps q _ Hp.out (by omega) ha3 hq0 hq1).mono ?_
              rintro e w4 ⟨v4, rfl, hown4, hb4⟩
              have ha4 := ha3.on hb4
              have hb4' := hb3'.on hb4
              have hown3' := own_below hown3 hb4
              have howns' := own_below howns hb4
              have hbel' := hbel.trans (hb4.mono hbel.size)
              obtain ⟨A1, n1, c1, rfl, h1, _⟩ := OwnF.form howns'
              obtain ⟨A2, n2, c2, rfl, h2, _⟩ := hown4.form
              have hl1 := OwnF.len_le howns'
              rw [h1] at hl1
              have hl2 := OwnF.len_le hown4
              rw [h2] at hl2
              have H1 := Lib.hid h1
              have H2 := Lib.hid h2
              clear h1 h2 howns hown3 hbel hb4 ha3 hb3'
              go_wp2_with fail
              refine (same_any A1 A2 n1 n2 c1 c2 _ _ _ H1.out H2.out hl1 hl2 (OwnI.ints howns') (OwnI.ints hown4)).mono ?_
              rintro e w5 ⟨rfl, k5, rfl⟩
              have ha3 := ha4
              have hb3' := hb4'
              have hown3 := hown3'
              have hbel := hbel'
              clear ha4 hb4' hown3' hbel'
              rw [decide_eq_true rfl]
              go_wp2_with fail
              go_ret
              exact ⟨rfl, below_drewN hbel _⟩
            · have hT : bT = false := by rw [← HT.out]; exact decide_eq_false (fun h => hE h.2.2)
              rw [decide_eq_true hQ]
              have hnm : ((n : Int) == (m : Int)) = false := by rw [beq_eq_false_iff_ne]; omega
              have hS : bS = false := by rw [← HS.out]; exact decide_eq_false (fun h => hq1 h.2.2)
              have hq2 : (n : Int) - 1 ≤ q := by omega
              subst hT hS
              simp only [Bool.false_eq_true, if_false, if_true] at howns hown3
              obtain ⟨A0, c0, rfl⟩ := own_len0 hown3
              obtain ⟨A1, c1, rfl⟩ := own_len0 howns
              clear hQ hE
              go_wp2_with fail
              go_ret
              exact ⟨rfl, hbel⟩
          · have hT : bT = false := by rw [← HT.out]; exact decide_eq_false (fun h => hE h.2.2)
            rw [decide_eq_true hQ]
            have hnm : ((n : Int) == (m : Int)) = false := by rw [beq_eq_false_iff_ne]; omega
            have hS : bS = false := by rw [← HS.out]; exact decide_eq_false (fun h => hq0 h.2.1)
            subst hT hS
            simp only [Bool.false_eq_true, if_false, if_true] at howns hown3
            obtain ⟨A0, c0, rfl⟩ := own_len0 hown3
            obtain ⟨A1, c1, rfl⟩ := own_len0 howns
            clear hQ hE
            go_wp2_with fail
            go_ret
            exact ⟨rfl, hbel⟩
      · by_cases hq0 : 0 ≤ q
        · by_cases hq1 : q + 1 < n
          · have hT : bT = false := by rw [← HT.out]; exact decide_eq_false (fun h => hQ h.2.1)
            rw [decide_eq_false hQ]
            have hS : bS = true := by rw [← HS.out]; exact decide_eq_true ⟨HP.out, hq0, hq1⟩
            have hq2 : q < (n : Int) - 1 := by omega
            subst hT hS
            simp only [Bool.false_eq_true, if_false, if_true] at howns hown3
            obtain ⟨A0, c0, rfl⟩ := own_len0 hown3
            clear hQ
            go_wp2_with fail
            refine (refStep_any A n c ps q _ Hp.out (by omega) ha3 hq0 hq1).mono ?_
            rintro e w4 ⟨v4, rfl, hown4, hb4⟩
            have ha4 := ha3.on hb4
            have hb4' := hb3'.on hb4
            have hown3' := own_below hown3 hb4
            have howns' := own_below howns hb4
            have hbel' := hbel.trans (hb4.mono hbel.size)
            obtain ⟨A1, n1, c1, rfl, h1, _⟩ := OwnF.form howns'
            obtain ⟨A2, n2, c2, rfl, h2, _⟩ := hown4.form
            have hl1 := OwnF.len_le howns'
            rw [h1] at hl1
            have hl2 := OwnF.len_le hown4
            rw [h2] at hl2
            have H1 := Lib.hid h1
            have H2 := Lib.hid h2
            clear h1 h2 howns hown3 hbel hb4 ha3 hb3'
            go_wp2_with fail
            refine (same_any A1 A2 n1 n2 c1 c2 _ _ _ H1.out H2.out hl1 hl2 (OwnI.ints howns') (OwnI.ints hown4)).mono ?_
            rintro e w5 ⟨rfl, k5, rfl⟩
            have ha3 := ha4
            have hb3' := hb4'
            have hown3 := hown3'
            have hbel := hbel'
            clear ha4 hb4' hown3' hbel'
            rw [decide_eq_true rfl]
            go_wp2_with fail
            go_ret
            exact ⟨rfl, below_drewN hbel _⟩
          · have hT : bT = false := by rw [← HT.out]; exact decide_eq_false (fun h => hQ h.2.1)
            rw [decide_eq_false hQ]
            have hS : bS = false := by rw [← HS.out]; exact decide_eq_false (fun h => hq1 h.2.2)
            have hq2 : (n : Int) - 1 ≤ q := by omega
            subst hT hS
            simp only [Bool.false_eq_true, if_false, if_true] at howns hown3
            obtain ⟨A0, c0, rfl⟩ := own_len0 hown3
            obtain ⟨A1, c1, rfl⟩ := own_len0 howns
            clear hQ
            go_wp2_with fail
            go_ret
            exact ⟨rfl, hbel⟩
        · have hT : bT = false := by rw [← HT.out]; exact decide_eq_false (fun h => hQ h.2.1)
          rw [decide_eq_false hQ]
          have hS : bS = false := by rw [← HS.out]; exact decide_eq_false (fun h => hq0 h.2.1)
          subst hT hS
          simp only [Bool.false_eq_true, if_false, if_true] at howns hown3
          obtain ⟨A0, c0, rfl⟩ := own_len0 hown3
          obtain ⟨A1, c1, rfl⟩ := own_len0 howns
          clear hQ
          go_wp2_with fail
          go_ret
          exact ⟨rfl, hbel⟩
    · have hT : bT = false := by rw [← HT.out]; exact decide_eq_false (fun h => hP h.1)
      have hS : bS = false := by rw [← HS.out]; exact decide_eq_false (fun h => hP h.1)
      rw [decide_eq_false hP]
      subst hT hS
      simp only [Bool.false_eq_true, if_false] at howns hown3
      obtain ⟨A1, c1, rfl⟩ := own_len0 howns
      obtain ⟨A2, c2, rfl⟩ := own_len0 hown3
      clear hP
      go_wp2_with fail
      go_ret
      exact ⟨rfl, hbel⟩
  · by_cases hn40 : n ≤ 40
    · have hm40 : ¬ m ≤ 40 := by omega
      clear h40
      go_enter Try.func6, Try.ntmps6
      go_wp2_with fail
      refine (alive_any _).mono ?_
      rintro e w1 ⟨rfl, hb1⟩
      go_wp2_with fail
      go_ret
      exact ⟨rfl, hb1⟩
    · clear h40
      go_enter Try.func6, Try.ntmps6
      go_wp2_with fail
      refine (alive_any _).mono ?_
      rintro e w1 ⟨rfl, hb1⟩
      go_wp2_with fail
      go_ret
      exact ⟨rfl, hb1⟩
end Go.Proofs.Ytfnhknbofllhcaa
