/- The walk of PermRight. -/
import Derived.Test.YtfnhknbofllhcaaPermX
import Derived.Test.YtfnhknbofllhcaaPermThen
namespace Go.Proofs.Ytfnhknbofllhcaa
open Go.RowKit
set_option linter.unusedSimpArgs false
set_option linter.unusedVariables false

theorem odd_any (A : Option Addr) (n c : Nat) (zs : List Int) (w : World) (hz : zs.length = n) (hn : n ≤ 9223372036854775807) (hr : Ints w w.heap.size A zs) :
    Calls Try.prog 26 #[.slice A n c] w fun e w' => e = .returned (.bool (decide (IsPerm zs) && decide (inv zs % 2 = 1))) ∧ Below w.heap.size w w' := by
  by_cases h : IsPerm zs
  · rw [decide_eq_true h, Bool.true_and]
    exact odd_yes A n c zs w hz h hr
  · rw [decide_eq_false h, Bool.false_and]
    exact (odd_no A n c zs w hz hn h hr).mono fun e w' ⟨he, hw⟩ => ⟨he, by subst hw; exact Below.refl _ _⟩

set_option maxHeartbeats 8000000 in
theorem permRight_walk (A : Option Addr) (n c : Nat) (ps : List Int) (q : Int) (w : World) (hp : ps.length = n) (hn : n ≤ maxLen) (hq0 : -9223372036854775808 ≤ q) (hqb : q ≤ 9223372036854775807) (ha : Ints w w.heap.size A ps) :
    Calls Try.prog 7 #[.slice A n c, .int .i64 q] w fun e w' => e = .returned (.bool true) ∧ Below w.heap.size w w' := by
  unfold maxLen at hn
  have Hp := Lib.hid hp
  clear hp
  by_cases h40 : n ≤ 40
  · by_cases hP : IsPerm ps
    · have HP := Lib.hid hP
      clear hP
      by_cases hql : q < 0
      · have HX : q < 0 ∨ 16 < q := .inl hql
        go_enter Try.func7, Try.ntmps7
        go_wp2_with fail
        refine (alive_any _).mono ?_
        rintro e w1 ⟨rfl, hb1⟩
        have ha1 := ha.on hb1
        go_wp2_with fail
        refine (refRight_any A n c ps _ Hp.out hn ha1).mono ?_
        rintro e w' ⟨rfl, rfl⟩
        rw [decide_eq_true HP.out]
        go_wp2_with fail
        refine (inverse_yes A n c ps _ Hp.out HP.out ha1).mono ?_
        rintro e w2 ⟨L, rfl, hownL, hinv, hb2⟩
        have HV := Lib.hid hinv
        clear hinv
        have ha2 := ha1.on hb2
        have hbel := hb1.trans (hb2.mono hb1.size)
        have hIL := OwnI.ints hownL
        clear hownL
        go_wp2_with fail
        refine (permSame_no q _ HX).mono ?_
        rintro e w3 ⟨rfl, rfl⟩
        go_wp2_with fail
        refine (right_any A n c ps _ Hp.out hn ha2).mono ?_
        rintro e w' ⟨rfl, rfl⟩
        rw [decide_eq_true HP.out]
        go_wp2_with fail
        refine (odd_any A n c ps _ Hp.out hn ha2).mono ?_
        rintro e w6 ⟨rfl, hb6⟩
        rw [decide_eq_true HP.out, Bool.true_and]
        have ha6 := ha2.on hb6
        have hIL6 := hIL.on hb6
        have hbel6 := hbel.trans (hb6.mono hbel.size)
        have hn16 : n ≤ 16 := by rw [← Hp.out]; exact HP.out.1
        clear ha2 hIL hbel hb6
        go_wp2_with fail
        refine (pairs_any A n c ps _ Hp.out (by omega) ha6).mono ?_
        rintro e w7 ⟨rfl, k7, rfl⟩
        have hpar : (((inv ps : Nat) : Int) % 2 == 1) = decide (inv ps % 2 = 1) := by
          rw [Bool.eq_iff_iff, beq_iff_eq, decide_eq_true_eq]; omega
        have hi0 : (0 : Int) ≤ ((inv ps : Nat) : Int) := by omega
        go_wp2_with fail
        go_loopw [10] (fun i wr => ∃ k : Nat, k ≤ n ∧ i = .int .i64 k ∧ wr = w6.drewN k7) (fun i _ => n - (intOf i).toNat)
        case atStart => exact ⟨0, Nat.zero_le _, rfl, rfl⟩
        case round =>
          obtain ⟨k, hk, rfl, rfl⟩ := hrel
          by_cases hlt : k < n
          · obtain ⟨ba, oa, rfl, hba, hca⟩ := ha6 (by rw [Hp.out]; omega)
            obtain ⟨bb, bo, hAA, hbb, hcb⟩ := hIL6 (by rw [HV.out.1, Hp.out]; omega)
            have hx := HP.out.get (k := k) (by rw [Hp.out]; exact hlt)
            rw [Hp.out] at hx
            have hck := hca k (by rw [Hp.out]; exact hlt)
            have hxv := HV.out.2 k (by rw [Hp.out]; exact hlt)
            generalize hxe : ps[k]?.getD 0 = x at *
            clear hxe
            obtain ⟨hx0', hx1'⟩ := hx
            have hcx := hcb x.toNat (by rw [HV.out.1, Hp.out]; omega)
            rw [hxv] at hcx
            injection hAA with hAA
            injection hAA with hA1 hA2
            rw [← hA1, ← hA2, Nat.zero_add] at hcx
            clear hca hcb hxv hA1 hA2
            go_wp2_with fail
            go_roundw
            case rel => exact ⟨k + 1, by omega, by go_num, by first | rfl | trivial⟩
            case measure => simp [intOf]; omega
          · have hnn : ((n : Int) == (n : Int)) = true := by simp
            go_wp2_with fail
            go_ret
            exact ⟨by simp, below_drewN hbel6 _⟩
      · by_cases hqh : 16 < q
        · have HX : q < 0 ∨ 16 < q := .inr hqh
          go_enter Try.func7, Try.ntmps7
          go_wp2_with fail
          refine (alive_any _).mono ?_
          rintro e w1 ⟨rfl, hb1⟩
          have ha1 := ha.on hb1
          go_wp2_with fail
          refine (refRight_any A n c ps _ Hp.out hn ha1).mono ?_
          rintro e w' ⟨rfl, rfl⟩
          rw [decide_eq_true HP.out]
          go_wp2_with fail
          refine (inverse_yes A n c ps _ Hp.out HP.out ha1).mono ?_
          rintro e w2 ⟨L, rfl, hownL, hinv, hb2⟩
          have HV := Lib.hid hinv
          clear hinv
          have ha2 := ha1.on hb2
          have hbel := hb1.trans (hb2.mono hb1.size)
          have hIL := OwnI.ints hownL
          clear hownL
          go_wp2_with fail
          refine (permSame_no q _ HX).mono ?_
          rintro e w3 ⟨rfl, rfl⟩
          go_wp2_with fail
          refine (right_any A n c ps _ Hp.out hn ha2).mono ?_
          rintro e w' ⟨rfl, rfl⟩
          rw [decide_eq_true HP.out]
          go_wp2_with fail
          refine (odd_any A n c ps _ Hp.out hn ha2).mono ?_
          rintro e w6 ⟨rfl, hb6⟩
          rw [decide_eq_true HP.out, Bool.true_and]
          have ha6 := ha2.on hb6
          have hIL6 := hIL.on hb6
          have hbel6 := hbel.trans (hb6.mono hbel.size)
          have hn16 : n ≤ 16 := by rw [← Hp.out]; exact HP.out.1
          clear ha2 hIL hbel hb6
          go_wp2_with fail
          refine (pairs_any A n c ps _ Hp.out (by omega) ha6).mono ?_
          rintro e w7 ⟨rfl, k7, rfl⟩
          have hpar : (((inv ps : Nat) : Int) % 2 == 1) = decide (inv ps % 2 = 1) := by
            rw [Bool.eq_iff_iff, beq_iff_eq, decide_eq_true_eq]; omega
          have hi0 : (0 : Int) ≤ ((inv ps : Nat) : Int) := by omega
          go_wp2_with fail
          go_loopw [10] (fun i wr => ∃ k : Nat, k ≤ n ∧ i = .int .i64 k ∧ wr = w6.drewN k7) (fun i _ => n - (intOf i).toNat)
          case atStart => exact ⟨0, Nat.zero_le _, rfl, rfl⟩
          case round =>
            obtain ⟨k, hk, rfl, rfl⟩ := hrel
            by_cases hlt : k < n
            · obtain ⟨ba, oa, rfl, hba, hca⟩ := ha6 (by rw [Hp.out]; omega)
              obtain ⟨bb, bo, hAA, hbb, hcb⟩ := hIL6 (by rw [HV.out.1, Hp.out]; omega)
              have hx := HP.out.get (k := k) (by rw [Hp.out]; exact hlt)
              rw [Hp.out] at hx
              have hck := hca k (by rw [Hp.out]; exact hlt)
              have hxv := HV.out.2 k (by rw [Hp.out]; exact hlt)
              generalize hxe : ps[k]?.getD 0 = x at *
              clear hxe
              obtain ⟨hx0', hx1'⟩ := hx
              have hcx := hcb x.toNat (by rw [HV.out.1, Hp.out]; omega)
              rw [hxv] at hcx
              injection hAA with hAA
              injection hAA with hA1 hA2
              rw [← hA1, ← hA2, Nat.zero_add] at hcx
              clear hca hcb hxv hA1 hA2
              go_wp2_with fail
              go_roundw
              case rel => exact ⟨k + 1, by omega, by go_num, by first | rfl | trivial⟩
              case measure => simp [intOf]; omega
            · have hnn : ((n : Int) == (n : Int)) = true := by simp
              go_wp2_with fail
              go_ret
              exact ⟨by simp, below_drewN hbel6 _⟩
        · have hx0 : 0 ≤ q := by omega
          have hx1 : q ≤ 16 := by omega
          go_enter Try.func7, Try.ntmps7
          go_wp2_with fail
          refine (alive_any _).mono ?_
          rintro e w1 ⟨rfl, hb1⟩
          have ha1 := ha.on hb1
          go_wp2_with fail
          refine (refRight_any A n c ps _ Hp.out hn ha1).mono ?_
          rintro e w' ⟨rfl, rfl⟩
          rw [decide_eq_true HP.out]
          go_wp2_with fail
          refine (inverse_yes A n c ps _ Hp.out HP.out ha1).mono ?_
          rintro e w2 ⟨L, rfl, hownL, hinv, hb2⟩
          have HV := Lib.hid hinv
          clear hinv
          have ha2 := ha1.on hb2
          have hbel := hb1.trans (hb2.mono hb1.size)
          have hIL := OwnI.ints hownL
          clear hownL
          go_wp2_with fail
          refine (permSame_any q _ hx0 hx1).mono ?_
          rintro e w3 ⟨rfl, hown3, hb3, _⟩
          have hI3 := OwnI.ints hown3
          have ha3 := ha2.on hb3
          have hILb := hIL.on hb3
          clear hIL
          have hbel3 := hbel.trans (hb3.mono hbel.size)
          clear hown3 hbel ha2
          go_wp2_with fail
          refine (self_any q _ (by omega)).mono ?_
          rintro e w4 ⟨v4, rfl, hown4, hb4⟩
          have hI34 := hI3.on hb4
          have ha4 := ha3.on hb4
          have hILc := hILb.on hb4
          clear hILb
          have hbel4 := hbel3.trans (hb4.mono hbel3.size)
          obtain ⟨A4, n4, c4, rfl, h4, _⟩ := OwnF.form hown4
          have hI4 := OwnI.ints hown4
          have H4 := Lib.hid h4
          have hn4 : n4 ≤ 16 := by rw [← h4, iota_length]; omega
          have hqn : Hid ((iota q.toNat).length = q.toNat) := Lib.hid (iota_length _)
          clear hI3 ha3 hbel3 hown4 h4
          go_wp2_with fail
          refine (same_any _ A4 q.toNat n4 _ c4 _ _ _ hqn.out H4.out (by omega) (by omega) hI34 hI4).mono ?_
          rintro e w5 ⟨rfl, k5, rfl⟩
          rw [decide_eq_true rfl]
          have ha2 := ha4.drewN' k5
          have hIL := hILc.drewN' k5
          have hbel := below_drewN hbel4 k5
          go_wp2_with fail
          refine (right_any A n c ps _ Hp.out hn ha2).mono ?_
          rintro e w' ⟨rfl, rfl⟩
          rw [decide_eq_true HP.out]
          go_wp2_with fail
          refine (odd_any A n c ps _ Hp.out hn ha2).mono ?_
          rintro e w6 ⟨rfl, hb6⟩
          rw [decide_eq_true HP.out, Bool.true_and]
          have ha6 := ha2.on hb6
          have hIL6 := hIL.on hb6
          have hbel6 := hbel.trans (hb6.mono hbel.size)
          have hn16 : n ≤ 16 := by rw [← Hp.out]; exact HP.out.1
          clear ha2 hIL hbel hb6
          go_wp2_with fail
          refine (pairs_any A n c ps _ Hp.out (by omega) ha6).mono ?_
          rintro e w7 ⟨rfl, k7, rfl⟩
          have hpar : (((inv ps : Nat) : Int) % 2 == 1) = decide (inv ps % 2 = 1) := by
            rw [Bool.eq_iff_iff, beq_iff_eq, decide_eq_true_eq]; omega
          have hi0 : (0 : Int) ≤ ((inv ps : Nat) : Int) := by omega
          go_wp2_with fail
          go_loopw [10] (fun i wr => ∃ k : Nat, k ≤ n ∧ i = .int .i64 k ∧ wr = w6.drewN k7) (fun i _ => n - (intOf i).toNat)
          case atStart => exact ⟨0, Nat.zero_le _, rfl, rfl⟩
          case round =>
            obtain ⟨k, hk, rfl, rfl⟩ := hrel
            by_cases hlt : k < n
            · obtain ⟨ba, oa, rfl, hba, hca⟩ := ha6 (by rw [Hp.out]; omega)
              obtain ⟨bb, bo, hAA, hbb, hcb⟩ := hIL6 (by rw [HV.out.1, Hp.out]; omega)
              have hx := HP.out.get (k := k) (by rw [Hp.out]; exact hlt)
              rw [Hp.out] at hx
              have hck := hca k (by rw [Hp.out]; exact hlt)
              have hxv := HV.out.2 k (by rw [Hp.out]; exact hlt)
              generalize hxe : ps[k]?.getD 0 = x at *
              clear hxe
              obtain ⟨hx0', hx1'⟩ := hx
              have hcx := hcb x.toNat (by rw [HV.out.1, Hp.out]; omega)
              rw [hxv] at hcx
              injection hAA with hAA
              injection hAA with hA1 hA2
              rw [← hA1, ← hA2, Nat.zero_add] at hcx
              clear hca hcb hxv hA1 hA2
              go_wp2_with fail
              go_roundw
              case rel => exact ⟨k + 1, by omega, by go_num, by first | rfl | trivial⟩
              case measure => simp [intOf]; omega
            · have hnn : ((n : Int) == (n : Int)) = true := by simp
              go_wp2_with fail
              go_ret
              exact ⟨by simp, below_drewN hbel6 _⟩
    · have HP := Lib.hid hP
      clear hP
      by_cases hql : q < 0
      · have HX : q < 0 ∨ 16 < q := .inl hql
        go_enter Try.func7, Try.ntmps7
        go_wp2_with fail
        refine (alive_any _).mono ?_
        rintro e w1 ⟨rfl, hb1⟩
        have ha1 := ha.on hb1
        go_wp2_with fail
        refine (refRight_any A n c ps _ Hp.out hn ha1).mono ?_
        rintro e w' ⟨rfl, rfl⟩
        rw [decide_eq_false HP.out]
        go_wp2_with fail
        refine (inverse_no A n c ps _ Hp.out hn ha1 HP.out).mono ?_
        rintro e w2 ⟨rfl, rfl⟩
        have ha2 := ha1
        have hbel := hb1
        go_wp2_with fail
        refine (permSame_no q _ HX).mono ?_
        rintro e w3 ⟨rfl, rfl⟩
        go_wp2_with fail
        refine (right_any A n c ps _ Hp.out hn ha2).mono ?_
        rintro e w' ⟨rfl, rfl⟩
        rw [decide_eq_false HP.out]
        go_wp2_with fail
        refine (odd_any A n c ps _ Hp.out hn ha2).mono ?_
        rintro e w6 ⟨rfl, hb6⟩
        rw [decide_eq_false HP.out]
        go_wp2_with fail
        go_ret
        exact ⟨by simp, hbel.trans (hb6.mono hbel.size)⟩
      · by_cases hqh : 16 < q
        · have HX : q < 0 ∨ 16 < q := .inr hqh
          go_enter Try.func7, Try.ntmps7
          go_wp2_with fail
          refine (alive_any _).mono ?_
          rintro e w1 ⟨rfl, hb1⟩
          have ha1 := ha.on hb1
          go_wp2_with fail
          refine (refRight_any A n c ps _ Hp.out hn ha1).mono ?_
          rintro e w' ⟨rfl, rfl⟩
          rw [decide_eq_false HP.out]
          go_wp2_with fail
          refine (inverse_no A n c ps _ Hp.out hn ha1 HP.out).mono ?_
          rintro e w2 ⟨rfl, rfl⟩
          have ha2 := ha1
          have hbel := hb1
          go_wp2_with fail
          refine (permSame_no q _ HX).mono ?_
          rintro e w3 ⟨rfl, rfl⟩
          go_wp2_with fail
          refine (right_any A n c ps _ Hp.out hn ha2).mono ?_
          rintro e w' ⟨rfl, rfl⟩
          rw [decide_eq_false HP.out]
          go_wp2_with fail
          refine (odd_any A n c ps _ Hp.out hn ha2).mono ?_
          rintro e w6 ⟨rfl, hb6⟩
          rw [decide_eq_false HP.out]
          go_wp2_with fail
          go_ret
          exact ⟨by simp, hbel.trans (hb6.mono hbel.size)⟩
        · have hx0 : 0 ≤ q := by omega
          have hx1 : q ≤ 16 := by omega
          go_enter Try.func7, Try.ntmps7
          go_wp2_with fail
          refine (alive_any _).mono ?_
          rintro e w1 ⟨rfl, hb1⟩
          have ha1 := ha.on hb1
          go_wp2_with fail
          refine (refRight_any A n c ps _ Hp.out hn ha1).mono ?_
          rintro e w' ⟨rfl, rfl⟩
          rw [decide_eq_false HP.out]
          go_wp2_with fail
          refine (inverse_no A n c ps _ Hp.out hn ha1 HP.out).mono ?_
          rintro e w2 ⟨rfl, rfl⟩
          have ha2 := ha1
          have hbel := hb1
          go_wp2_with fail
          refine (permSame_any q _ hx0 hx1).mono ?_
          rintro e w3 ⟨rfl, hown3, hb3, _⟩
          have hI3 := OwnI.ints hown3
          have ha3 := ha2.on hb3
          have hbel3 := hbel.trans (hb3.mono hbel.size)
          clear hown3 hbel ha2
          go_wp2_with fail
          refine (self_any q _ (by omega)).mono ?_
          rintro e w4 ⟨v4, rfl, hown4, hb4⟩
          have hI34 := hI3.on hb4
          have ha4 := ha3.on hb4
          have hbel4 := hbel3.trans (hb4.mono hbel3.size)
          obtain ⟨A4, n4, c4, rfl, h4, _⟩ := OwnF.form hown4
          have hI4 := OwnI.ints hown4
          have H4 := Lib.hid h4
          have hn4 : n4 ≤ 16 := by rw [← h4, iota_length]; omega
          have hqn : Hid ((iota q.toNat).length = q.toNat) := Lib.hid (iota_length _)
          clear hI3 ha3 hbel3 hown4 h4
          go_wp2_with fail
          refine (same_any _ A4 q.toNat n4 _ c4 _ _ _ hqn.out H4.out (by omega) (by omega) hI34 hI4).mono ?_
          rintro e w5 ⟨rfl, k5, rfl⟩
          rw [decide_eq_true rfl]
          have ha2 := ha4.drewN' k5
          have hbel := below_drewN hbel4 k5
          go_wp2_with fail
          refine (right_any A n c ps _ Hp.out hn ha2).mono ?_
          rintro e w' ⟨rfl, rfl⟩
          rw [decide_eq_false HP.out]
          go_wp2_with fail
          refine (odd_any A n c ps _ Hp.out hn ha2).mono ?_
          rintro e w6 ⟨rfl, hb6⟩
          rw [decide_eq_false HP.out]
          go_wp2_with fail
          go_ret
          exact ⟨by simp, hbel.trans (hb6.mono hbel.size)⟩
  · go_enter Try.func7, Try.ntmps7
    go_wp2_with fail
    refine (alive_any _).mono ?_
    rintro e w1 ⟨rfl, hb1⟩
    go_wp2_with fail
    go_ret
    exact ⟨rfl, hb1⟩
end Go.Proofs.Ytfnhknbofllhcaa
