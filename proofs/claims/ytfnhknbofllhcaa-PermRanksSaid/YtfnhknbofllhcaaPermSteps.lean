/- The statement PermSteps is proved: for all lists p and q the law answers true and leaves them as they were. No condition. -/
import Derived.Test.YtfnhknbofllhcaaPermU
import Derived.Test.YtfnhknbofllhcaaPermOf
namespace Go.Proofs.Ytfnhknbofllhcaa
open Go.RowKit
set_option linter.unusedSimpArgs false
set_option linter.unusedVariables false

set_option maxHeartbeats 1000000 in
theorem alive_any (w : World) : Calls Try.prog 9 #[] w fun e w' => e = .returned (.bool true) ∧ Below w.heap.size w w' := by
  have e1 : unrank 3 (iota 3) 1 = [0, 2, 1] := by decide
  have e2 : stepsM [2, 0, 1] 0 [0, 1, 2] = [1, 0] := by decide
  have E1 := Lib.hid e1
  have E2 := Lib.hid e2
  clear e1 e2
  go_enter Try.func9, Try.ntmps9
  go_wp2_with fail
  refine (of_any 3 1 _ (by omega) (by omega) (by omega) (by decide)).mono ?_
  rintro e w1 ⟨v, rfl, hown1, hb1⟩
  have hown1' : OwnI w1 w.heap.size v [0, 2, 1] := by rw [← E1.out]; exact hown1
  clear hown1
  go_wp2_with fail
  refine (steps_yes _ _ 3 3 3 [0, 1, 2] [2, 0, 1] _ rfl rfl (by decide) (by decide) (RowF.alloc' (RowF.lit w1 3 [0, 1, 2]) _) (RowF.lit' (w1.alloc (.cells #[.int .i64 0, .int .i64 1, .int .i64 2] 3)) 3 [2, 0, 1] (by simp))).mono ?_
  rintro e w2 ⟨v2, rfl, hown2, hb2⟩
  rw [E2.out] at hown2
  have hb12 : Below w1.heap.size w1 w2 := (((Below.refl _ _).alloc (Nat.le_refl _) _).alloc (by simp) _).trans (hb2.mono (by simp; omega))
  have hown3 := own_below hown1' hb12
  obtain ⟨A1, n1, c1, rfl, h1, _⟩ := OwnF.form hown3
  obtain ⟨A2, n2, c2, rfl, h2, _⟩ := hown2.form
  simp only [List.length_cons, List.length_nil] at h1 h2
  subst h1
  subst h2
  have hb02 : Below w.heap.size w w2 := hb1.trans (hb12.mono hb1.size)
  clear hown1' hb12 hb1 hb2
  go_wp2_with fail
  refine (same_any A1 _ 3 3 c1 3 [0, 2, 1] [0, 2, 1] _ rfl rfl (by omega) (by omega) (RowF.alloc' (OwnI.ints hown3) _) (RowF.lit w2 3 [0, 2, 1])).mono ?_
  rintro e w3 ⟨rfl, k3, rfl⟩
  go_wp2_with fail
  refine (same_any A2 _ 2 2 c2 2 [1, 0] [1, 0] _ rfl rfl (by omega) (by omega) (RowF.alloc' (RowF.drewN' (RowF.alloc' (OwnI.ints hown2) _) k3) _) (RowF.lit' (H := w2.heap.size + 1) _ 3 [1, 0] (by simp))).mono ?_
  rintro e w4 ⟨rfl, k4, rfl⟩
  go_wp2_with fail
  go_ret
  refine ⟨rfl, ?_⟩
  exact below_drewN (((below_drewN (hb02.alloc hb02.size _) _).alloc (by have := hb02.size; simp; omega) _)) _

set_option maxHeartbeats 1000000 in
theorem permSteps_walk (A B : Option Addr) (n m c d : Nat) (ps qs : List Int) (w : World) (hp : ps.length = n) (hq : qs.length = m) (hn : n ≤ maxLen) (hm : m ≤ maxLen) (ha : Ints w w.heap.size A ps) (hb : Ints w w.heap.size B qs) :
    Calls Try.prog 3 #[.slice A n c, .slice B m d] w fun e w' => e = .returned (.bool true) ∧ Below w.heap.size w w' := by
  unfold maxLen at hn hm
  by_cases h40 : n ≤ 40 ∧ m ≤ 40
  · obtain ⟨hn40, hm40⟩ := h40
    by_cases hyes : IsPerm ps ∧ IsPerm qs ∧ n = m
    · obtain ⟨hP, hQ, rfl⟩ := hyes
      have hn16 : n ≤ 16 := by rw [← hp]; exact hP.1
      have HP := Lib.hid (decide_eq_true hP)
      have HQ := Lib.hid (decide_eq_true hQ)
      have Hp := Lib.hid hp
      have Hq := Lib.hid hq
      have hP' := Lib.hid hP
      have hQ' := Lib.hid hQ
      have hnn : ((n : Int) != (n : Int)) = false := by rw [bne_eq_false_iff_eq]
      clear hp hq hP hQ
      go_enter Try.func3, Try.ntmps3
      go_wp2_with fail
      refine (alive_any _).mono ?_
      rintro e w1 ⟨rfl, hb1⟩
      have ha1 := ha.on hb1
      have hb1' := hb.on hb1
      go_wp2_with fail
      refine (steps_yes A B n c d ps qs _ Hp.out Hq.out hP'.out hQ'.out ha1 hb1').mono ?_
      rintro e w2 ⟨v, rfl, hown, hb2⟩
      have ha2 := ha1.on hb2
      have hb2' := hb1'.on hb2
      go_wp2_with fail
      refine (refRight_any A n c ps _ Hp.out (by omega) ha2).mono ?_
      rintro e w' ⟨rfl, rfl⟩
      rw [HP.out]
      go_wp2_with fail
      refine (refRight_any B n d qs _ Hq.out (by omega) hb2').mono ?_
      rintro e w' ⟨rfl, rfl⟩
      rw [HQ.out]
      go_wp2_with fail
      refine (refSteps_any A B n c d ps qs _ Hp.out Hq.out hn16 ha2 hb2').mono ?_
      rintro e w3 ⟨v3, rfl, hown3, hb3⟩
      have hown' := own_below hown hb3
      generalize stepsM qs 0 ps = l at *
      obtain ⟨A1, n1, c1, rfl, h1, _⟩ := OwnF.form hown'
      obtain ⟨A2, n2, c2, rfl, h2, _⟩ := hown3.form
      have H1 := Lib.hid h1
      have H2 := Lib.hid h2
      have hl := OwnF.len_le hown'
      rw [h1] at hl
      have hl2 := OwnF.len_le hown3
      rw [h2] at hl2
      clear h1 h2
      go_wp2_with fail
      refine (same_any A1 A2 n1 n2 c1 c2 l l _ H1.out H2.out (by omega) (by omega) (OwnI.ints hown') (OwnI.ints hown3)).mono ?_
      rintro e w4 ⟨rfl, k4, rfl⟩
      go_wp2_with fail
      go_ret
      exact ⟨by simp, below_drewN (hb1.trans ((hb2.mono hb1.size).trans (hb3.mono (Nat.le_trans hb1.size hb2.size)))) _⟩
    · have Hp := Lib.hid hp
      have Hq := Lib.hid hq
      clear hp hq
      by_cases hP : IsPerm ps
      · have HP := Lib.hid (decide_eq_true hP)
        by_cases hQ : IsPerm qs
        · have HQ := Lib.hid (decide_eq_true hQ)
          have hnm : ((n : Int) != (m : Int)) = true := by
            rw [bne_iff_ne]
            intro h
            exact hyes ⟨hP, hQ, by omega⟩
          have Hno := Lib.hid hyes
          clear hP hQ hyes
          go_enter Try.func3, Try.ntmps3
          go_wp2_with fail
          refine (alive_any _).mono ?_
          rintro e w1 ⟨rfl, hb1⟩
          have ha1 := ha.on hb1
          have hb1' := hb.on hb1
          go_wp2_with fail
          refine (steps_no A B n m c d ps qs _ Hp.out Hq.out hn hm ha1 hb1' Hno.out).mono ?_
          rintro e w2 ⟨rfl, rfl⟩
          go_wp2_with fail
          refine (refRight_any A n c ps _ Hp.out hn ha1).mono ?_
          rintro e w' ⟨rfl, rfl⟩
          rw [HP.out]
          go_wp2_with fail
          refine (refRight_any B m d qs _ Hq.out hm hb1').mono ?_
          rintro e w' ⟨rfl, rfl⟩
          rw [HQ.out]
          go_wp2_with fail
          go_ret
          exact ⟨rfl, hb1⟩
        · have HQ := Lib.hid (decide_eq_false hQ)
          have Hno := Lib.hid hyes
          clear hP hQ hyes
          go_enter Try.func3, Try.ntmps3
          go_wp2_with fail
          refine (alive_any _).mono ?_
          rintro e w1 ⟨rfl, hb1⟩
          have ha1 := ha.on hb1
          have hb1' := hb.on hb1
          go_wp2_with fail
          refine (steps_no A B n m c d ps qs _ Hp.out Hq.out hn hm ha1 hb1' Hno.out).mono ?_
          rintro e w2 ⟨rfl, rfl⟩
          go_wp2_with fail
          refine (refRight_any A n c ps _ Hp.out hn ha1).mono ?_
          rintro e w' ⟨rfl, rfl⟩
          rw [HP.out]
          go_wp2_with fail
          refine (refRight_any B m d qs _ Hq.out hm hb1').mono ?_
          rintro e w' ⟨rfl, rfl⟩
          rw [HQ.out]
          go_wp2_with fail
          go_ret
          exact ⟨rfl, hb1⟩
      · have HP := Lib.hid (decide_eq_false hP)
        have Hno := Lib.hid hyes
        clear hP hyes
        go_enter Try.func3, Try.ntmps3
        go_wp2_with fail
        refine (alive_any _).mono ?_
        rintro e w1 ⟨rfl, hb1⟩
        have ha1 := ha.on hb1
        have hb1' := hb.on hb1
        go_wp2_with fail
        refine (steps_no A B n m c d ps qs _ Hp.out Hq.out hn hm ha1 hb1' Hno.out).mono ?_
        rintro e w2 ⟨rfl, rfl⟩
        go_wp2_with fail
        refine (refRight_any A n c ps _ Hp.out hn ha1).mono ?_
        rintro e w' ⟨rfl, rfl⟩
        rw [HP.out]
        go_wp2_with fail
        go_ret
        exact ⟨rfl, hb1⟩
  · by_cases hn40 : n ≤ 40
    · have hm40 : ¬ m ≤ 40 := by omega
      clear h40
      go_enter Try.func3, Try.ntmps3
      go_wp2_with fail
      refine (alive_any _).mono ?_
      rintro e w1 ⟨rfl, hb1⟩
      go_wp2_with fail
      go_ret
      exact ⟨rfl, hb1⟩
    · clear h40
      go_enter Try.func3, Try.ntmps3
      go_wp2_with fail
      refine (alive_any _).mono ?_
      rintro e w1 ⟨rfl, hb1⟩
      go_wp2_with fail
      go_ret
      exact ⟨rfl, hb1⟩
end Go.Proofs.Ytfnhknbofllhcaa
