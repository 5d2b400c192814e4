/- perm.Steps: the steps from one permutation to another one. -/
import Derived.Test.YtfnhknbofllhcaaPermS
namespace Go.Proofs.Ytfnhknbofllhcaa
open Go.RowKit
set_option linter.unusedSimpArgs false
set_option linter.unusedVariables false

/-- d steps down to place i -/
def downs (i : Nat) : Nat → List Int → List Int
  | 0, now => now
  | d + 1, now => downs i d (swapL now (i + d))
def downL (i : Nat) : Nat → List Int
  | 0 => []
  | d + 1 => ((i + d : Nat) : Int) :: downL i d
def stepsM : List Int → Nat → List Int → List Int
  | [], _, _ => []
  | x :: r, i, now => downL i (atL now x 0 - i).toNat ++ stepsM r (i + 1) (downs i (atL now x 0 - i).toNat now)
theorem downs_length (i : Nat) : ∀ d now, (downs i d now).length = now.length
  | 0, _ => rfl
  | d + 1, now => by unfold downs; rw [downs_length, swapL_length]
theorem downL_length (i : Nat) : ∀ d, (downL i d).length = d
  | 0 => rfl
  | d + 1 => by unfold downL; rw [List.length_cons, downL_length]
theorem atL_lt (zs : List Int) (x : Int) : ∀ s : Nat, atL zs x s < (s + zs.length : Nat) := by
  induction zs with
  | nil => intro s; unfold atL; omega
  | cons z r ih =>
    intro s
    unfold atL
    split
    · simp; omega
    · have := ih (s + 1); simp at this ⊢; omega
theorem atL_lo (zs : List Int) (x : Int) : ∀ s : Nat, atL zs x s = -1 ∨ (s : Int) ≤ atL zs x s := by
  induction zs with
  | nil => intro s; exact .inl rfl
  | cons z r ih =>
    intro s
    unfold atL
    split
    · right; omega
    · rcases ih (s + 1) with h | h
      · exact .inl h
      · right; omega
theorem drop_cons (q : List Int) (k : Nat) (h : k < q.length) : q.drop k = q[k]?.getD 0 :: q.drop (k + 1) := by
  rw [List.drop_eq_getElem_cons h, List.getElem?_eq_getElem h]; rfl

set_option maxHeartbeats 2000000 in
theorem steps_yes (A B : Option Addr) (n c d : Nat) (ps qs : List Int) (w : World) (hp : ps.length = n) (hq : qs.length = n) (hP : IsPerm ps) (hQ : IsPerm qs) (ha : Ints w w.heap.size A ps) (hb : Ints w w.heap.size B qs) :
    Calls Try.prog 10 #[.slice A n c, .slice B n d] w fun e w' => ∃ v, e = .returned (.tuple #[v, .bool true]) ∧ OwnI w' w.heap.size v (stepsM qs 0 ps) ∧ Below w.heap.size w w' := by
  obtain ⟨i0, hi, hz0, hz1, hz2⟩ := info_parts info_int
  have hn16 : n ≤ 16 := by rw [← hp]; exact hP.1
  have Hp := Lib.hid hp
  have Hq := Lib.hid hq
  have HP := Lib.hid (decide_eq_true hP)
  have HQ := Lib.hid (decide_eq_true hQ)
  clear hp hq hP hQ
  go_enter Try.func10, Try.ntmps10
  go_wp2_with fail
  refine (right_any A n c ps _ Hp.out (by omega) ha).mono ?_
  rintro e w' ⟨rfl, rfl⟩
  rw [HP.out]
  go_wp2_with fail
  refine (right_any B n d qs _ Hq.out (by omega) hb).mono ?_
  rintro e w' ⟨rfl, rfl⟩
  rw [HQ.out]
  have hnn : ((n : Int) != (n : Int)) = false := by rw [bne_eq_false_iff_eq]
  go_wp2_with fail
  refine (clone_any A n c ps _ Hp.out (by omega) ha).mono ?_
  rintro e w1 ⟨v, rfl, hown, hb1⟩
  obtain ⟨A', n', c', g, hv, hl, hc', hA'⟩ := hown.form'
  have hn' : n' = n := by rw [← hl, Hp.out]
  subst hn'
  clear hl
  have hs1 := hb1.size
  rw [hv] at hown ⊢
  clear hv
  have HA' := Lib.hid hA'
  have hbq := hb.below' hb1
  clear hA' ha hb
  go_wp2_with fail
  go_loopw [7, 8, 9, 10, 30] (fun l _ _ _ ix wr => ∃ (k : Nat) (now pre : List Int), k ≤ n' ∧ ix = .int .i64 k ∧ OwnI wr w.heap.size (.slice A' n' c') now ∧ OwnI wr w1.heap.size l pre ∧ pre.length ≤ 16 * k ∧
      pre ++ stepsM (qs.drop k) k now = stepsM qs 0 ps ∧ Below w.heap.size w wr ∧ w1.heap.size ≤ wr.heap.size) (fun _ _ _ _ ix _ => n' - (intOf ix).toNat)
  case atStart => exact ⟨0, ps, [], Nat.zero_le _, rfl, hown, OwnF.nil_, by simp, rfl, hb1, Nat.le_refl _⟩
  case round =>
    obtain ⟨k, now, pre, hk, rfl, hownN, hownL, hpl, hst, hbw, hsz⟩ := hrel
    have HS := Lib.hid hst
    clear hst
    by_cases hlt : k < n'
    · obtain ⟨rfl, hg1, hg2⟩ := HA'.out (by omega)
      obtain ⟨bb, bo, rfl, hbb, hcb⟩ := hbq (by rw [Hq.out]; omega)
      have hck := (hbw.cell (p := ⟨bb, bo + k, none⟩) hbb)
      have hck0 := hcb k (by rw [Hq.out]; omega)
      have hlenN : now.length = n' := by
        obtain ⟨_, _, _, hv, h1, _⟩ := OwnF.form hownN
        injection hv with _ h2 _
        rw [h1, h2]
      have HLN := Lib.hid hlenN
      clear hlenN
      have hckk : wr.cell? ⟨bb, bo + k, none⟩ = some (.int .i64 (qs[k]?.getD 0)) := by
        rw [hck, ← hb1.cell (p := ⟨bb, bo + k, none⟩) hbb]; exact hck0
      clear hck hck0 hcb
      have HD := Lib.hid (drop_cons qs k (by rw [Hq.out]; exact hlt))
      generalize hx : qs[k]?.getD 0 = x at *
      clear hx
      go_wp2_with fail
      refine (index_any _ n' c' now x _ HLN.out (by omega) (OwnI.ints hownN)).mono ?_
      rintro e wr' ⟨rfl, rfl⟩
      have hat1 := atL_lt now x 0
      rw [HLN.out, Nat.zero_add] at hat1
      have hat0 := atL_lo now x 0
      have hdd : (atL now x 0 - k).toNat ≤ n' := by omega
      have HT : Hid (pre ++ (downL k (atL now x 0 - k).toNat ++ stepsM (qs.drop (k + 1)) (k + 1) (downs k (atL now x 0 - k).toNat now)) = stepsM qs 0 ps) := by
        have := HS.out
        rw [HD.out] at this
        exact this
      generalize ha0 : atL now x 0 = at0 at *
      clear ha0
      have HX := Lib.hid (show ∀ (dd : Nat) , True from fun _ => trivial)
      go_wp2_with fail
      go_loopw [7, 10] (fun l kk wr => ∃ (dd : Nat) (q : Int) (cur pre2 : List Int), kk = .int .i64 q ∧ (q = (k : Int) + dd - 1 ∨ (dd = 0 ∧ q < k ∧ -2 ≤ q)) ∧ (k + dd < n' ∨ dd = 0) ∧ OwnI wr w.heap.size (.slice (some ⟨g, 0, none⟩) n' c') cur ∧ OwnI wr w1.heap.size l pre2 ∧ pre2.length + dd ≤ 16 * (k + 1) ∧
          pre2 ++ (downL k dd ++ stepsM (qs.drop (k + 1)) (k + 1) (downs k dd cur)) = stepsM qs 0 ps ∧ Below w.heap.size w wr ∧ w1.heap.size ≤ wr.heap.size) (fun _ kk _ => (intOf kk - k + 1).toNat)
      case atStart => exact ⟨(at0 - k).toNat, at0 - 1, now, pre, rfl, by omega, by omega, hownN, hownL, by omega, HT.out, hbw, hsz⟩
      case round =>
        obtain ⟨dd, q, cur, pre2, rfl, hq, hkd, hownC, hownL2, hpl2, hst2, hbw2, hsz2⟩ := hrel
        have HS2 := Lib.hid hst2
        clear hst2 hownN hownL HS HT
        rcases Nat.eq_zero_or_pos dd with h0 | h0
        · have hq1 : q < k := by omega
          have HDD := Lib.hid h0
          clear hq h0
          go_wp2_with fail
          go_roundw
          case rel => exact ⟨k + 1, cur, pre2, by omega, by go_num, hownC, hownL2, by omega, by have := HS2.out; rw [HDD.out] at this; exact this, hbw2, hsz2⟩
          case measure => simp [intOf]; omega
        · obtain ⟨ee, rfl⟩ : ∃ ee, dd = ee + 1 := ⟨dd - 1, by omega⟩
          obtain ⟨m, hm⟩ : ∃ m : Nat, m = k + ee := ⟨_, rfl⟩
          obtain rfl : q = (m : Int) := by omega
          have hm1 : m + 1 < n' := by omega
          have hkm : (k : Int) ≤ (m : Int) := by omega
          have HM := Lib.hid hm
          obtain ⟨c1, c2, f1, f2, hsw⟩ := OwnI.swap hownC m hm1
          have hL2 := (hownL2.set_below (a := ⟨g, m, none⟩) (by show g < _; omega) (.int .i64 (cur[m + 1]?.getD 0))).set_below (a := ⟨g, m + 1, none⟩) (by show g < _; omega) (.int .i64 (cur[m]?.getD 0))
          have hB2 := (hbw2.setCell (p := ⟨g, m, none⟩) hg1 (.int .i64 (cur[m + 1]?.getD 0))).setCell (p := ⟨g, m + 1, none⟩) hg1 (.int .i64 (cur[m]?.getD 0))
          have hwz : w1.heap.size ≤ ((wr.setCell ⟨g, m, none⟩ (.int .i64 (cur[m + 1]?.getD 0))).setCell ⟨g, m + 1, none⟩ (.int .i64 (cur[m]?.getD 0))).heap.size := by simpa [World.setCell] using hsz2
          have HSW := Lib.hid hsw
          clear hsw hq hm hkd
          go_wp2_with fail
          go_region
          go_wp2_with (at_builtin; go_loud (refine wp_app1 (f := Value.int .i64) Try.underlying22 hi hz0 hz1 hz2 rfl (by omega) _ rfl _ _ rfl w1.heap.size _ pre2 (m : Int) 1 rfl hL2.drew hwz (by omega) rfl rfl (by first | rfl | simp [World.setCell]) ?_); intro v3 w3 hown3 hb3 hs3 hg3 hv3)
          have hN3 : OwnI w3 w.heap.size (.slice (some ⟨g, 0, none⟩) n' c') (swapL cur m) := OwnF.belowB (w' := w3) (OwnF.drew HSW.out) hb3 (by intro t ht; simp [Value.ownBlock] at ht; omega)
          have hb4 := (Below.drew hB2).trans (hb3.mono (by omega))
          have hz4 : w1.heap.size ≤ w3.heap.size := by have := hb3.size; exact Nat.le_trans hwz this
          go_roundw
          case rel => exact ⟨ee, (m : Int) - 1, swapL cur m, pre2 ++ [(m : Int)], by go_num, by have := HM.out; omega, by have := HM.out; omega, hN3, hown3, by rw [List.length_append]; simp; omega, by
            have h1 := HS2.out
            rw [← h1, List.append_assoc, HM.out]; rfl, hb4, hz4⟩
          case measure => simp [intOf]; omega
    · have hkn : k = n' := by omega
      have HK : Hid (pre = stepsM qs 0 ps) := by
        have := HS.out
        rw [List.drop_of_length_le (by rw [Hq.out]; omega)] at this
        simp only [stepsM, List.append_nil] at this
        exact Lib.hid this
      clear hkn
      go_wp2_with fail
      go_ret2
      exact ⟨_, rfl, by rw [← HK.out]; exact hownL.mono hs1, hbw⟩

theorem steps_no (A B : Option Addr) (n m c d : Nat) (ps qs : List Int) (w : World) (hp : ps.length = n) (hq : qs.length = m) (hn : n ≤ 9223372036854775807) (hm : m ≤ 9223372036854775807) (ha : Ints w w.heap.size A ps) (hb : Ints w w.heap.size B qs) (hno : ¬ (IsPerm ps ∧ IsPerm qs ∧ n = m)) :
    Calls Try.prog 10 #[.slice A n c, .slice B m d] w fun e w' => e = .returned (.tuple #[.slice none 0 0, .bool false]) ∧ w = w' := by
  have Hp := Lib.hid hp
  have Hq := Lib.hid hq
  clear hp hq
  by_cases hP : IsPerm ps
  · have HP := Lib.hid (decide_eq_true hP)
    by_cases hQ : IsPerm qs
    · have HQ := Lib.hid (decide_eq_true hQ)
      have hnm : ((n : Int) != (m : Int)) = true := by
        rw [bne_iff_ne]
        intro h
        exact hno ⟨hP, hQ, by omega⟩
      clear hP hQ hno
      go_enter Try.func10, Try.ntmps10
      go_wp2_with fail
      refine (right_any A n c ps _ Hp.out (by omega) ha).mono ?_
      rintro e w' ⟨rfl, rfl⟩
      rw [HP.out]
      go_wp2_with fail
      refine (right_any B m d qs _ Hq.out (by omega) hb).mono ?_
      rintro e w' ⟨rfl, rfl⟩
      rw [HQ.out]
      go_wp2_with fail
      go_ret2
      exact ⟨rfl, rfl⟩
    · have HQ := Lib.hid (decide_eq_false hQ)
      clear hP hQ hno
      go_enter Try.func10, Try.ntmps10
      go_wp2_with fail
      refine (right_any A n c ps _ Hp.out (by omega) ha).mono ?_
      rintro e w' ⟨rfl, rfl⟩
      rw [HP.out]
      go_wp2_with fail
      refine (right_any B m d qs _ Hq.out (by omega) hb).mono ?_
      rintro e w' ⟨rfl, rfl⟩
      rw [HQ.out]
      go_wp2_with fail
      go_ret2
      exact ⟨rfl, rfl⟩
  · have HP := Lib.hid (decide_eq_false hP)
    clear hP hno
    go_enter Try.func10, Try.ntmps10
    go_wp2_with fail
    refine (right_any A n c ps _ Hp.out (by omega) ha).mono ?_
    rintro e w' ⟨rfl, rfl⟩
    rw [HP.out]
    go_wp2_with fail
    go_ret2
    exact ⟨rfl, rfl⟩
end Go.Proofs.Ytfnhknbofllhcaa
