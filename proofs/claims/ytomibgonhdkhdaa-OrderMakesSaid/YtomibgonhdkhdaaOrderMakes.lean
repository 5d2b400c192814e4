/- The walk of OrderMakes. -/
import Derived.Test.YtomibgonhdkhdaaOrderGoes
namespace Go.Proofs.Ytomibgonhdkhdaa
open Go.RowKit
set_option linter.unusedSimpArgs false
set_option linter.unusedVariables false

theorem level_at {ps ls : List Int} (h : Fits ps ls) (v : Int) : atI ls v = atL ps v 0 := by
  unfold atI
  by_cases hv : 0 ≤ v ∧ v < ls.length
  · rw [if_pos hv]
    have hg := h.ls_get (v := v.toNat) (by omega)
    have := atL_hit ps v (ls[v.toNat]?.getD 0).toNat 0 (by omega) (by rw [hg.2.2]; omega) (fun j hj e => by
      have e2 : ps[j]?.getD 0 = ps[(ls[v.toNat]?.getD 0).toNat]?.getD 0 := by rw [hg.2.2, e]; omega
      have := h.perm.inj (by omega) (by omega) e2
      omega)
    rw [this, Nat.zero_add]; omega
  · rw [if_neg hv, atL_miss ps v 0 (fun j hj e => hv (by
      have := h.perm.get hj
      rw [e] at this
      rw [h.len]
      exact this))]

set_option maxRecDepth 100000 in
set_option maxHeartbeats 8000000 in
theorem orderMakes_no (A : Option Addr) (n c : Nat) (ps : List Int) (q l v : Int) (w : World) (hp : ps.length = n) (hn : n ≤ 9223372036854775807) (hn40 : n ≤ 40) (ha : Ints w w.heap.size A ps) (hP : ¬ IsPerm ps) :
    Calls Try.prog 4 #[.int .i64 q, .slice A n c, .int .i64 l, .int .i64 v] w fun e w' => e = .returned (.bool true) ∧ Below w.heap.size w w' := by
  have Hp := Lib.hid hp
  have HP := Lib.hid hP
  clear hp hP
  by_cases hql : q < 0
  · have HQ : q < 0 ∨ 16 < q := .inl hql
    go_enter Try.func4, Try.ntmps4
    go_wp2_with fail
    refine (aliveO_any _).mono ?_
    rintro e w1 ⟨rfl, hb1⟩
    have ha1 := ha.on hb1
    go_wp2_with fail
    refine (orderNew_no q _ HQ).mono ?_
    rintro e w2 ⟨rfl, rfl⟩
    have ha2 := ha1
    have hbel := hb1
    go_wp2_with fail
    refine (orderOf_no A n c ps _ Hp.out hn HP.out ha2).mono ?_
    rintro e w6 ⟨rfl, rfl⟩
    go_wp2_with fail
    refine (refRight_any A n c ps _ Hp.out hn ha2).mono ?_
    rintro e w' ⟨rfl, rfl⟩
    rw [decide_eq_false HP.out]
    go_wp2_with fail
    go_ret
    exact ⟨rfl, hbel⟩
  · by_cases hqh : 16 < q
    · have HQ : q < 0 ∨ 16 < q := .inr hqh
      go_enter Try.func4, Try.ntmps4
      go_wp2_with fail
      refine (aliveO_any _).mono ?_
      rintro e w1 ⟨rfl, hb1⟩
      have ha1 := ha.on hb1
      go_wp2_with fail
      refine (orderNew_no q _ HQ).mono ?_
      rintro e w2 ⟨rfl, rfl⟩
      have ha2 := ha1
      have hbel := hb1
      go_wp2_with fail
      refine (orderOf_no A n c ps _ Hp.out hn HP.out ha2).mono ?_
      rintro e w6 ⟨rfl, rfl⟩
      go_wp2_with fail
      refine (refRight_any A n c ps _ Hp.out hn ha2).mono ?_
      rintro e w' ⟨rfl, rfl⟩
      rw [decide_eq_false HP.out]
      go_wp2_with fail
      go_ret
      exact ⟨rfl, hbel⟩
    · have hq0 : 0 ≤ q := by omega
      have hq1 : q ≤ 16 := by omega
      go_enter Try.func4, Try.ntmps4
      go_wp2_with fail
      refine (aliveO_any _).mono ?_
      rintro e w1 ⟨rfl, hb1⟩
      have ha1 := ha.on hb1
      go_wp2_with fail
      refine (orderNew_yes q _ hq0 hq1).mono ?_
      rintro e w2 ⟨g2, F2, ls2, rfl, hO2, hI2, hF2, hb2⟩
      have HO2 := Lib.hid hO2
      have ha2' := ha1.on hb2
      have hbel2 := hb1.trans (hb2.mono hb1.size)
      clear hO2 hI2 hF2 hb2 ha1 hb1
      go_wp2_with fail
      refine (orderPerm_any F2 g2 (iota q.toNat) ls2 _ (by rw [iota_length]; omega) HO2.out).mono ?_
      rintro e w3 ⟨v3, rfl, hown3, hb3⟩
      obtain ⟨A3, n3, c3, rfl, h3, _⟩ := OwnF.form hown3
      obtain rfl : q.toNat = n3 := by rw [← h3, iota_length]
      have H3 := Lib.hid h3
      have hI3 := OwnI.ints hown3
      have ha3 := ha2'.on hb3
      have hbel3 := hbel2.trans (hb3.mono hbel2.size)
      clear hown3 h3 ha2' hbel2
      go_wp2_with fail
      refine (self_any q _ (by omega)).mono ?_
      rintro e w4 ⟨v4, rfl, hown4, hb4⟩
      obtain ⟨A4, n4, c4, rfl, h4, _⟩ := OwnF.form hown4
      obtain rfl : q.toNat = n4 := by rw [← h4, iota_length]
      have H4 := Lib.hid h4
      have hI4 := OwnI.ints hown4
      have ha4 := ha3.on hb4
      have hI34 := hI3.on hb4
      have hbel4 := hbel3.trans (hb4.mono hbel3.size)
      clear hown4 h4 ha3 hbel3 hI3 hb4 hb3
      go_wp2_with fail
      refine (same_any A3 A4 q.toNat q.toNat c3 c4 _ _ _ H3.out H4.out (by omega) (by omega) hI34 hI4).mono ?_
      rintro e w5 ⟨rfl, k5, rfl⟩
      rw [decide_eq_true rfl]
      have ha2 := ha4.drewN' k5
      have hbel := below_drewN hbel4 k5
      go_wp2_with fail
      refine (orderOf_no A n c ps _ Hp.out hn HP.out ha2).mono ?_
      rintro e w6 ⟨rfl, rfl⟩
      go_wp2_with fail
      refine (refRight_any A n c ps _ Hp.out hn ha2).mono ?_
      rintro e w' ⟨rfl, rfl⟩
      rw [decide_eq_false HP.out]
      go_wp2_with fail
      go_ret
      exact ⟨rfl, hbel⟩

set_option maxRecDepth 100000 in
set_option maxHeartbeats 8000000 in
theorem orderMakes_yes (A : Option Addr) (n c : Nat) (ps : List Int) (q l v : Int) (w : World) (hp : ps.length = n) (hn : n ≤ 9223372036854775807) (hn40 : n ≤ 40) (ha : Ints w w.heap.size A ps) (hP : IsPerm ps) :
    Calls Try.prog 4 #[.int .i64 q, .slice A n c, .int .i64 l, .int .i64 v] w fun e w' => e = .returned (.bool true) ∧ Below w.heap.size w w' := by
  have Hp := Lib.hid hp
  have HP := Lib.hid hP
  clear hp hP
  by_cases hql : q < 0
  · have HQ : q < 0 ∨ 16 < q := .inl hql
    go_enter Try.func4, Try.ntmps4
    go_wp2_with fail
    refine (aliveO_any _).mono ?_
    rintro e w1 ⟨rfl, hb1⟩
    have ha1 := ha.on hb1
    go_wp2_with fail
    refine (orderNew_no q _ HQ).mono ?_
    rintro e w2 ⟨rfl, rfl⟩
    have ha2 := ha1
    have hbel := hb1
    by_cases hl : 0 ≤ l
    · by_cases hl2 : l < n
      · go_wp2_with fail
        refine (orderOf_yes A n c ps _ Hp.out HP.out ha2).mono ?_
        rintro e w6 ⟨g, F, ls, rfl, hO, hI, hF, hb6⟩
        have HFt : Hid (Fits ps ls) := Lib.hid ⟨HP.out, hI⟩
        have HO := Lib.hid hO
        have ha6 := ha2.on hb6
        have hbel6 := hbel.trans (hb6.mono hbel.size)
        clear hO hI hF hb6 ha2 hbel
        go_wp2_with fail
        refine (refRight_any A n c ps _ Hp.out hn ha6).mono ?_
        rintro e w' ⟨rfl, rfl⟩
        rw [decide_eq_true HP.out]
        go_wp2_with fail
        refine (at_any A n c ps v _ Hp.out hn ha6).mono ?_
        rintro e w' ⟨rfl, rfl⟩
        rw [← level_at HFt.out v]
        generalize hlv : atI ls v = lv at *
        have HLV := Lib.hid hlv
        clear hlv
        have hat : Hid (atI ps l = ps[l.toNat]?.getD 0) := Lib.hid (by unfold atI; rw [if_pos ⟨hl, by rw [Hp.out]; exact hl2⟩])
        obtain ⟨b6, off6, rfl, hbb, hcc⟩ := ha6 (by rw [Hp.out]; omega)
        have hck := hcc l.toNat (by rw [Hp.out]; omega)
        clear hcc
        generalize ps[l.toNat]?.getD 0 = pl at *
        go_wp2_with fail
        refine (orderVars_any F g ps ls _ HO.out).mono ?_
        rintro e w' ⟨rfl, rfl⟩
        rw [Hp.out]
        go_wp2_with fail
        refine (orderVar_any F g ps ls l _ HO.out).mono ?_
        rintro e w' ⟨rfl, rfl⟩
        rw [hat.out]
        go_wp2_with fail
        refine (orderLevel_any F g ps ls v _ HO.out).mono ?_
        rintro e w' ⟨rfl, rfl⟩
        rw [HLV.out]
        go_wp2_with fail
        refine (orderPerm_any F g ps ls _ (by rw [Hp.out]; omega) HO.out).mono ?_
        rintro e w7 ⟨v7, rfl, hown7, hb7⟩
        obtain ⟨A7, n7, c7, rfl, h7, _⟩ := OwnF.form hown7
        obtain rfl : n = n7 := by rw [← h7, Hp.out]
        have hI7 := OwnI.ints hown7
        have ha7 := ha6.on hb7
        have hbel7 := hbel6.trans (hb7.mono hbel6.size)
        clear hown7 h7
        go_wp2_with fail
        refine (same_any A7 _ n n c7 c ps ps _ Hp.out Hp.out (by omega) (by omega) hI7 ha7).mono ?_
        rintro e w8 ⟨rfl, k8, rfl⟩
        rw [decide_eq_true rfl]
        go_wp2_with fail
        go_ret
        exact ⟨by simp, below_drewN hbel7 _⟩
      · go_wp2_with fail
        refine (orderOf_yes A n c ps _ Hp.out HP.out ha2).mono ?_
        rintro e w6 ⟨g, F, ls, rfl, hO, hI, hF, hb6⟩
        have HFt : Hid (Fits ps ls) := Lib.hid ⟨HP.out, hI⟩
        have HO := Lib.hid hO
        have ha6 := ha2.on hb6
        have hbel6 := hbel.trans (hb6.mono hbel.size)
        clear hO hI hF hb6 ha2 hbel
        go_wp2_with fail
        refine (refRight_any A n c ps _ Hp.out hn ha6).mono ?_
        rintro e w' ⟨rfl, rfl⟩
        rw [decide_eq_true HP.out]
        go_wp2_with fail
        refine (at_any A n c ps v _ Hp.out hn ha6).mono ?_
        rintro e w' ⟨rfl, rfl⟩
        rw [← level_at HFt.out v]
        generalize hlv : atI ls v = lv at *
        have HLV := Lib.hid hlv
        clear hlv
        have hat : Hid (atI ps l = -1) := Lib.hid (by unfold atI; rw [if_neg (by rw [Hp.out]; omega)])
        have hl0 : ¬ l < 0 := by omega
        go_wp2_with fail
        refine (orderVars_any F g ps ls _ HO.out).mono ?_
        rintro e w' ⟨rfl, rfl⟩
        rw [Hp.out]
        go_wp2_with fail
        refine (orderVar_any F g ps ls l _ HO.out).mono ?_
        rintro e w' ⟨rfl, rfl⟩
        rw [hat.out]
        go_wp2_with fail
        refine (orderLevel_any F g ps ls v _ HO.out).mono ?_
        rintro e w' ⟨rfl, rfl⟩
        rw [HLV.out]
        go_wp2_with fail
        refine (orderPerm_any F g ps ls _ (by rw [Hp.out]; omega) HO.out).mono ?_
        rintro e w7 ⟨v7, rfl, hown7, hb7⟩
        obtain ⟨A7, n7, c7, rfl, h7, _⟩ := OwnF.form hown7
        obtain rfl : n = n7 := by rw [← h7, Hp.out]
        have hI7 := OwnI.ints hown7
        have ha7 := ha6.on hb7
        have hbel7 := hbel6.trans (hb7.mono hbel6.size)
        clear hown7 h7
        go_wp2_with fail
        refine (same_any A7 _ n n c7 c ps ps _ Hp.out Hp.out (by omega) (by omega) hI7 ha7).mono ?_
        rintro e w8 ⟨rfl, k8, rfl⟩
        rw [decide_eq_true rfl]
        go_wp2_with fail
        go_ret
        exact ⟨by simp, below_drewN hbel7 _⟩
    · go_wp2_with fail
      refine (orderOf_yes A n c ps _ Hp.out HP.out ha2).mono ?_
      rintro e w6 ⟨g, F, ls, rfl, hO, hI, hF, hb6⟩
      have HFt : Hid (Fits ps ls) := Lib.hid ⟨HP.out, hI⟩
      have HO := Lib.hid hO
      have ha6 := ha2.on hb6
      have hbel6 := hbel.trans (hb6.mono hbel.size)
      clear hO hI hF hb6 ha2 hbel
      go_wp2_with fail
      refine (refRight_any A n c ps _ Hp.out hn ha6).mono ?_
      rintro e w' ⟨rfl, rfl⟩
      rw [decide_eq_true HP.out]
      go_wp2_with fail
      refine (at_any A n c ps v _ Hp.out hn ha6).mono ?_
      rintro e w' ⟨rfl, rfl⟩
      rw [← level_at HFt.out v]
      generalize hlv : atI ls v = lv at *
      have HLV := Lib.hid hlv
      clear hlv
      have hat : Hid (atI ps l = -1) := Lib.hid (by unfold atI; rw [if_neg (by omega)])
      go_wp2_with fail
      refine (orderVars_any F g ps ls _ HO.out).mono ?_
      rintro e w' ⟨rfl, rfl⟩
      rw [Hp.out]
      go_wp2_with fail
      refine (orderVar_any F g ps ls l _ HO.out).mono ?_
      rintro e w' ⟨rfl, rfl⟩
      rw [hat.out]
      go_wp2_with fail
      refine (orderLevel_any F g ps ls v _ HO.out).mono ?_
      rintro e w' ⟨rfl, rfl⟩
      rw [HLV.out]
      go_wp2_with fail
      refine (orderPerm_any F g ps ls _ (by rw [Hp.out]; omega) HO.out).mono ?_
      rintro e w7 ⟨v7, rfl, hown7, hb7⟩
      obtain ⟨A7, n7, c7, rfl, h7, _⟩ := OwnF.form hown7
      obtain rfl : n = n7 := by rw [← h7, Hp.out]
      have hI7 := OwnI.ints hown7
      have ha7 := ha6.on hb7
      have hbel7 := hbel6.trans (hb7.mono hbel6.size)
      clear hown7 h7
      go_wp2_with fail
      refine (same_any A7 _ n n c7 c ps ps _ Hp.out Hp.out (by omega) (by omega) hI7 ha7).mono ?_
      rintro e w8 ⟨rfl, k8, rfl⟩
      rw [decide_eq_true rfl]
      go_wp2_with fail
      go_ret
      exact ⟨by simp, below_drewN hbel7 _⟩
  · by_cases hqh : 16 < q
    · have HQ : q < 0 ∨ 16 < q := .inr hqh
      go_enter Try.func4, Try.ntmps4
      go_wp2_with fail
      refine (aliveO_any _).mono ?_
      rintro e w1 ⟨rfl, hb1⟩
      have ha1 := ha.on hb1
      go_wp2_with fail
      refine (orderNew_no q _ HQ).mono ?_
      rintro e w2 ⟨rfl, rfl⟩
      have ha2 := ha1
      have hbel := hb1
      by_cases hl : 0 ≤ l
      · by_cases hl2 : l < n
        · go_wp2_with fail
          refine (orderOf_yes A n c ps _ Hp.out HP.out ha2).mono ?_
          rintro e w6 ⟨g, F, ls, rfl, hO, hI, hF, hb6⟩
          have HFt : Hid (Fits ps ls) := Lib.hid ⟨HP.out, hI⟩
          have HO := Lib.hid hO
          have ha6 := ha2.on hb6
          have hbel6 := hbel.trans (hb6.mono hbel.size)
          clear hO hI hF hb6 ha2 hbel
          go_wp2_with fail
          refine (refRight_any A n c ps _ Hp.out hn ha6).mono ?_
          rintro e w' ⟨rfl, rfl⟩
          rw [decide_eq_true HP.out]
          go_wp2_with fail
          refine (at_any A n c ps v _ Hp.out hn ha6).mono ?_
          rintro e w' ⟨rfl, rfl⟩
          rw [← level_at HFt.out v]
          generalize hlv : atI ls v = lv at *
          have HLV := Lib.hid hlv
          clear hlv
          have hat : Hid (atI ps l = ps[l.toNat]?.getD 0) := Lib.hid (by unfold atI; rw [if_pos ⟨hl, by rw [Hp.out]; exact hl2⟩])
          obtain ⟨b6, off6, rfl, hbb, hcc⟩ := ha6 (by rw [Hp.out]; omega)
          have hck := hcc l.toNat (by rw [Hp.out]; omega)
          clear hcc
          generalize ps[l.toNat]?.getD 0 = pl at *
          go_wp2_with fail
          refine (orderVars_any F g ps ls _ HO.out).mono ?_
          rintro e w' ⟨rfl, rfl⟩
          rw [Hp.out]
          go_wp2_with fail
          refine (orderVar_any F g ps ls l _ HO.out).mono ?_
          rintro e w' ⟨rfl, rfl⟩
          rw [hat.out]
          go_wp2_with fail
          refine (orderLevel_any F g ps ls v _ HO.out).mono ?_
          rintro e w' ⟨rfl, rfl⟩
          rw [HLV.out]
          go_wp2_with fail
          refine (orderPerm_any F g ps ls _ (by rw [Hp.out]; omega) HO.out).mono ?_
          rintro e w7 ⟨v7, rfl, hown7, hb7⟩
          obtain ⟨A7, n7, c7, rfl, h7, _⟩ := OwnF.form hown7
          obtain rfl : n = n7 := by rw [← h7, Hp.out]
          have hI7 := OwnI.ints hown7
          have ha7 := ha6.on hb7
          have hbel7 := hbel6.trans (hb7.mono hbel6.size)
          clear hown7 h7
          go_wp2_with fail
          refine (same_any A7 _ n n c7 c ps ps _ Hp.out Hp.out (by omega) (by omega) hI7 ha7).mono ?_
          rintro e w8 ⟨rfl, k8, rfl⟩
          rw [decide_eq_true rfl]
          go_wp2_with fail
          go_ret
          exact ⟨by simp, below_drewN hbel7 _⟩
        · go_wp2_with fail
          refine (orderOf_yes A n c ps _ Hp.out HP.out ha2).mono ?_
          rintro e w6 ⟨g, F, ls, rfl, hO, hI, hF, hb6⟩
          have HFt : Hid (Fits ps ls) := Lib.hid ⟨HP.out, hI⟩
          have HO := Lib.hid hO
          have ha6 := ha2.on hb6
          have hbel6 := hbel.trans (hb6.mono hbel.size)
          clear hO hI hF hb6 ha2 hbel
          go_wp2_with fail
          refine (refRight_any A n c ps _ Hp.out hn ha6).mono ?_
          rintro e w' ⟨rfl, rfl⟩
          rw [decide_eq_true HP.out]
          go_wp2_with fail
          refine (at_any A n c ps v _ Hp.out hn ha6).mono ?_
          rintro e w' ⟨rfl, rfl⟩
          rw [← level_at HFt.out v]
          generalize hlv : atI ls v = lv at *
          have HLV := Lib.hid hlv
          clear hlv
          have hat : Hid (atI ps l = -1) := Lib.hid (by unfold atI; rw [if_neg (by rw [Hp.out]; omega)])
          have hl0 : ¬ l < 0 := by omega
          go_wp2_with fail
          refine (orderVars_any F g ps ls _ HO.out).mono ?_
          rintro e w' ⟨rfl, rfl⟩
          rw [Hp.out]
          go_wp2_with fail
          refine (orderVar_any F g ps ls l _ HO.out).mono ?_
          rintro e w' ⟨rfl, rfl⟩
          rw [hat.out]
          go_wp2_with fail
          refine (orderLevel_any F g ps ls v _ HO.out).mono ?_
          rintro e w' ⟨rfl, rfl⟩
          rw [HLV.out]
          go_wp2_with fail
          refine (orderPerm_any F g ps ls _ (by rw [Hp.out]; omega) HO.out).mono ?_
          rintro e w7 ⟨v7, rfl, hown7, hb7⟩
          obtain ⟨A7, n7, c7, rfl, h7, _⟩ := OwnF.form hown7
          obtain rfl : n = n7 := by rw [← h7, Hp.out]
          have hI7 := OwnI.ints hown7
          have ha7 := ha6.on hb7
          have hbel7 := hbel6.trans (hb7.mono hbel6.size)
          clear hown7 h7
          go_wp2_with fail
          refine (same_any A7 _ n n c7 c ps ps _ Hp.out Hp.out (by omega) (by omega) hI7 ha7).mono ?_
          rintro e w8 ⟨rfl, k8, rfl⟩
          rw [decide_eq_true rfl]
          go_wp2_with fail
          go_ret
          exact ⟨by simp, below_drewN hbel7 _⟩
      · go_wp2_with fail
        refine (orderOf_yes A n c ps _ Hp.out HP.out ha2).mono ?_
        rintro e w6 ⟨g, F, ls, rfl, hO, hI, hF, hb6⟩
        have HFt : Hid (Fits ps ls) := Lib.hid ⟨HP.out, hI⟩
        have HO := Lib.hid hO
        have ha6 := ha2.on hb6
        have hbel6 := hbel.trans (hb6.mono hbel.size)
        clear hO hI hF hb6 ha2 hbel
        go_wp2_with fail
        refine (refRight_any A n c ps _ Hp.out hn ha6).mono ?_
        rintro e w' ⟨rfl, rfl⟩
        rw [decide_eq_true HP.out]
        go_wp2_with fail
        refine (at_any A n c ps v _ Hp.out hn ha6).mono ?_
        rintro e w' ⟨rfl, rfl⟩
        rw [← level_at HFt.out v]
        generalize hlv : atI ls v = lv at *
        have HLV := Lib.hid hlv
        clear hlv
        have hat : Hid (atI ps l = -1) := Lib.hid (by unfold atI; rw [if_neg (by omega)])
        go_wp2_with fail
        refine (orderVars_any F g ps ls _ HO.out).mono ?_
        rintro e w' ⟨rfl, rfl⟩
        rw [Hp.out]
        go_wp2_with fail
        refine (orderVar_any F g ps ls l _ HO.out).mono ?_
        rintro e w' ⟨rfl, rfl⟩
        rw [hat.out]
        go_wp2_with fail
        refine (orderLevel_any F g ps ls v _ HO.out).mono ?_
        rintro e w' ⟨rfl, rfl⟩
        rw [HLV.out]
        go_wp2_with fail
        refine (orderPerm_any F g ps ls _ (by rw [Hp.out]; omega) HO.out).mono ?_
        rintro e w7 ⟨v7, rfl, hown7, hb7⟩
        obtain ⟨A7, n7, c7, rfl, h7, _⟩ := OwnF.form hown7
        obtain rfl : n = n7 := by rw [← h7, Hp.out]
        have hI7 := OwnI.ints hown7
        have ha7 := ha6.on hb7
        have hbel7 := hbel6.trans (hb7.mono hbel6.size)
        clear hown7 h7
        go_wp2_with fail
        refine (same_any A7 _ n n c7 c ps ps _ Hp.out Hp.out (by omega) (by omega) hI7 ha7).mono ?_
        rintro e w8 ⟨rfl, k8, rfl⟩
        rw [decide_eq_true rfl]
        go_wp2_with fail
        go_ret
        exact ⟨by simp, below_drewN hbel7 _⟩
    · have hq0 : 0 ≤ q := by omega
      have hq1 : q ≤ 16 := by omega
      go_enter Try.func4, Try.ntmps4
      go_wp2_with fail
      refine (aliveO_any _).mono ?_
      rintro e w1 ⟨rfl, hb1⟩
      have ha1 := ha.on hb1
      go_wp2_with fail
      refine (orderNew_yes q _ hq0 hq1).mono ?_
      rintro e w2 ⟨g2, F2, ls2, rfl, hO2, hI2, hF2, hb2⟩
      have HO2 := Lib.hid hO2
      have ha2' := ha1.on hb2
      have hbel2 := hb1.trans (hb2.mono hb1.size)
      clear hO2 hI2 hF2 hb2 ha1 hb1
      go_wp2_with fail
      refine (orderPerm_any F2 g2 (iota q.toNat) ls2 _ (by rw [iota_length]; omega) HO2.out).mono ?_
      rintro e w3 ⟨v3, rfl, hown3, hb3⟩
      obtain ⟨A3, n3, c3, rfl, h3, _⟩ := OwnF.form hown3
      obtain rfl : q.toNat = n3 := by rw [← h3, iota_length]
      have H3 := Lib.hid h3
      have hI3 := OwnI.ints hown3
      have ha3 := ha2'.on hb3
      have hbel3 := hbel2.trans (hb3.mono hbel2.size)
      clear hown3 h3 ha2' hbel2
      go_wp2_with fail
      refine (self_any q _ (by omega)).mono ?_
      rintro e w4 ⟨v4, rfl, hown4, hb4⟩
      obtain ⟨A4, n4, c4, rfl, h4, _⟩ := OwnF.form hown4
      obtain rfl : q.toNat = n4 := by rw [← h4, iota_length]
      have H4 := Lib.hid h4
      have hI4 := OwnI.ints hown4
      have ha4 := ha3.on hb4
      have hI34 := hI3.on hb4
      have hbel4 := hbel3.trans (hb4.mono hbel3.size)
      clear hown4 h4 ha3 hbel3 hI3 hb4 hb3
      go_wp2_with fail
      refine (same_any A3 A4 q.toNat q.toNat c3 c4 _ _ _ H3.out H4.out (by omega) (by omega) hI34 hI4).mono ?_
      rintro e w5 ⟨rfl, k5, rfl⟩
      rw [decide_eq_true rfl]
      have ha2 := ha4.drewN' k5
      have hbel := below_drewN hbel4 k5
      by_cases hl : 0 ≤ l
      · by_cases hl2 : l < n
        · go_wp2_with fail
          refine (orderOf_yes A n c ps _ Hp.out HP.out ha2).mono ?_
          rintro e w6 ⟨g, F, ls, rfl, hO, hI, hF, hb6⟩
          have HFt : Hid (Fits ps ls) := Lib.hid ⟨HP.out, hI⟩
          have HO := Lib.hid hO
          have ha6 := ha2.on hb6
          have hbel6 := hbel.trans (hb6.mono hbel.size)
          clear hO hI hF hb6 ha2 hbel
          go_wp2_with fail
          refine (refRight_any A n c ps _ Hp.out hn ha6).mono ?_
          rintro e w' ⟨rfl, rfl⟩
          rw [decide_eq_true HP.out]
          go_wp2_with fail
          refine (at_any A n c ps v _ Hp.out hn ha6).mono ?_
          rintro e w' ⟨rfl, rfl⟩
          rw [← level_at HFt.out v]
          generalize hlv : atI ls v = lv at *
          have HLV := Lib.hid hlv
          clear hlv
          have hat : Hid (atI ps l = ps[l.toNat]?.getD 0) := Lib.hid (by unfold atI; rw [if_pos ⟨hl, by rw [Hp.out]; exact hl2⟩])
          obtain ⟨b6, off6, rfl, hbb, hcc⟩ := ha6 (by rw [Hp.out]; omega)
          have hck := hcc l.toNat (by rw [Hp.out]; omega)
          clear hcc
          generalize ps[l.toNat]?.getD 0 = pl at *
          go_wp2_with fail
          refine (orderVars_any F g ps ls _ HO.out).mono ?_
          rintro e w' ⟨rfl, rfl⟩
          rw [Hp.out]
          go_wp2_with fail
          refine (orderVar_any F g ps ls l _ HO.out).mono ?_
          rintro e w' ⟨rfl, rfl⟩
          rw [hat.out]
          go_wp2_with fail
          refine (orderLevel_any F g ps ls v _ HO.out).mono ?_
          rintro e w' ⟨rfl, rfl⟩
          rw [HLV.out]
          go_wp2_with fail
          refine (orderPerm_any F g ps ls _ (by rw [Hp.out]; omega) HO.out).mono ?_
          rintro e w7 ⟨v7, rfl, hown7, hb7⟩
          obtain ⟨A7, n7, c7, rfl, h7, _⟩ := OwnF.form hown7
          obtain rfl : n = n7 := by rw [← h7, Hp.out]
          have hI7 := OwnI.ints hown7
          have ha7 := ha6.on hb7
          have hbel7 := hbel6.trans (hb7.mono hbel6.size)
          clear hown7 h7
          go_wp2_with fail
          refine (same_any A7 _ n n c7 c ps ps _ Hp.out Hp.out (by omega) (by omega) hI7 ha7).mono ?_
          rintro e w8 ⟨rfl, k8, rfl⟩
          rw [decide_eq_true rfl]
          go_wp2_with fail
          go_ret
          exact ⟨by simp, below_drewN hbel7 _⟩
        · go_wp2_with fail
          refine (orderOf_yes A n c ps _ Hp.out HP.out ha2).mono ?_
          rintro e w6 ⟨g, F, ls, rfl, hO, hI, hF, hb6⟩
          have HFt : Hid (Fits ps ls) := Lib.hid ⟨HP.out, hI⟩
          have HO := Lib.hid hO
          have ha6 := ha2.on hb6
          have hbel6 := hbel.trans (hb6.mono hbel.size)
          clear hO hI hF hb6 ha2 hbel
          go_wp2_with fail
          refine (refRight_any A n c ps _ Hp.out hn ha6).mono ?_
          rintro e w' ⟨rfl, rfl⟩
          rw [decide_eq_true HP.out]
          go_wp2_with fail
          refine (at_any A n c ps v _ Hp.out hn ha6).mono ?_
          rintro e w' ⟨rfl, rfl⟩
          rw [← level_at HFt.out v]
          generalize hlv : atI ls v = lv at *
          have HLV := Lib.hid hlv
          clear hlv
          have hat : Hid (atI ps l = -1) := Lib.hid (by unfold atI; rw [if_neg (by rw [Hp.out]; omega)])
          have hl0 : ¬ l < 0 := by omega
          go_wp2_with fail
          refine (orderVars_any F g ps ls _ HO.out).mono ?_
          rintro e w' ⟨rfl, rfl⟩
          rw [Hp.out]
          go_wp2_with fail
          refine (orderVar_any F g ps ls l _ HO.out).mono ?_
          rintro e w' ⟨rfl, rfl⟩
          rw [hat.out]
          go_wp2_with fail
          refine (orderLevel_any F g ps ls v _ HO.out).mono ?_
          rintro e w' ⟨rfl, rfl⟩
          rw [HLV.out]
          go_wp2_with fail
          refine (orderPerm_any F g ps ls _ (by rw [Hp.out]; omega) HO.out).mono ?_
          rintro e w7 ⟨v7, rfl, hown7, hb7⟩
          obtain ⟨A7, n7, c7, rfl, h7, _⟩ := OwnF.form hown7
          obtain rfl : n = n7 := by rw [← h7, Hp.out]
          have hI7 := OwnI.ints hown7
          have ha7 := ha6.on hb7
          have hbel7 := hbel6.trans (hb7.mono hbel6.size)
          clear hown7 h7
          go_wp2_with fail
          refine (same_any A7 _ n n c7 c ps ps _ Hp.out Hp.out (by omega) (by omega) hI7 ha7).mono ?_
          rintro e w8 ⟨rfl, k8, rfl⟩
          rw [decide_eq_true rfl]
          go_wp2_with fail
          go_ret
          exact ⟨by simp, below_drewN hbel7 _⟩
      · go_wp2_with fail
        refine (orderOf_yes A n c ps _ Hp.out HP.out ha2).mono ?_
        rintro e w6 ⟨g, F, ls, rfl, hO, hI, hF, hb6⟩
        have HFt : Hid (Fits ps ls) := Lib.hid ⟨HP.out, hI⟩
        have HO := Lib.hid hO
        have ha6 := ha2.on hb6
        have hbel6 := hbel.trans (hb6.mono hbel.size)
        clear hO hI hF hb6 ha2 hbel
        go_wp2_with fail
        refine (refRight_any A n c ps _ Hp.out hn ha6).mono ?_
        rintro e w' ⟨rfl, rfl⟩
        rw [decide_eq_true HP.out]
        go_wp2_with fail
        refine (at_any A n c ps v _ Hp.out hn ha6).mono ?_
        rintro e w' ⟨rfl, rfl⟩
        rw [← level_at HFt.out v]
        generalize hlv : atI ls v = lv at *
        have HLV := Lib.hid hlv
        clear hlv
        have hat : Hid (atI ps l = -1) := Lib.hid (by unfold atI; rw [if_neg (by omega)])
        go_wp2_with fail
        refine (orderVars_any F g ps ls _ HO.out).mono ?_
        rintro e w' ⟨rfl, rfl⟩
        rw [Hp.out]
        go_wp2_with fail
        refine (orderVar_any F g ps ls l _ HO.out).mono ?_
        rintro e w' ⟨rfl, rfl⟩
        rw [hat.out]
        go_wp2_with fail
        refine (orderLevel_any F g ps ls v _ HO.out).mono ?_
        rintro e w' ⟨rfl, rfl⟩
        rw [HLV.out]
        go_wp2_with fail
        refine (orderPerm_any F g ps ls _ (by rw [Hp.out]; omega) HO.out).mono ?_
        rintro e w7 ⟨v7, rfl, hown7, hb7⟩
        obtain ⟨A7, n7, c7, rfl, h7, _⟩ := OwnF.form hown7
        obtain rfl : n = n7 := by rw [← h7, Hp.out]
        have hI7 := OwnI.ints hown7
        have ha7 := ha6.on hb7
        have hbel7 := hbel6.trans (hb7.mono hbel6.size)
        clear hown7 h7
        go_wp2_with fail
        refine (same_any A7 _ n n c7 c ps ps _ Hp.out Hp.out (by omega) (by omega) hI7 ha7).mono ?_
        rintro e w8 ⟨rfl, k8, rfl⟩
        rw [decide_eq_true rfl]
        go_wp2_with fail
        go_ret
        exact ⟨by simp, below_drewN hbel7 _⟩

theorem orderMakes_walk (A : Option Addr) (n c : Nat) (ps : List Int) (q l v : Int) (w : World) (hp : ps.length = n) (hn : n ≤ maxLen) (ha : Ints w w.heap.size A ps) :
    Calls Try.prog 4 #[.int .i64 q, .slice A n c, .int .i64 l, .int .i64 v] w fun e w' => e = .returned (.bool true) ∧ Below w.heap.size w w' := by
  unfold maxLen at hn
  by_cases h40 : n ≤ 40
  · by_cases hP : IsPerm ps
    · exact orderMakes_yes A n c ps q l v w hp hn h40 ha hP
    · exact orderMakes_no A n c ps q l v w hp hn h40 ha hP
  · clear hp
    go_enter Try.func4, Try.ntmps4
    go_wp2_with fail
    refine (aliveO_any _).mono ?_
    rintro e w1 ⟨rfl, hb1⟩
    go_wp2_with fail
    go_ret
    exact ⟨rfl, hb1⟩
end Go.Proofs.Ytomibgonhdkhdaa
