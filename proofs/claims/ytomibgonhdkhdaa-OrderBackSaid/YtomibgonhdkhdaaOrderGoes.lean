/- The walk of OrderGoes; the layer's example. -/
import Derived.Test.YtomibgonhdkhdaaOrderE
namespace Go.Proofs.Ytomibgonhdkhdaa
open Go.RowKit
set_option linter.unusedSimpArgs false
set_option linter.unusedVariables false

theorem orderDown_i (F : List Nat) (g : Nat) (ps ls : List Int) (x : Int) (w : World) (h : OrdAt w F g ps ls) (hf : Fits ps ls) (h0 : 0 ≤ x) (hx : x < ((pow2 ps.length : Nat) : Int)) :
    Calls Try.prog 13 #[.pointer (some ⟨g, 0, none⟩), .int .i64 x] w fun e w' => e = .returned (.int .i64 (rdown x.toNat ps : Nat)) ∧ Below w.heap.size w w' := by
  obtain ⟨y, rfl⟩ := Int.eq_ofNat_of_zero_le h0
  rw [Int.toNat_natCast, ← downM_eq hf]
  exact orderDown_yes F g ps ls y w h hf (by unfold pow2 at hx; omega)
theorem orderUp_i (F : List Nat) (g : Nat) (ps ls : List Int) (x : Int) (w : World) (h : OrdAt w F g ps ls) (hf : Fits ps ls) (h0 : 0 ≤ x) (hx : x < ((pow2 ps.length : Nat) : Int)) :
    Calls Try.prog 14 #[.pointer (some ⟨g, 0, none⟩), .int .i64 x] w fun e w' => e = .returned (.int .i64 (upM ps ps.length x.toNat : Nat)) ∧ Below w.heap.size w w' := by
  obtain ⟨y, rfl⟩ := Int.eq_ofNat_of_zero_le h0
  rw [Int.toNat_natCast]
  exact orderUp_yes F g ps ls y w h hf (by unfold pow2 at hx; omega)

set_option maxHeartbeats 1000000 in
theorem aliveO_any (w : World) : Calls Try.prog 7 #[] w fun e w' => e = .returned (.bool true) ∧ Below w.heap.size w w' := by
  have hP : IsPerm [1, 0] := by decide
  have HP := Lib.hid hP
  clear hP
  go_enter Try.func7, Try.ntmps7
  go_wp2_with fail
  refine (orderOf_yes _ 2 2 [1, 0] _ rfl HP.out (RowF.lit w 3 [1, 0])).mono ?_
  rintro e w1 ⟨g, F, ls, rfl, hO, hI, hF, hb1⟩
  have hb01 : Below w.heap.size w w1 := ((Below.refl _ _).alloc (Nat.le_refl _) _).trans (hb1.mono (by simp))
  have HFt : Hid (Fits [1, 0] ls) := Lib.hid ⟨HP.out, hI⟩
  have Hl0 : Hid (atI ls 0 = 1) := Lib.hid (by
    have h := hI.2 1 (by decide)
    have h1 := hI.1
    unfold atI
    rw [if_pos (by rw [h1]; decide)]
    exact h)
  have HO1 := Lib.hid hO
  clear hI hF hb1 hO
  go_wp2_with fail
  refine (orderDown_i F g [1, 0] ls 2 _ HO1.out HFt.out (by omega) (by decide)).mono ?_
  rintro e w2 ⟨rfl, hb2⟩
  have HO2 := Lib.hid (HO1.out.on hb2)
  have hb02 := hb01.trans (hb2.mono hb01.size)
  have hr2 : rdown (Int.toNat 2) [1, 0] = 2 := by decide
  rw [hr2]
  clear hr2 hb2 hb01
  go_wp2_with fail
  refine (orderDown_i F g [1, 0] ls 1 _ HO2.out HFt.out (by omega) (by decide)).mono ?_
  rintro e w3 ⟨rfl, hb3⟩
  have HO3 := Lib.hid (HO2.out.on hb3)
  have hb03 := hb02.trans (hb3.mono hb02.size)
  have hr2 : rdown (Int.toNat 1) [1, 0] = 1 := by decide
  rw [hr2]
  clear hr2 hb3 hb02
  go_wp2_with fail
  refine (orderVar_any F g [1, 0] ls 0 _ HO3.out).mono ?_
  rintro e w' ⟨rfl, rfl⟩
  have hr2 : atI [1, 0] 0 = 1 := by decide
  rw [hr2]
  clear hr2
  go_wp2_with fail
  refine (orderLevel_any F g [1, 0] ls 0 _ HO3.out).mono ?_
  rintro e w' ⟨rfl, rfl⟩
  rw [Hl0.out]
  go_wp2_with fail
  refine (orderVars_any F g [1, 0] ls _ HO3.out).mono ?_
  rintro e w' ⟨rfl, rfl⟩
  go_wp2_with fail
  go_ret
  exact ⟨rfl, hb03⟩

set_option maxHeartbeats 4000000 in
theorem orderGoes_walk (A : Option Addr) (n c : Nat) (ps : List Int) (x vs : Int) (w : World) (hp : ps.length = n) (hn : n ≤ maxLen) (hxm : x ≤ 9223372036854775807) (hv0 : 0 ≤ vs) (hv1 : vs ≤ 65535) (ha : Ints w w.heap.size A ps) :
    Calls Try.prog 3 #[.slice A n c, .int .i64 x, .int .u16 vs] w fun e w' => e = .returned (.bool true) ∧ Below w.heap.size w w' := by
  unfold maxLen at hn
  obtain ⟨v, rfl⟩ := Int.eq_ofNat_of_zero_le hv0
  have Hp := Lib.hid hp
  clear hp hv0
  by_cases hP : IsPerm ps
  · have HP := Lib.hid hP
    have hn16 : n ≤ 16 := by rw [← Hp.out]; exact hP.1
    clear hP
    by_cases h10 : n ≤ 10
    · have hpn : pow2 n ≤ 65536 := Nat.le_trans (Nat.pow_le_pow_right (by omega) hn16) (by decide)
      by_cases hx : 0 ≤ x ∧ x < ((pow2 n : Nat) : Int)
      · obtain ⟨hx0, hx1⟩ := hx
        go_enter Try.func3, Try.ntmps3
        go_wp2_with fail
        refine (aliveO_any _).mono ?_
        rintro e w1 ⟨rfl, hb1⟩
        have ha1 := ha.on hb1
        go_wp2_with fail
        refine (refRight_any A n c ps _ Hp.out hn ha1).mono ?_
        rintro e w' ⟨rfl, rfl⟩
        rw [decide_eq_true HP.out]
        go_wp2_with fail
        refine (orderOf_yes A n c ps _ Hp.out HP.out ha1).mono ?_
        rintro e w2 ⟨g, F, ls, rfl, hO, hI, hF, hb2⟩
        have HFt : Hid (Fits ps ls) := Lib.hid ⟨HP.out, hI⟩
        have HO2 := Lib.hid hO
        have ha2 := ha1.on hb2
        have hbel2 := hb1.trans (hb2.mono hb1.size)
        clear hI hF hb1 hb2 ha1 ha hO
        go_wp2_with fail
        refine (orderLevels_any F g ps ls v _ HO2.out HFt.out (by omega)).mono ?_
        rintro e w' ⟨rfl, rfl⟩
        rw [Hp.out]
        have hm16 := movedTo_lt v (fun u => (ls[u]?.getD 0).toNat) 16 n (fun j hj => by
          show (ls[j]?.getD 0).toNat < 16
          have := HFt.out.ls_get (v := j) (by rw [HFt.out.len, Hp.out]; exact hj)
          rw [Hp.out] at this
          omega)
        generalize hM : movedTo v (fun u => (ls[u]?.getD 0).toNat) n = M at *
        have HM := Lib.hid hM
        clear hM
        go_wp2_with fail
        refine (refLevels_any A n c ps ls v _ Hp.out HFt.out (by omega) ha2).mono ?_
        rintro e w' ⟨rfl, rfl⟩
        rw [HM.out]
        have hMM : (((M : Nat) : Int) != ((M : Nat) : Int)) = false := by rw [bne_eq_false_iff_eq]
        go_wp2_with fail
        refine (size_any (n : Int) _ (by omega)).mono ?_
        rintro e w' ⟨rfl, rfl⟩
        rw [Int.toNat_natCast]
        go_wp2_with fail
        refine (orderDown_i F g ps ls x _ HO2.out HFt.out hx0 (by rw [Hp.out]; exact hx1)).mono ?_
        rintro e w3 ⟨rfl, hb3⟩
        have HO3 := Lib.hid (HO2.out.on hb3)
        have ha3 := ha2.on hb3
        have hbel3 := hbel2.trans (hb3.mono hbel2.size)
        have hxt : ((x.toNat : Nat) : Int) = x := by omega
        have HXT := Lib.hid hxt
        clear hb3 hbel2 ha2
        have hrd := refDown_any A n c ps x.toNat w3 Hp.out HP.out (by omega) ha3
        rw [hxt] at hrd
        have HRD := Lib.hid hrd
        clear hrd hxt
        generalize rdown x.toNat ps = D at *
        go_wp2_with fail
        refine HRD.out.mono ?_
        rintro e w' ⟨rfl, rfl⟩
        go_wp2_with fail
        refine (orderUp_i F g ps ls x _ HO3.out HFt.out hx0 (by rw [Hp.out]; exact hx1)).mono ?_
        rintro e w4 ⟨rfl, hb4⟩
        rw [Hp.out]
        have ha4 := ha3.on hb4
        have hbel4 := hbel3.trans (hb4.mono hbel3.size)
        have hru := refUp_any A n c ps x.toNat w4 Hp.out HP.out (by unfold pow2 at hx1; omega) ha4
        rw [HXT.out] at hru
        have HRU := Lib.hid hru
        clear hru
        generalize upM ps n x.toNat = U at *
        go_wp2_with fail
        refine HRU.out.mono ?_
        rintro e w' ⟨rfl, rfl⟩
        go_wp2_with fail
        go_ret
        exact ⟨by simp, hbel4⟩
      · have hx' : x < 0 ∨ ((2 ^ ps.length : Nat) : Int) ≤ x := by
          rw [Hp.out]
          rcases Int.lt_or_le x 0 with h | h
          · exact .inl h
          · right
            rcases Int.lt_or_le x ((pow2 n : Nat) : Int) with h2 | h2
            · exact absurd ⟨h, h2⟩ hx
            · exact h2
        have HX := Lib.hid hx'
        clear hx' hx
        by_cases hneg : x < 0
        all_goals
          have hbig : x < 0 ∨ ((pow2 n : Nat) : Int) ≤ x := by have := HX.out; rw [Hp.out] at this; exact this
          try have hbig2 : ((pow2 n : Nat) : Int) ≤ x := by omega
          clear hbig
          go_enter Try.func3, Try.ntmps3
          go_wp2_with fail
          refine (aliveO_any _).mono ?_
          rintro e w1 ⟨rfl, hb1⟩
          have ha1 := ha.on hb1
          go_wp2_with fail
          refine (refRight_any A n c ps _ Hp.out hn ha1).mono ?_
          rintro e w' ⟨rfl, rfl⟩
          rw [decide_eq_true HP.out]
          go_wp2_with fail
          refine (orderOf_yes A n c ps _ Hp.out HP.out ha1).mono ?_
          rintro e w2 ⟨g, F, ls, rfl, hO, hI, hF, hb2⟩
          have HFt : Hid (Fits ps ls) := Lib.hid ⟨HP.out, hI⟩
          have HO2 := Lib.hid hO
          have ha2 := ha1.on hb2
          have hbel2 := hb1.trans (hb2.mono hb1.size)
          clear hI hF hb1 hb2 ha1 ha hO
          go_wp2_with fail
          refine (orderLevels_any F g ps ls v _ HO2.out HFt.out (by omega)).mono ?_
          rintro e w' ⟨rfl, rfl⟩
          rw [Hp.out]
          have hm16 := movedTo_lt v (fun u => (ls[u]?.getD 0).toNat) 16 n (fun j hj => by
            show (ls[j]?.getD 0).toNat < 16
            have := HFt.out.ls_get (v := j) (by rw [HFt.out.len, Hp.out]; exact hj)
            rw [Hp.out] at this
            omega)
          generalize hM : movedTo v (fun u => (ls[u]?.getD 0).toNat) n = M at *
          have HM := Lib.hid hM
          clear hM
          go_wp2_with fail
          refine (refLevels_any A n c ps ls v _ Hp.out HFt.out (by omega) ha2).mono ?_
          rintro e w' ⟨rfl, rfl⟩
          rw [HM.out]
          have hMM : (((M : Nat) : Int) != ((M : Nat) : Int)) = false := by rw [bne_eq_false_iff_eq]
          go_wp2_with fail
          try (refine (size_any (n : Int) _ (by omega)).mono ?_; rintro e w' ⟨rfl, rfl⟩; rw [Int.toNat_natCast]; go_wp2_with fail)
          refine (orderDown_no F g ps ls x _ HO2.out HP.out.1 HX.out).mono ?_
          rintro e w3 ⟨rfl, hb3⟩
          have HO3 := Lib.hid (HO2.out.on hb3)
          have hbel3 := hbel2.trans (hb3.mono hbel2.size)
          go_wp2_with fail
          refine (orderUp_no F g ps ls x _ HO3.out HP.out.1 HX.out).mono ?_
          rintro e w4 ⟨rfl, hb4⟩
          go_wp2_with fail
          go_ret
          exact ⟨rfl, hbel3.trans (hb4.mono hbel3.size)⟩
    · go_enter Try.func3, Try.ntmps3
      go_wp2_with fail
      refine (aliveO_any _).mono ?_
      rintro e w1 ⟨rfl, hb1⟩
      go_wp2_with fail
      refine (refRight_any A n c ps _ Hp.out hn (ha.on hb1)).mono ?_
      rintro e w' ⟨rfl, rfl⟩
      rw [decide_eq_true HP.out]
      go_wp2_with fail
      go_ret
      exact ⟨rfl, hb1⟩
  · have HP := Lib.hid hP
    clear hP
    go_enter Try.func3, Try.ntmps3
    go_wp2_with fail
    refine (aliveO_any _).mono ?_
    rintro e w1 ⟨rfl, hb1⟩
    go_wp2_with fail
    refine (refRight_any A n c ps _ Hp.out hn (ha.on hb1)).mono ?_
    rintro e w' ⟨rfl, rfl⟩
    rw [decide_eq_false HP.out]
    go_wp2_with fail
    go_ret
    exact ⟨rfl, hb1⟩
end Go.Proofs.Ytomibgonhdkhdaa
