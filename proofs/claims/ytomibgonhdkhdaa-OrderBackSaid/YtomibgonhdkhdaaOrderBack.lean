/- The walk of OrderBack. -/
import Derived.Test.YtomibgonhdkhdaaOrderGoes
import Derived.Test.YtomibgonhdkhdaaOrderF
namespace Go.Proofs.Ytomibgonhdkhdaa
open Go.RowKit
set_option linter.unusedSimpArgs false
set_option linter.unusedVariables false

theorem orderNil_levels (x : Int) (w : World) : Calls Try.prog 10 #[.pointer none, .int .u16 x] w fun e w' => e = .returned (.int .u16 0) ∧ w = w' := by
  go_enter Try.func10, Try.ntmps10
  go_wp2_with fail
  refine (orderNil_vars _).mono ?_
  rintro e w' ⟨rfl, rfl⟩
  go_wp2_with fail
  refine wp_loop_rounds 1 ?_
  rw [rounds_succ]
  go_wp2_with fail
  go_ret
  exact ⟨rfl, rfl⟩
theorem swapL_swapL {l : List Int} {k : Nat} (hk : k + 1 < l.length) : swapL (swapL l k) k = l := by
  apply list_eq_of
  · rw [swapL_length, swapL_length]
  · intro j hj
    rw [swapL_length, swapL_length] at hj
    rw [swapL_get _ _ _ (by rw [swapL_length]; exact hk), swapL_get _ _ _ hk, swapL_get _ _ _ hk, swapL_get _ _ _ hk]
    by_cases h1 : j = k <;> by_cases h2 : j = k + 1 <;> simp [h1, h2]

set_option maxRecDepth 100000 in
set_option maxHeartbeats 16000000 in
theorem orderBack_yes (A : Option Addr) (n c : Nat) (ps : List Int) (x l : Int) (w : World) (hp : ps.length = n) (hn : n ≤ 9223372036854775807) (hlb : l ≤ 9223372036854775807) (ha : Ints w w.heap.size A ps) (hP : IsPerm ps) :
    Calls Try.prog 6 #[.slice A n c, .int .i64 x, .int .i64 l] w fun e w' => e = .returned (.bool true) ∧ Below w.heap.size w w' := by
  have hn16 : n ≤ 16 := by rw [← hp]; exact hP.1
  have Hp := Lib.hid hp
  have HP := Lib.hid hP
  have hpn : pow2 n ≤ 65536 := Nat.le_trans (Nat.pow_le_pow_right (by omega) hn16) (by decide)
  clear hp hP
  by_cases hx0 : 0 ≤ x
  · by_cases hx1 : x < ((pow2 n : Nat) : Int)
    · by_cases hl : 0 ≤ l ∧ l + 1 < (n : Int)
      · obtain ⟨hl0, hl1⟩ := hl
        go_enter Try.func6, Try.ntmps6
        go_wp2_with fail
        refine (aliveO_any _).mono ?_
        rintro e w1 ⟨rfl, hb1⟩
        have ha1 := ha.on hb1
        go_wp2_with fail
        refine (refRight_any A n c ps _ Hp.out hn ha1).mono ?_
        rintro e w' ⟨rfl, rfl⟩
        rw [decide_eq_true HP.out]
        go_wp2_with fail
        refine (orderOf_yes A n c ps _ Hp.out HP.out ha1).mono ?_
        rintro e w2 ⟨g, F, ls, rfl, hO, hI, hF, hb2⟩
        have HFt : Hid (Fits ps ls) := Lib.hid ⟨HP.out, hI⟩
        have HOx := Lib.hid hO
        have HFb : Hid (∀ k ∈ F, w.heap.size ≤ k) := Lib.hid (fun k hk => Nat.le_trans hb1.size (hF k hk))
        have hbelx := hb1.trans (hb2.mono hb1.size)
        clear hO hI hF hb1 hb2 ha1 ha
        go_wp2_with fail
        refine (size_any (n : Int) _ (by omega)).mono ?_
        rintro e w' ⟨rfl, rfl⟩
        rw [Int.toNat_natCast]
        go_wp2_with fail
        refine (orderDown_i F g ps ls x _ HOx.out HFt.out hx0 (by rw [Hp.out]; exact hx1)).mono ?_
        rintro e w3 ⟨rfl, hb3⟩
        have HO3 := Lib.hid (HOx.out.on hb3)
        have hbel3 := hbelx.trans (hb3.mono hbelx.size)
        have hrl := rdown_lt x.toNat ps
        rw [Hp.out] at hrl
        have HB1 : Hid (upM ps n (rdown x.toNat ps) = x.toNat) := Lib.hid (by
          have := up_rdown HP.out x.toNat (by rw [Hp.out]; unfold pow2 at hx1; omega)
          rw [Hp.out] at this
          exact this)
        generalize hD : rdown x.toNat ps = D at *
        have HD := Lib.hid hD
        clear hb3 hbelx HOx hD
        go_wp2_with fail
        refine (orderUp_i F g ps ls (D : Int) _ HO3.out HFt.out (by omega) (by rw [Hp.out]; omega)).mono ?_
        rintro e w4 ⟨rfl, hb4⟩
        rw [Int.toNat_natCast, Hp.out, HB1.out, Int.toNat_of_nonneg hx0]
        have HO4 := Lib.hid (HO3.out.on hb4)
        have hbel4 := hbel3.trans (hb4.mono hbel3.size)
        have hxx : (x != x) = false := by rw [bne_eq_false_iff_eq]
        clear hb4 hbel3 HO3
        go_wp2_with fail
        refine (orderUp_i F g ps ls x _ HO4.out HFt.out hx0 (by rw [Hp.out]; exact hx1)).mono ?_
        rintro e w5 ⟨rfl, hb5⟩
        rw [Hp.out]
        have HO5 := Lib.hid (HO4.out.on hb5)
        have hbel5 := hbel4.trans (hb5.mono hbel4.size)
        have hul : upM ps n x.toNat < pow2 n := by
          have := upM_lt HP.out x.toNat
          rw [Hp.out] at this
          exact this
        have HB2 : Hid (rdown (upM ps n x.toNat) ps = x.toNat) := Lib.hid (by
          have := rdown_up HP.out x.toNat (by rw [Hp.out]; unfold pow2 at hx1; omega)
          rw [Hp.out] at this
          exact this)
        generalize hU : upM ps n x.toNat = U at *
        clear hb5 hbel4 HO4 hU HD
        go_wp2_with fail
        refine (orderDown_i F g ps ls (U : Int) _ HO5.out HFt.out (by omega) (by rw [Hp.out]; omega)).mono ?_
        rintro e w6 ⟨rfl, hb6⟩
        rw [Int.toNat_natCast, HB2.out, Int.toNat_of_nonneg hx0]
        have HOx := Lib.hid (HO5.out.on hb6)
        have hbelx := hbel5.trans (hb6.mono hbel5.size)
        clear hb6 hbel5 HO5
        go_wp2_with fail
        refine (orderCopy_any F g ps ls _ (by rw [Hp.out]; omega) HOx.out).mono ?_
        rintro e w7 ⟨g7, F7, rfl, hO7, hF7, hb7⟩
        have HO7 := Lib.hid hO7
        have HOy := Lib.hid (HOx.out.on hb7)
        have hbely := hbelx.trans (hb7.mono hbelx.size)
        have HDj : Hid (∀ k ∈ F7, ¬ k ∈ F) := Lib.hid (fun k h1 h2 => by have := hF7 k h1; have := HOx.out.lt k h2; omega)
        clear hO7 hF7 hb7 hbelx HOx
        go_wp2_with fail
        refine (orderSwap_yes F g ps ls l _ HOy.out HFt.out.perm HFt.out.inv hl0 (by rw [Hp.out]; exact hl1)).mono ?_
        rintro e w8 ⟨ms, rfl, hO8, hI8, hch8⟩
        have HO8 := Lib.hid hO8
        have HI8 := Lib.hid hI8
        have HP8 : Hid (IsPerm (swapL ps l.toNat)) := Lib.hid (HFt.out.perm.swap (by rw [Hp.out]; omega))
        have HO78 := Lib.hid (HO7.out.chg hch8 HDj.out)
        have hbel8 := hbely.trans (hch8.below hbely.size HFb.out)
        clear hO8 hI8 hch8 hbely HOy HO7
        go_wp2_with fail
        refine (orderSwap_yes F g (swapL ps l.toNat) ms l _ HO8.out HP8.out HI8.out hl0 (by rw [swapL_length, Hp.out]; exact hl1)).mono ?_
        rintro e w9 ⟨ms2, rfl, hO9, hI9, hch9⟩
        rw [swapL_swapL (by rw [Hp.out]; omega)] at hO9
        have HO9 := Lib.hid hO9
        have HO79 := Lib.hid (HO78.out.chg hch9 HDj.out)
        have hbel9 := hbel8.trans (hch9.below hbel8.size HFb.out)
        clear hO9 hI9 hch9 hbel8
        go_wp2_with fail
        refine (orderSame_any F F7 g g7 ps _ ps _ _ HO9.out HO79.out).mono ?_
        rintro e w10 ⟨rfl, k10, rfl⟩
        rw [decide_eq_true rfl]
        go_wp2_with fail
        refine (orderNil_vars _).mono ?_
        rintro e w' ⟨rfl, rfl⟩
        go_wp2_with fail
        refine (orderNil_var _ l).mono ?_
        rintro e w' ⟨rfl, rfl⟩
        go_wp2_with fail
        refine (orderNil_level _ l).mono ?_
        rintro e w' ⟨rfl, rfl⟩
        go_wp2_with fail
        refine (orderNil_perm _).mono ?_
        rintro e w' ⟨rfl, rfl⟩
        go_wp2_with fail
        refine (orderNil_copy _).mono ?_
        rintro e w' ⟨rfl, rfl⟩
        go_wp2_with fail
        refine (orderSame_nil3 _).mono ?_
        rintro e w' ⟨rfl, rfl⟩
        go_wp2_with fail
        refine (orderSame_nil2 _ _).mono ?_
        rintro e w' ⟨rfl, rfl⟩
        go_wp2_with fail
        refine (orderNil_swap l _).mono ?_
        rintro e w' ⟨rfl, rfl⟩
        go_wp2_with fail
        refine (orderNil_down x _).mono ?_
        rintro e w11 ⟨rfl, hb11⟩
        have hbel11 := (below_drewN hbel9 k10).trans (hb11.mono hbel9.size)
        go_wp2_with fail
        refine (orderNil_up x _).mono ?_
        rintro e w12 ⟨rfl, hb12⟩
        have hbel12 := hbel11.trans (hb12.mono hbel11.size)
        go_wp2_with fail
        refine (orderNil_levels 7 _).mono ?_
        rintro e w' ⟨rfl, rfl⟩
        go_wp2_with fail
        go_ret
        exact ⟨rfl, hbel12⟩
      · have hlno : l < 0 ∨ (n : Int) - 1 ≤ l := by omega
        clear hl
        go_enter Try.func6, Try.ntmps6
        go_wp2_with fail
        refine (aliveO_any _).mono ?_
        rintro e w1 ⟨rfl, hb1⟩
        have ha1 := ha.on hb1
        go_wp2_with fail
        refine (refRight_any A n c ps _ Hp.out hn ha1).mono ?_
        rintro e w' ⟨rfl, rfl⟩
        rw [decide_eq_true HP.out]
        go_wp2_with fail
        refine (orderOf_yes A n c ps _ Hp.out HP.out ha1).mono ?_
        rintro e w2 ⟨g, F, ls, rfl, hO, hI, hF, hb2⟩
        have HFt : Hid (Fits ps ls) := Lib.hid ⟨HP.out, hI⟩
        have HOx := Lib.hid hO
        have HFb : Hid (∀ k ∈ F, w.heap.size ≤ k) := Lib.hid (fun k hk => Nat.le_trans hb1.size (hF k hk))
        have hbelx := hb1.trans (hb2.mono hb1.size)
        clear hO hI hF hb1 hb2 ha1 ha
        go_wp2_with fail
        refine (size_any (n : Int) _ (by omega)).mono ?_
        rintro e w' ⟨rfl, rfl⟩
        rw [Int.toNat_natCast]
        go_wp2_with fail
        refine (orderDown_i F g ps ls x _ HOx.out HFt.out hx0 (by rw [Hp.out]; exact hx1)).mono ?_
        rintro e w3 ⟨rfl, hb3⟩
        have HO3 := Lib.hid (HOx.out.on hb3)
        have hbel3 := hbelx.trans (hb3.mono hbelx.size)
        have hrl := rdown_lt x.toNat ps
        rw [Hp.out] at hrl
        have HB1 : Hid (upM ps n (rdown x.toNat ps) = x.toNat) := Lib.hid (by
          have := up_rdown HP.out x.toNat (by rw [Hp.out]; unfold pow2 at hx1; omega)
          rw [Hp.out] at this
          exact this)
        generalize hD : rdown x.toNat ps = D at *
        have HD := Lib.hid hD
        clear hb3 hbelx HOx hD
        go_wp2_with fail
        refine (orderUp_i F g ps ls (D : Int) _ HO3.out HFt.out (by omega) (by rw [Hp.out]; omega)).mono ?_
        rintro e w4 ⟨rfl, hb4⟩
        rw [Int.toNat_natCast, Hp.out, HB1.out, Int.toNat_of_nonneg hx0]
        have HO4 := Lib.hid (HO3.out.on hb4)
        have hbel4 := hbel3.trans (hb4.mono hbel3.size)
        have hxx : (x != x) = false := by rw [bne_eq_false_iff_eq]
        clear hb4 hbel3 HO3
        go_wp2_with fail
        refine (orderUp_i F g ps ls x _ HO4.out HFt.out hx0 (by rw [Hp.out]; exact hx1)).mono ?_
        rintro e w5 ⟨rfl, hb5⟩
        rw [Hp.out]
        have HO5 := Lib.hid (HO4.out.on hb5)
        have hbel5 := hbel4.trans (hb5.mono hbel4.size)
        have hul : upM ps n x.toNat < pow2 n := by
          have := upM_lt HP.out x.toNat
          rw [Hp.out] at this
          exact this
        have HB2 : Hid (rdown (upM ps n x.toNat) ps = x.toNat) := Lib.hid (by
          have := rdown_up HP.out x.toNat (by rw [Hp.out]; unfold pow2 at hx1; omega)
          rw [Hp.out] at this
          exact this)
        generalize hU : upM ps n x.toNat = U at *
        clear hb5 hbel4 HO4 hU HD
        go_wp2_with fail
        refine (orderDown_i F g ps ls (U : Int) _ HO5.out HFt.out (by omega) (by rw [Hp.out]; omega)).mono ?_
        rintro e w6 ⟨rfl, hb6⟩
        rw [Int.toNat_natCast, HB2.out, Int.toNat_of_nonneg hx0]
        have HOx := Lib.hid (HO5.out.on hb6)
        have hbelx := hbel5.trans (hb6.mono hbel5.size)
        clear hb6 hbel5 HO5
        go_wp2_with fail
        refine (orderCopy_any F g ps ls _ (by rw [Hp.out]; omega) HOx.out).mono ?_
        rintro e w7 ⟨g7, F7, rfl, hO7, hF7, hb7⟩
        have HO7 := Lib.hid hO7
        have HOy := Lib.hid (HOx.out.on hb7)
        have hbely := hbelx.trans (hb7.mono hbelx.size)
        have HDj : Hid (∀ k ∈ F7, ¬ k ∈ F) := Lib.hid (fun k h1 h2 => by have := hF7 k h1; have := HOx.out.lt k h2; omega)
        clear hO7 hF7 hb7 hbelx HOx
        go_wp2_with fail
        refine (orderSwap_no F g ps ls l _ HOy.out (by rw [Hp.out]; exact hlno)).mono ?_
        rintro e w' ⟨rfl, rfl⟩
        go_wp2_with fail
        refine (orderSwap_no F g ps ls l _ HOy.out (by rw [Hp.out]; exact hlno)).mono ?_
        rintro e w' ⟨rfl, rfl⟩
        have HO9 := HOy
        have HO79 := HO7
        have hbel9 := hbely
        go_wp2_with fail
        refine (orderSame_any F F7 g g7 ps _ ps _ _ HO9.out HO79.out).mono ?_
        rintro e w10 ⟨rfl, k10, rfl⟩
        rw [decide_eq_true rfl]
        go_wp2_with fail
        refine (orderNil_vars _).mono ?_
        rintro e w' ⟨rfl, rfl⟩
        go_wp2_with fail
        refine (orderNil_var _ l).mono ?_
        rintro e w' ⟨rfl, rfl⟩
        go_wp2_with fail
        refine (orderNil_level _ l).mono ?_
        rintro e w' ⟨rfl, rfl⟩
        go_wp2_with fail
        refine (orderNil_perm _).mono ?_
        rintro e w' ⟨rfl, rfl⟩
        go_wp2_with fail
        refine (orderNil_copy _).mono ?_
        rintro e w' ⟨rfl, rfl⟩
        go_wp2_with fail
        refine (orderSame_nil3 _).mono ?_
        rintro e w' ⟨rfl, rfl⟩
        go_wp2_with fail
        refine (orderSame_nil2 _ _).mono ?_
        rintro e w' ⟨rfl, rfl⟩
        go_wp2_with fail
        refine (orderNil_swap l _).mono ?_
        rintro e w' ⟨rfl, rfl⟩
        go_wp2_with fail
        refine (orderNil_down x _).mono ?_
        rintro e w11 ⟨rfl, hb11⟩
        have hbel11 := (below_drewN hbel9 k10).trans (hb11.mono hbel9.size)
        go_wp2_with fail
        refine (orderNil_up x _).mono ?_
        rintro e w12 ⟨rfl, hb12⟩
        have hbel12 := hbel11.trans (hb12.mono hbel11.size)
        go_wp2_with fail
        refine (orderNil_levels 7 _).mono ?_
        rintro e w' ⟨rfl, rfl⟩
        go_wp2_with fail
        go_ret
        exact ⟨rfl, hbel12⟩
    · by_cases hl : 0 ≤ l ∧ l + 1 < (n : Int)
      · obtain ⟨hl0, hl1⟩ := hl
        go_enter Try.func6, Try.ntmps6
        go_wp2_with fail
        refine (aliveO_any _).mono ?_
        rintro e w1 ⟨rfl, hb1⟩
        have ha1 := ha.on hb1
        go_wp2_with fail
        refine (refRight_any A n c ps _ Hp.out hn ha1).mono ?_
        rintro e w' ⟨rfl, rfl⟩
        rw [decide_eq_true HP.out]
        go_wp2_with fail
        refine (orderOf_yes A n c ps _ Hp.out HP.out ha1).mono ?_
        rintro e w2 ⟨g, F, ls, rfl, hO, hI, hF, hb2⟩
        have HFt : Hid (Fits ps ls) := Lib.hid ⟨HP.out, hI⟩
        have HOx := Lib.hid hO
        have HFb : Hid (∀ k ∈ F, w.heap.size ≤ k) := Lib.hid (fun k hk => Nat.le_trans hb1.size (hF k hk))
        have hbelx := hb1.trans (hb2.mono hb1.size)
        clear hO hI hF hb1 hb2 ha1 ha
        go_wp2_with fail
        refine (size_any (n : Int) _ (by omega)).mono ?_
        rintro e w' ⟨rfl, rfl⟩
        rw [Int.toNat_natCast]
        go_wp2_with fail
        refine (orderCopy_any F g ps ls _ (by rw [Hp.out]; omega) HOx.out).mono ?_
        rintro e w7 ⟨g7, F7, rfl, hO7, hF7, hb7⟩
        have HO7 := Lib.hid hO7
        have HOy := Lib.hid (HOx.out.on hb7)
        have hbely := hbelx.trans (hb7.mono hbelx.size)
        have HDj : Hid (∀ k ∈ F7, ¬ k ∈ F) := Lib.hid (fun k h1 h2 => by have := hF7 k h1; have := HOx.out.lt k h2; omega)
        clear hO7 hF7 hb7 hbelx HOx
        go_wp2_with fail
        refine (orderSwap_yes F g ps ls l _ HOy.out HFt.out.perm HFt.out.inv hl0 (by rw [Hp.out]; exact hl1)).mono ?_
        rintro e w8 ⟨ms, rfl, hO8, hI8, hch8⟩
        have HO8 := Lib.hid hO8
        have HI8 := Lib.hid hI8
        have HP8 : Hid (IsPerm (swapL ps l.toNat)) := Lib.hid (HFt.out.perm.swap (by rw [Hp.out]; omega))
        have HO78 := Lib.hid (HO7.out.chg hch8 HDj.out)
        have hbel8 := hbely.trans (hch8.below hbely.size HFb.out)
        clear hO8 hI8 hch8 hbely HOy HO7
        go_wp2_with fail
        refine (orderSwap_yes F g (swapL ps l.toNat) ms l _ HO8.out HP8.out HI8.out hl0 (by rw [swapL_length, Hp.out]; exact hl1)).mono ?_
        rintro e w9 ⟨ms2, rfl, hO9, hI9, hch9⟩
        rw [swapL_swapL (by rw [Hp.out]; omega)] at hO9
        have HO9 := Lib.hid hO9
        have HO79 := Lib.hid (HO78.out.chg hch9 HDj.out)
        have hbel9 := hbel8.trans (hch9.below hbel8.size HFb.out)
        clear hO9 hI9 hch9 hbel8
        go_wp2_with fail
        refine (orderSame_any F F7 g g7 ps _ ps _ _ HO9.out HO79.out).mono ?_
        rintro e w10 ⟨rfl, k10, rfl⟩
        rw [decide_eq_true rfl]
        go_wp2_with fail
        refine (orderNil_vars _).mono ?_
        rintro e w' ⟨rfl, rfl⟩
        go_wp2_with fail
        refine (orderNil_var _ l).mono ?_
        rintro e w' ⟨rfl, rfl⟩
        go_wp2_with fail
        refine (orderNil_level _ l).mono ?_
        rintro e w' ⟨rfl, rfl⟩
        go_wp2_with fail
        refine (orderNil_perm _).mono ?_
        rintro e w' ⟨rfl, rfl⟩
        go_wp2_with fail
        refine (orderNil_copy _).mono ?_
        rintro e w' ⟨rfl, rfl⟩
        go_wp2_with fail
        refine (orderSame_nil3 _).mono ?_
        rintro e w' ⟨rfl, rfl⟩
        go_wp2_with fail
        refine (orderSame_nil2 _ _).mono ?_
        rintro e w' ⟨rfl, rfl⟩
        go_wp2_with fail
        refine (orderNil_swap l _).mono ?_
        rintro e w' ⟨rfl, rfl⟩
        go_wp2_with fail
        refine (orderNil_down x _).mono ?_
        rintro e w11 ⟨rfl, hb11⟩
        have hbel11 := (below_drewN hbel9 k10).trans (hb11.mono hbel9.size)
        go_wp2_with fail
        refine (orderNil_up x _).mono ?_
        rintro e w12 ⟨rfl, hb12⟩
        have hbel12 := hbel11.trans (hb12.mono hbel11.size)
        go_wp2_with fail
        refine (orderNil_levels 7 _).mono ?_
        rintro e w' ⟨rfl, rfl⟩
        go_wp2_with fail
        go_ret
        exact ⟨rfl, hbel12⟩
      · have hlno : l < 0 ∨ (n : Int) - 1 ≤ l := by omega
        clear hl
        go_enter Try.func6, Try.ntmps6
        go_wp2_with fail
        refine (aliveO_any _).mono ?_
        rintro e w1 ⟨rfl, hb1⟩
        have ha1 := ha.on hb1
        go_wp2_with fail
        refine (refRight_any A n c ps _ Hp.out hn ha1).mono ?_
        rintro e w' ⟨rfl, rfl⟩
        rw [decide_eq_true HP.out]
        go_wp2_with fail
        refine (orderOf_yes A n c ps _ Hp.out HP.out ha1).mono ?_
        rintro e w2 ⟨g, F, ls, rfl, hO, hI, hF, hb2⟩
        have HFt : Hid (Fits ps ls) := Lib.hid ⟨HP.out, hI⟩
        have HOx := Lib.hid hO
        have HFb : Hid (∀ k ∈ F, w.heap.size ≤ k) := Lib.hid (fun k hk => Nat.le_trans hb1.size (hF k hk))
        have hbelx := hb1.trans (hb2.mono hb1.size)
        clear hO hI hF hb1 hb2 ha1 ha
        go_wp2_with fail
        refine (size_any (n : Int) _ (by omega)).mono ?_
        rintro e w' ⟨rfl, rfl⟩
        rw [Int.toNat_natCast]
        go_wp2_with fail
        refine (orderCopy_any F g ps ls _ (by rw [Hp.out]; omega) HOx.out).mono ?_
        rintro e w7 ⟨g7, F7, rfl, hO7, hF7, hb7⟩
        have HO7 := Lib.hid hO7
        have HOy := Lib.hid (HOx.out.on hb7)
        have hbely := hbelx.trans (hb7.mono hbelx.size)
        have HDj : Hid (∀ k ∈ F7, ¬ k ∈ F) := Lib.hid (fun k h1 h2 => by have := hF7 k h1; have := HOx.out.lt k h2; omega)
        clear hO7 hF7 hb7 hbelx HOx
        go_wp2_with fail
        refine (orderSwap_no F g ps ls l _ HOy.out (by rw [Hp.out]; exact hlno)).mono ?_
        rintro e w' ⟨rfl, rfl⟩
        go_wp2_with fail
        refine (orderSwap_no F g ps ls l _ HOy.out (by rw [Hp.out]; exact hlno)).mono ?_
        rintro e w' ⟨rfl, rfl⟩
        have HO9 := HOy
        have HO79 := HO7
        have hbel9 := hbely
        go_wp2_with fail
        refine (orderSame_any F F7 g g7 ps _ ps _ _ HO9.out HO79.out).mono ?_
        rintro e w10 ⟨rfl, k10, rfl⟩
        rw [decide_eq_true rfl]
        go_wp2_with fail
        refine (orderNil_vars _).mono ?_
        rintro e w' ⟨rfl, rfl⟩
        go_wp2_with fail
        refine (orderNil_var _ l).mono ?_
        rintro e w' ⟨rfl, rfl⟩
        go_wp2_with fail
        refine (orderNil_level _ l).mono ?_
        rintro e w' ⟨rfl, rfl⟩
        go_wp2_with fail
        refine (orderNil_perm _).mono ?_
        rintro e w' ⟨rfl, rfl⟩
        go_wp2_with fail
        refine (orderNil_copy _).mono ?_
        rintro e w' ⟨rfl, rfl⟩
        go_wp2_with fail
        refine (orderSame_nil3 _).mono ?_
        rintro e w' ⟨rfl, rfl⟩
        go_wp2_with fail
        refine (orderSame_nil2 _ _).mono ?_
        rintro e w' ⟨rfl, rfl⟩
        go_wp2_with fail
        refine (orderNil_swap l _).mono ?_
        rintro e w' ⟨rfl, rfl⟩
        go_wp2_with fail
        refine (orderNil_down x _).mono ?_
        rintro e w11 ⟨rfl, hb11⟩
        have hbel11 := (below_drewN hbel9 k10).trans (hb11.mono hbel9.size)
        go_wp2_with fail
        refine (orderNil_up x _).mono ?_
        rintro e w12 ⟨rfl, hb12⟩
        have hbel12 := hbel11.trans (hb12.mono hbel11.size)
        go_wp2_with fail
        refine (orderNil_levels 7 _).mono ?_
        rintro e w' ⟨rfl, rfl⟩
        go_wp2_with fail
        go_ret
        exact ⟨rfl, hbel12⟩
  · by_cases hl : 0 ≤ l ∧ l + 1 < (n : Int)
    · obtain ⟨hl0, hl1⟩ := hl
      go_enter Try.func6, Try.ntmps6
      go_wp2_with fail
      refine (aliveO_any _).mono ?_
      rintro e w1 ⟨rfl, hb1⟩
      have ha1 := ha.on hb1
      go_wp2_with fail
      refine (refRight_any A n c ps _ Hp.out hn ha1).mono ?_
      rintro e w' ⟨rfl, rfl⟩
      rw [decide_eq_true HP.out]
      go_wp2_with fail
      refine (orderOf_yes A n c ps _ Hp.out HP.out ha1).mono ?_
      rintro e w2 ⟨g, F, ls, rfl, hO, hI, hF, hb2⟩
      have HFt : Hid (Fits ps ls) := Lib.hid ⟨HP.out, hI⟩
      have HOx := Lib.hid hO
      have HFb : Hid (∀ k ∈ F, w.heap.size ≤ k) := Lib.hid (fun k hk => Nat.le_trans hb1.size (hF k hk))
      have hbelx := hb1.trans (hb2.mono hb1.size)
      clear hO hI hF hb1 hb2 ha1 ha
      go_wp2_with fail
      refine (orderCopy_any F g ps ls _ (by rw [Hp.out]; omega) HOx.out).mono ?_
      rintro e w7 ⟨g7, F7, rfl, hO7, hF7, hb7⟩
      have HO7 := Lib.hid hO7
      have HOy := Lib.hid (HOx.out.on hb7)
      have hbely := hbelx.trans (hb7.mono hbelx.size)
      have HDj : Hid (∀ k ∈ F7, ¬ k ∈ F) := Lib.hid (fun k h1 h2 => by have := hF7 k h1; have := HOx.out.lt k h2; omega)
      clear hO7 hF7 hb7 hbelx HOx
      go_wp2_with fail
      refine (orderSwap_yes F g ps ls l _ HOy.out HFt.out.perm HFt.out.inv hl0 (by rw [Hp.out]; exact hl1)).mono ?_
      rintro e w8 ⟨ms, rfl, hO8, hI8, hch8⟩
      have HO8 := Lib.hid hO8
      have HI8 := Lib.hid hI8
      have HP8 : Hid (IsPerm (swapL ps l.toNat)) := Lib.hid (HFt.out.perm.swap (by rw [Hp.out]; omega))
      have HO78 := Lib.hid (HO7.out.chg hch8 HDj.out)
      have hbel8 := hbely.trans (hch8.below hbely.size HFb.out)
      clear hO8 hI8 hch8 hbely HOy HO7
      go_wp2_with fail
      refine (orderSwap_yes F g (swapL ps l.toNat) ms l _ HO8.out HP8.out HI8.out hl0 (by rw [swapL_length, Hp.out]; exact hl1)).mono ?_
      rintro e w9 ⟨ms2, rfl, hO9, hI9, hch9⟩
      rw [swapL_swapL (by rw [Hp.out]; omega)] at hO9
      have HO9 := Lib.hid hO9
      have HO79 := Lib.hid (HO78.out.chg hch9 HDj.out)
      have hbel9 := hbel8.trans (hch9.below hbel8.size HFb.out)
      clear hO9 hI9 hch9 hbel8
      go_wp2_with fail
      refine (orderSame_any F F7 g g7 ps _ ps _ _ HO9.out HO79.out).mono ?_
      rintro e w10 ⟨rfl, k10, rfl⟩
      rw [decide_eq_true rfl]
      go_wp2_with fail
      refine (orderNil_vars _).mono ?_
      rintro e w' ⟨rfl, rfl⟩
      go_wp2_with fail
      refine (orderNil_var _ l).mono ?_
      rintro e w' ⟨rfl, rfl⟩
      go_wp2_with fail
      refine (orderNil_level _ l).mono ?_
      rintro e w' ⟨rfl, rfl⟩
      go_wp2_with fail
      refine (orderNil_perm _).mono ?_
      rintro e w' ⟨rfl, rfl⟩
      go_wp2_with fail
      refine (orderNil_copy _).mono ?_
      rintro e w' ⟨rfl, rfl⟩
      go_wp2_with fail
      refine (orderSame_nil3 _).mono ?_
      rintro e w' ⟨rfl, rfl⟩
      go_wp2_with fail
      refine (orderSame_nil2 _ _).mono ?_
      rintro e w' ⟨rfl, rfl⟩
      go_wp2_with fail
      refine (orderNil_swap l _).mono ?_
      rintro e w' ⟨rfl, rfl⟩
      go_wp2_with fail
      refine (orderNil_down x _).mono ?_
      rintro e w11 ⟨rfl, hb11⟩
      have hbel11 := (below_drewN hbel9 k10).trans (hb11.mono hbel9.size)
      go_wp2_with fail
      refine (orderNil_up x _).mono ?_
      rintro e w12 ⟨rfl, hb12⟩
      have hbel12 := hbel11.trans (hb12.mono hbel11.size)
      go_wp2_with fail
      refine (orderNil_levels 7 _).mono ?_
      rintro e w' ⟨rfl, rfl⟩
      go_wp2_with fail
      go_ret
      exact ⟨rfl, hbel12⟩
    · have hlno : l < 0 ∨ (n : Int) - 1 ≤ l := by omega
      clear hl
      go_enter Try.func6, Try.ntmps6
      go_wp2_with fail
      refine (aliveO_any _).mono ?_
      rintro e w1 ⟨rfl, hb1⟩
      have ha1 := ha.on hb1
      go_wp2_with fail
      refine (refRight_any A n c ps _ Hp.out hn ha1).mono ?_
      rintro e w' ⟨rfl, rfl⟩
      rw [decide_eq_true HP.out]
      go_wp2_with fail
      refine (orderOf_yes A n c ps _ Hp.out HP.out ha1).mono ?_
      rintro e w2 ⟨g, F, ls, rfl, hO, hI, hF, hb2⟩
      have HFt : Hid (Fits ps ls) := Lib.hid ⟨HP.out, hI⟩
      have HOx := Lib.hid hO
      have HFb : Hid (∀ k ∈ F, w.heap.size ≤ k) := Lib.hid (fun k hk => Nat.le_trans hb1.size (hF k hk))
      have hbelx := hb1.trans (hb2.mono hb1.size)
      clear hO hI hF hb1 hb2 ha1 ha
      go_wp2_with fail
      refine (orderCopy_any F g ps ls _ (by rw [Hp.out]; omega) HOx.out).mono ?_
      rintro e w7 ⟨g7, F7, rfl, hO7, hF7, hb7⟩
      have HO7 := Lib.hid hO7
      have HOy := Lib.hid (HOx.out.on hb7)
      have hbely := hbelx.trans (hb7.mono hbelx.size)
      have HDj : Hid (∀ k ∈ F7, ¬ k ∈ F) := Lib.hid (fun k h1 h2 => by have := hF7 k h1; have := HOx.out.lt k h2; omega)
      clear hO7 hF7 hb7 hbelx HOx
      go_wp2_with fail
      refine (orderSwap_no F g ps ls l _ HOy.out (by rw [Hp.out]; exact hlno)).mono ?_
      rintro e w' ⟨rfl, rfl⟩
      go_wp2_with fail
      refine (orderSwap_no F g ps ls l _ HOy.out (by rw [Hp.out]; exact hlno)).mono ?_
      rintro e w' ⟨rfl, rfl⟩
      have HO9 := HOy
      have HO79 := HO7
      have hbel9 := hbely
      go_wp2_with fail
      refine (orderSame_any F F7 g g7 ps _ ps _ _ HO9.out HO79.out).mono ?_
      rintro e w10 ⟨rfl, k10, rfl⟩
      rw [decide_eq_true rfl]
      go_wp2_with fail
      refine (orderNil_vars _).mono ?_
      rintro e w' ⟨rfl, rfl⟩
      go_wp2_with fail
      refine (orderNil_var _ l).mono ?_
      rintro e w' ⟨rfl, rfl⟩
      go_wp2_with fail
      refine (orderNil_level _ l).mono ?_
      rintro e w' ⟨rfl, rfl⟩
      go_wp2_with fail
      refine (orderNil_perm _).mono ?_
      rintro e w' ⟨rfl, rfl⟩
      go_wp2_with fail
      refine (orderNil_copy _).mono ?_
      rintro e w' ⟨rfl, rfl⟩
      go_wp2_with fail
      refine (orderSame_nil3 _).mono ?_
      rintro e w' ⟨rfl, rfl⟩
      go_wp2_with fail
      refine (orderSame_nil2 _ _).mono ?_
      rintro e w' ⟨rfl, rfl⟩
      go_wp2_with fail
      refine (orderNil_swap l _).mono ?_
      rintro e w' ⟨rfl, rfl⟩
      go_wp2_with fail
      refine (orderNil_down x _).mono ?_
      rintro e w11 ⟨rfl, hb11⟩
      have hbel11 := (below_drewN hbel9 k10).trans (hb11.mono hbel9.size)
      go_wp2_with fail
      refine (orderNil_up x _).mono ?_
      rintro e w12 ⟨rfl, hb12⟩
      have hbel12 := hbel11.trans (hb12.mono hbel11.size)
      go_wp2_with fail
      refine (orderNil_levels 7 _).mono ?_
      rintro e w' ⟨rfl, rfl⟩
      go_wp2_with fail
      go_ret
      exact ⟨rfl, hbel12⟩

theorem orderBack_walk (A : Option Addr) (n c : Nat) (ps : List Int) (x l : Int) (w : World) (hp : ps.length = n) (hn : n ≤ maxLen) (hlb : l ≤ 9223372036854775807) (ha : Ints w w.heap.size A ps) :
    Calls Try.prog 6 #[.slice A n c, .int .i64 x, .int .i64 l] w fun e w' => e = .returned (.bool true) ∧ Below w.heap.size w w' := by
  unfold maxLen at hn
  by_cases hP : IsPerm ps
  · exact orderBack_yes A n c ps x l w hp hn hlb ha hP
  · have Hp := Lib.hid hp
    have HP := Lib.hid hP
    clear hp hP
    go_enter Try.func6, Try.ntmps6
    go_wp2_with fail
    refine (aliveO_any _).mono ?_
    rintro e w1 ⟨rfl, hb1⟩
    have ha1 := ha.on hb1
    go_wp2_with fail
    refine (refRight_any A n c ps _ Hp.out hn ha1).mono ?_
    rintro e w' ⟨rfl, rfl⟩
    rw [decide_eq_false HP.out]
    go_wp2_with fail
    go_ret
    exact ⟨rfl, hb1⟩
end Go.Proofs.Ytomibgonhdkhdaa
