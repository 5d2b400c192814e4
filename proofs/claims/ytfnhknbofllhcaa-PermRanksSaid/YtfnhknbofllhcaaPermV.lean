/- Contracts: perm.Then, perm.Inverse, ramageref02.Pairs, perm.Rank. -/
import Derived.Test.YtfnhknbofllhcaaInv
namespace Go.Proofs.Ytfnhknbofllhcaa
open Go.RowKit
set_option linter.unusedSimpArgs false
set_option linter.unusedVariables false

/-- one behind the other -/
def thenL (ps qs : List Int) : List Int := ps.map fun z => qs[z.toNat]?.getD 0
theorem thenL_length (ps qs : List Int) : (thenL ps qs).length = ps.length := by simp [thenL]
theorem thenL_get (ps qs : List Int) (k : Nat) (h : k < ps.length) : (thenL ps qs)[k]?.getD 0 = qs[(ps[k]?.getD 0).toNat]?.getD 0 := by
  unfold thenL
  rw [List.getElem?_map, List.getElem?_eq_getElem h]; rfl
/-- the first k of thenL, zeros behind -/
def thenTo (ps qs : List Int) (k : Nat) : List Int := (thenL ps qs).take k ++ List.replicate (ps.length - k) 0
theorem thenTo_length (ps qs : List Int) (k : Nat) (h : k ≤ ps.length) : (thenTo ps qs k).length = ps.length := by
  unfold thenTo
  rw [List.length_append, List.length_take, thenL_length, List.length_replicate]; omega
theorem thenTo_set (ps qs : List Int) (k : Nat) (h : k < ps.length) : (thenTo ps qs k).set k ((thenL ps qs)[k]?.getD 0) = thenTo ps qs (k + 1) := by
  unfold thenTo
  have h1 : ((thenL ps qs).take k).length = k := by rw [List.length_take, thenL_length]; omega
  rw [List.set_append_right _ _ (by rw [h1]; exact Nat.le_refl _), h1, Nat.sub_self, take_succ_getD _ _ (by rw [thenL_length]; exact h), show ps.length - k = (ps.length - (k + 1)) + 1 by omega, List.replicate_succ]
  simp
theorem thenTo_all (ps qs : List Int) : thenTo ps qs ps.length = thenL ps qs := by
  unfold thenTo
  rw [Nat.sub_self, List.replicate_zero, List.append_nil, List.take_of_length_le (by rw [thenL_length]; exact Nat.le_refl _)]

set_option maxHeartbeats 1000000 in
theorem then_yes (A B : Option Addr) (n c d : Nat) (ps qs : List Int) (w : World) (hp : ps.length = n) (hq : qs.length = n) (hP : IsPerm ps) (hQ : IsPerm qs) (ha : Ints w w.heap.size A ps) (hb : Ints w w.heap.size B qs) :
    Calls Try.prog 21 #[.slice A n c, .slice B n d] w fun e w' => ∃ v, e = .returned (.tuple #[v, .bool true]) ∧ OwnI w' w.heap.size v (thenL ps qs) ∧ Below w.heap.size w w' := by
  obtain ⟨i0, hi, hz0, hz1, hz2⟩ := info_parts info_int
  have hn16 : n ≤ 16 := by rw [← hp]; exact hP.1
  have Hp := Lib.hid hp
  have Hq := Lib.hid hq
  have HP := Lib.hid (decide_eq_true hP)
  have HQ := Lib.hid (decide_eq_true hQ)
  have HP' := Lib.hid hP
  have hnn : ((n : Int) != (n : Int)) = false := by rw [bne_eq_false_iff_eq]
  clear hp hq hP hQ
  go_enter Try.func21, Try.ntmps21
  go_wp2_with fail
  refine (right_any A n c ps _ Hp.out (by omega) ha).mono ?_
  rintro e w' ⟨rfl, rfl⟩
  rw [HP.out]
  go_wp2_with fail
  refine (right_any B n d qs _ Hq.out (by omega) hb).mono ?_
  rintro e w' ⟨rfl, rfl⟩
  rw [HQ.out]
  go_wp2_with (at_make; refine wp_make (f := Value.int .i64) Try.underlying22 hi hz0 hz1 hz2 rfl _ rfl _ _ rfl (n : Int) n rfl rfl rfl (by omega) (by unfold maxLen; omega) ?_; intro w1 hown1 hb1 hs1)
  have ha1 := ha.below' hb1
  have hb1' := hb.below' hb1
  go_loopw [7, 8, 29] (fun _ _ i wr => ∃ k : Nat, k ≤ n ∧ i = .int .i64 k ∧ OwnI wr w.heap.size (.slice (some ⟨w.heap.size, 0, none⟩) n n) (thenTo ps qs k) ∧ Below w.heap.size w1 wr) (fun _ _ i _ => n - (intOf i).toNat)
  case atStart => exact ⟨0, Nat.zero_le _, rfl, by unfold thenTo; rw [Hp.out]; exact hown1, Below.refl _ _⟩
  case round =>
    obtain ⟨k, hk, rfl, hown, hbw⟩ := hrel
    by_cases hlt : k < n
    · obtain ⟨ba, oa, rfl, hba, hca⟩ := ha1 (by rw [Hp.out]; omega)
      obtain ⟨bb, bo, rfl, hbb, hcb⟩ := hb1' (by rw [Hq.out]; omega)
      have hx := HP'.out.get (k := k) (by rw [Hp.out]; exact hlt)
      rw [Hp.out] at hx
      have hck := (hbw.cell (p := ⟨ba, oa + k, none⟩) hba).trans (hca k (by rw [Hp.out]; exact hlt))
      have hg0 := thenL_get ps qs k (by rw [Hp.out]; exact hlt)
      generalize hxe : ps[k]?.getD 0 = x at *
      clear hxe
      obtain ⟨hx0, hx1⟩ := hx
      have hcx := (hbw.cell (p := ⟨bb, bo + x.toNat, none⟩) hbb).trans (hcb x.toNat (by rw [Hq.out]; omega))
      have hg := OwnF.at_ hown k (by rw [thenTo_length _ _ _ (by rw [Hp.out]; exact hk), Hp.out]; exact hlt)
      have hc : ∃ u, wr.cell? ⟨w.heap.size, k, none⟩ = some u := by
        rw [hg.1, List.getElem?_eq_getElem (by rw [thenTo_length _ _ _ (by rw [Hp.out]; exact hk), Hp.out]; exact hlt)]
        exact ⟨_, rfl⟩
      obtain ⟨u, hc⟩ := hc
      have hf := hg.2
      have hst := OwnF.set_ hown k (qs[x.toNat]?.getD 0)
      rw [← hg0, thenTo_set ps qs k (by rw [Hp.out]; exact hlt), hg0] at hst
      have hbs := hbw.setCell (p := ⟨w.heap.size, k, none⟩) (Nat.le_refl _) (.int .i64 (qs[x.toNat]?.getD 0))
      clear hg hown hown1 hg0 hca hcb
      go_wp2
      go_roundw
      case rel => exact ⟨k + 1, by omega, by go_num, hst, hbs⟩
      case measure => simp [intOf]; omega
    · have hkn : k = n := by omega
      rw [show thenTo ps qs k = thenL ps qs by rw [hkn, ← Hp.out]; exact thenTo_all ps qs] at hown
      have hown' := Lib.hid hown
      clear hown hkn hown1
      go_wp2
      go_ret2
      exact ⟨_, rfl, hown'.out, hb1.trans hbw⟩

theorem then_no (A B : Option Addr) (n m c d : Nat) (ps qs : List Int) (w : World) (hp : ps.length = n) (hq : qs.length = m) (hn : n ≤ 9223372036854775807) (hm : m ≤ 9223372036854775807) (ha : Ints w w.heap.size A ps) (hb : Ints w w.heap.size B qs) (hno : ¬ (IsPerm ps ∧ IsPerm qs ∧ n = m)) :
    Calls Try.prog 21 #[.slice A n c, .slice B m d] w fun e w' => e = .returned (.tuple #[.slice none 0 0, .bool false]) ∧ w = w' := by
  have Hp := Lib.hid hp
  have Hq := Lib.hid hq
  clear hp hq
  by_cases hP : IsPerm ps
  · have HP := Lib.hid (decide_eq_true hP)
    by_cases hQ : IsPerm qs
    · have HQ := Lib.hid (decide_eq_true hQ)
      have hnm : ((n : Int) != (m : Int)) = true := by
        rw [bne_iff_ne]
        intro h
        exact hno ⟨hP, hQ, by omega⟩
      clear hP hQ hno
      go_enter Try.func21, Try.ntmps21
      go_wp2_with fail
      refine (right_any A n c ps _ Hp.out (by omega) ha).mono ?_
      rintro e w' ⟨rfl, rfl⟩
      rw [HP.out]
      go_wp2_with fail
      refine (right_any B m d qs _ Hq.out (by omega) hb).mono ?_
      rintro e w' ⟨rfl, rfl⟩
      rw [HQ.out]
      go_wp2_with fail
      go_ret2
      exact ⟨rfl, rfl⟩
    · have HQ := Lib.hid (decide_eq_false hQ)
      clear hP hQ hno
      go_enter Try.func21, Try.ntmps21
      go_wp2_with fail
      refine (right_any A n c ps _ Hp.out (by omega) ha).mono ?_
      rintro e w' ⟨rfl, rfl⟩
      rw [HP.out]
      go_wp2_with fail
      refine (right_any B m d qs _ Hq.out (by omega) hb).mono ?_
      rintro e w' ⟨rfl, rfl⟩
      rw [HQ.out]
      go_wp2_with fail
      go_ret2
      exact ⟨rfl, rfl⟩
  · have HP := Lib.hid (decide_eq_false hP)
    clear hP hno
    go_enter Try.func21, Try.ntmps21
    go_wp2_with fail
    refine (right_any A n c ps _ Hp.out (by omega) ha).mono ?_
    rintro e w' ⟨rfl, rfl⟩
    rw [HP.out]
    go_wp2_with fail
    go_ret2
    exact ⟨rfl, rfl⟩

/-- back -/
def InvOf (ps L : List Int) : Prop := L.length = ps.length ∧ ∀ i : Nat, i < ps.length → L[(ps[i]?.getD 0).toNat]?.getD 0 = (i : Int)

set_option maxHeartbeats 1000000 in
theorem inverse_yes (A : Option Addr) (n c : Nat) (ps : List Int) (w : World) (hp : ps.length = n) (hP : IsPerm ps) (ha : Ints w w.heap.size A ps) :
    Calls Try.prog 23 #[.slice A n c] w fun e w' => ∃ L, e = .returned (.tuple #[.slice (some ⟨w.heap.size, 0, none⟩) n n, .bool true]) ∧ OwnI w' w.heap.size (.slice (some ⟨w.heap.size, 0, none⟩) n n) L ∧ InvOf ps L ∧ Below w.heap.size w w' := by
  obtain ⟨i0, hi, hz0, hz1, hz2⟩ := info_parts info_int
  have hn16 : n ≤ 16 := by rw [← hp]; exact hP.1
  have Hp := Lib.hid hp
  have HP := Lib.hid (decide_eq_true hP)
  have HP' := Lib.hid hP
  clear hp hP
  go_enter Try.func23, Try.ntmps23
  go_wp2_with fail
  refine (right_any A n c ps _ Hp.out (by omega) ha).mono ?_
  rintro e w' ⟨rfl, rfl⟩
  rw [HP.out]
  go_wp2_with (at_make; refine wp_make (f := Value.int .i64) Try.underlying22 hi hz0 hz1 hz2 rfl _ rfl _ _ rfl (n : Int) n rfl rfl rfl (by omega) (by unfold maxLen; omega) ?_; intro w1 hown1 hb1 hs1)
  have ha1 := ha.below' hb1
  go_loopw [5, 6, 15] (fun _ _ i wr => ∃ (k : Nat) (L : List Int), k ≤ n ∧ i = .int .i64 k ∧ OwnI wr w.heap.size (.slice (some ⟨w.heap.size, 0, none⟩) n n) L ∧ L.length = n ∧ (∀ i : Nat, i < k → L[(ps[i]?.getD 0).toNat]?.getD 0 = (i : Int)) ∧ Below w.heap.size w1 wr) (fun _ _ i _ => n - (intOf i).toNat)
  case atStart => exact ⟨0, List.replicate n 0, Nat.zero_le _, rfl, hown1, by simp, by omega, Below.refl _ _⟩
  case round =>
    obtain ⟨k, L, hk, rfl, hown, hL, hLi, hbw⟩ := hrel
    have HL := Lib.hid hL
    have HLi := Lib.hid hLi
    clear hL hLi
    by_cases hlt : k < n
    · obtain ⟨ba, oa, rfl, hba, hca⟩ := ha1 (by rw [Hp.out]; omega)
      have hx := HP'.out.get (k := k) (by rw [Hp.out]; exact hlt)
      rw [Hp.out] at hx
      have hck := (hbw.cell (p := ⟨ba, oa + k, none⟩) hba).trans (hca k (by rw [Hp.out]; exact hlt))
      have HX : Hid (ps[k]?.getD 0 = ps[k]?.getD 0) := Lib.hid rfl
      generalize hxe : ps[k]?.getD 0 = x at hck hx HX
      have HXE := Lib.hid hxe
      clear hxe HX
      obtain ⟨hx0, hx1⟩ := hx
      have hg := OwnF.at_ hown x.toNat (by rw [HL.out]; omega)
      have hc : ∃ u, wr.cell? ⟨w.heap.size, x.toNat, none⟩ = some u := by
        rw [hg.1, List.getElem?_eq_getElem (by rw [HL.out]; omega)]
        exact ⟨_, rfl⟩
      obtain ⟨u, hc⟩ := hc
      have hf := hg.2
      have hst := OwnF.set_ hown x.toNat (k : Int)
      have hbs := hbw.setCell (p := ⟨w.heap.size, x.toNat, none⟩) (Nat.le_refl _) (.int .i64 (k : Int))
      clear hg hown hown1 hca
      go_wp2
      go_roundw
      case rel => exact ⟨k + 1, L.set x.toNat (k : Int), by omega, by go_num, hst, by rw [List.length_set]; exact HL.out, fun i hi => by
          rcases Nat.lt_succ_iff_lt_or_eq.1 hi with h | h
          · have h1 := HP'.out.get (k := i) (by rw [Hp.out]; omega)
            have hne : x.toNat ≠ (ps[i]?.getD 0).toNat := by
              intro e
              have := HP'.out.inj (i := i) (j := k) (by rw [Hp.out]; omega) (by rw [Hp.out]; omega) (by rw [HXE.out]; omega)
              omega
            rw [List.getElem?_set_ne hne]
            exact HLi.out i h
          · subst h
            rw [HXE.out, List.getElem?_set_self (by rw [HL.out]; omega)]; rfl, hbs⟩
      case measure => simp [intOf]; omega
    · have hkn : k = n := by omega
      have HI : Hid (InvOf ps L) := Lib.hid ⟨by rw [HL.out, Hp.out], fun i hi => HLi.out i (by rw [Hp.out] at hi; omega)⟩
      clear hkn hown1
      go_wp2
      go_ret2
      exact ⟨L, rfl, hown, HI.out, hb1.trans hbw⟩

theorem inverse_no (A : Option Addr) (n c : Nat) (ps : List Int) (w : World) (hp : ps.length = n) (hn : n ≤ 9223372036854775807) (ha : Ints w w.heap.size A ps) (hno : ¬ IsPerm ps) :
    Calls Try.prog 23 #[.slice A n c] w fun e w' => e = .returned (.tuple #[.slice none 0 0, .bool false]) ∧ w = w' := by
  have Hp := Lib.hid hp
  have HP := Lib.hid (decide_eq_false hno)
  clear hp hno
  go_enter Try.func23, Try.ntmps23
  go_wp2_with fail
  refine (right_any A n c ps _ Hp.out hn ha).mono ?_
  rintro e w' ⟨rfl, rfl⟩
  rw [HP.out]
  go_wp2_with fail
  go_ret2
  exact ⟨rfl, rfl⟩

set_option maxHeartbeats 1000000 in
theorem pairs_any (A : Option Addr) (n c : Nat) (zs : List Int) (w : World) (hz : zs.length = n) (hn : n ≤ 100000) (hr : Ints w w.heap.size A zs) :
    Calls Try.prog 27 #[.slice A n c] w fun e w' => e = .returned (.int .i64 (inv zs : Nat)) ∧ ∃ k, w' = w.drewN k := by
  have Hz := Lib.hid hz
  have hb0 : ∀ m, m ≤ n → pairsTo zs m ≤ m * 100000 := by
    intro m
    induction m with
    | zero => intro _; exact Nat.le_refl _
    | succ m ih =>
      intro h
      have h1 := ih (by omega)
      have h2 : (zs.take m).countP (fun y => decide (zs[m]?.getD 0 < y)) ≤ m := Nat.le_trans List.countP_le_length (List.length_take_le _ _)
      simp only [pairsTo]; omega
  have HB := Lib.hid hb0
  clear hz hb0
  go_enter Try.func27, Try.ntmps27
  go_wp2
  go_loopw [3, 4, 5] (fun q i _ wr => ∃ k t : Nat, k ≤ n ∧ i = .int .i64 k ∧ q = .int .i64 (pairsTo zs k : Nat) ∧ wr = w.drewN t) (fun _ i _ _ => n - (intOf i).toNat)
  case atStart => exact ⟨0, 0, Nat.zero_le _, rfl, rfl, rfl⟩
  case round =>
    obtain ⟨k, t, hk, rfl, rfl, rfl⟩ := hrel
    have hbk := HB.out k hk
    by_cases hlt : k < n
    · obtain ⟨b, off, rfl, hb, hc⟩ := hr (by rw [Hz.out]; omega)
      have HC := Lib.hid hc
      have hck := hc k (by rw [Hz.out]; exact hlt)
      clear hc
      go_wp2
      go_loopw [3, 5] (fun q i wr => ∃ j t : Nat, j ≤ k ∧ i = .int .i64 j ∧ q = .int .i64 ((pairsTo zs k + (zs.take j).countP (fun y => decide (zs[k]?.getD 0 < y)) : Nat) : Int) ∧ wr = w.drewN t) (fun _ i _ => k - (intOf i).toNat)
      case atStart => exact ⟨0, t, Nat.zero_le _, rfl, by simp, rfl⟩
      case round =>
        obtain ⟨j, t2, hj, rfl, rfl, rfl⟩ := hrel
        have hcj : (zs.take j).countP (fun y => decide (zs[k]?.getD 0 < y)) ≤ j := Nat.le_trans List.countP_le_length (List.length_take_le _ _)
        by_cases hjl : j < k
        · have hcjj := HC.out j (by rw [Hz.out]; omega)
          have hs : (zs.take (j + 1)).countP (fun y => decide (zs[k]?.getD 0 < y)) = (zs.take j).countP (fun y => decide (zs[k]?.getD 0 < y)) + if zs[k]?.getD 0 < zs[j]?.getD 0 then 1 else 0 := by
            rw [take_succ_getD zs j (by rw [Hz.out]; omega), List.countP_append, List.countP_singleton]
            simp
          have HS := Lib.hid hs
          clear hs
          generalize (zs.take j).countP (fun y => decide (zs[k]?.getD 0 < y)) = cj at *
          generalize hP : pairsTo zs k = pk at *
          have hpk : (0 : Int) ≤ ((pk + cj : Nat) : Int) := by omega
          have hpk2 : ((pk + cj : Nat) : Int) ≤ 20000000000 := by omega
          generalize hq : ((pk + cj : Nat) : Int) = q at *
          have HQ := Lib.hid hq
          clear hq
          go_wp2
          go_quiet (fail)
          go_wp2
          · go_roundw
            case rel => exact ⟨j + 1, _, by omega, by go_num, by
              rw [HS.out, if_pos (by assumption)]
              have := HQ.out
              congr 1; omega, rfl⟩
            case measure => simp [intOf]; omega
          · go_roundw
            case rel => exact ⟨j + 1, _, by omega, by go_num, by
              rw [HS.out, if_neg (by omega)]
              have := HQ.out
              congr 1; omega, rfl⟩
            case measure => simp [intOf]; omega
        · have hjk : j = k := by omega
          have HJ := Lib.hid hjk
          clear hjk
          go_wp2
          go_roundw
          case rel => exact ⟨k + 1, _, by omega, by go_num, by rw [HJ.out]; rfl, rfl⟩
          case measure => simp [intOf]; omega
    · have hkn : k = zs.length := by rw [Hz.out]; omega
      have HR := Lib.hid (show pairsTo zs k = inv zs by rw [hkn, pairsTo_eq zs _ (Nat.le_refl _), List.take_length])
      clear hkn
      go_wp2
      go_ret
      refine ⟨?_, _, rfl⟩
      show Ending.returned (.int .i64 ((pairsTo zs k : Nat) : Int)) = _
      rw [HR.out]
end Go.Proofs.Ytfnhknbofllhcaa
