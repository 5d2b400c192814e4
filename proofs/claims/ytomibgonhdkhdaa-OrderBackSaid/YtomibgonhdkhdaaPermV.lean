/- Contracts: perm.Then, perm.Inverse, ramageref02.Pairs, perm.Rank. -/
import Derived.Test.YtomibgonhdkhdaaInv
namespace Go.Proofs.Ytomibgonhdkhdaa
open Go.RowKit
set_option linter.unusedSimpArgs false
set_option linter.unusedVariables false

/-- one behind the other -/
def thenL (ps qs : List Int) : List Int := ps.map fun z => qs[z.toNat]?.getD 0
theorem thenL_length (ps qs : List Int) : (thenL ps qs).length = ps.length := by simp [thenL]
theorem thenL_get (ps qs : List Int) (k : Nat) (h : k < ps.length) : (thenL ps qs)[k]?.getD 0 = qs[(ps[k]?.getD 0).toNat]?.getD 0 := by
  unfold thenL
  rw [List.getElem?_map, List.getElem?_eq_getElem h]; rfl
/-- the first k of thenL, zeros behind -/
def thenTo (ps qs : List Int) (k : Nat) : List Int := (thenL ps qs).take k ++ List.replicate (ps.length - k) 0
theorem thenTo_length (ps qs : List Int) (k : Nat) (h : k ≤ ps.length) : (thenTo ps qs k).length = ps.length := by
  unfold thenTo
  rw [List.length_append, List.length_take, thenL_length, List.length_replicate]; omega
theorem thenTo_set (ps qs : List Int) (k : Nat) (h : k < ps.length) : (thenTo ps qs k).set k ((thenL ps qs)[k]?.getD 0) = thenTo ps qs (k + 1) := by
  unfold thenTo
  have h1 : ((thenL ps qs).take k).length = k := by rw [List.length_take, thenL_length]; omega
  rw [List.set_append_right _ _ (by rw [h1]; exact Nat.le_refl _), h1, Nat.sub_self, take_succ_getD _ _ (by rw [thenL_length]; exact h), show ps.length - k = (ps.length - (k + 1)) + 1 by omega, List.replicate_succ]
  simp
theorem thenTo_all (ps qs : List Int) : thenTo ps qs ps.length = thenL ps qs := by
  unfold thenTo
  rw [Nat.sub_self, List.replicate_zero, List.append_nil, List.take_of_length_le (by rw [thenL_length]; exact Nat.le_refl _)]

/-- back -/
def InvOf (ps L : List Int) : Prop := L.length = ps.length ∧ ∀ i : Nat, i < ps.length → L[(ps[i]?.getD 0).toNat]?.getD 0 = (i : Int)

set_option maxHeartbeats 1000000 in
theorem inverse_yes (A : Option Addr) (n c : Nat) (ps : List Int) (w : World) (hp : ps.length = n) (hP : IsPerm ps) (ha : Ints w w.heap.size A ps) :
    Calls Try.prog 29 #[.slice A n c] w fun e w' => ∃ L, e = .returned (.tuple #[.slice (some ⟨w.heap.size, 0, none⟩) n n, .bool true]) ∧ OwnI w' w.heap.size (.slice (some ⟨w.heap.size, 0, none⟩) n n) L ∧ InvOf ps L ∧ Below w.heap.size w w' := by
  obtain ⟨i0, hi, hz0, hz1, hz2⟩ := info_parts info_int
  have hn16 : n ≤ 16 := by rw [← hp]; exact hP.1
  have Hp := Lib.hid hp
  have HP := Lib.hid (decide_eq_true hP)
  have HP' := Lib.hid hP
  clear hp hP
  go_enter Try.func29, Try.ntmps29
  go_wp2_with fail
  refine (right_any A n c ps _ Hp.out (by omega) ha).mono ?_
  rintro e w' ⟨rfl, rfl⟩
  rw [HP.out]
  go_wp2_with (at_make; refine wp_make (f := Value.int .i64) Try.underlying22 hi hz0 hz1 hz2 rfl _ rfl _ _ rfl (n : Int) n rfl rfl rfl (by omega) (by unfold maxLen; omega) ?_; intro w1 hown1 hb1 hs1)
  have ha1 := ha.below' hb1
  go_loopw [5, 6, 15] (fun _ _ i wr => ∃ (k : Nat) (L : List Int), k ≤ n ∧ i = .int .i64 k ∧ OwnI wr w.heap.size (.slice (some ⟨w.heap.size, 0, none⟩) n n) L ∧ L.length = n ∧ (∀ i : Nat, i < k → L[(ps[i]?.getD 0).toNat]?.getD 0 = (i : Int)) ∧ Below w.heap.size w1 wr) (fun _ _ i _ => n - (intOf i).toNat)
  case atStart => exact ⟨0, List.replicate n 0, Nat.zero_le _, rfl, hown1, by simp, by omega, Below.refl _ _⟩
  case round =>
    obtain ⟨k, L, hk, rfl, hown, hL, hLi, hbw⟩ := hrel
    have HL := Lib.hid hL
    have HLi := Lib.hid hLi
    clear hL hLi
    by_cases hlt : k < n
    · obtain ⟨ba, oa, rfl, hba, hca⟩ := ha1 (by rw [Hp.out]; omega)
      have hx := HP'.out.get (k := k) (by rw [Hp.out]; exact hlt)
      rw [Hp.out] at hx
      have hck := (hbw.cell (p := ⟨ba, oa + k, none⟩) hba).trans (hca k (by rw [Hp.out]; exact hlt))
      have HX : Hid (ps[k]?.getD 0 = ps[k]?.getD 0) := Lib.hid rfl
      generalize hxe : ps[k]?.getD 0 = x at hck hx HX
      have HXE := Lib.hid hxe
      clear hxe HX
      obtain ⟨hx0, hx1⟩ := hx
      have hg := OwnF.at_ hown x.toNat (by rw [HL.out]; omega)
      have hc : ∃ u, wr.cell? ⟨w.heap.size, x.toNat, none⟩ = some u := by
        rw [hg.1, List.getElem?_eq_getElem (by rw [HL.out]; omega)]
        exact ⟨_, rfl⟩
      obtain ⟨u, hc⟩ := hc
      have hf := hg.2
      have hst := OwnF.set_ hown x.toNat (k : Int)
      have hbs := hbw.setCell (p := ⟨w.heap.size, x.toNat, none⟩) (Nat.le_refl _) (.int .i64 (k : Int))
      clear hg hown hown1 hca
      go_wp2
      go_roundw
      case rel => exact ⟨k + 1, L.set x.toNat (k : Int), by omega, by go_num, hst, by rw [List.length_set]; exact HL.out, fun i hi => by
          rcases Nat.lt_succ_iff_lt_or_eq.1 hi with h | h
          · have h1 := HP'.out.get (k := i) (by rw [Hp.out]; omega)
            have hne : x.toNat ≠ (ps[i]?.getD 0).toNat := by
              intro e
              have := HP'.out.inj (i := i) (j := k) (by rw [Hp.out]; omega) (by rw [Hp.out]; omega) (by rw [HXE.out]; omega)
              omega
            rw [List.getElem?_set_ne hne]
            exact HLi.out i h
          · subst h
            rw [HXE.out, List.getElem?_set_self (by rw [HL.out]; omega)]; rfl, hbs⟩
      case measure => simp [intOf]; omega
    · have hkn : k = n := by omega
      have HI : Hid (InvOf ps L) := Lib.hid ⟨by rw [HL.out, Hp.out], fun i hi => HLi.out i (by rw [Hp.out] at hi; omega)⟩
      clear hkn hown1
      go_wp2
      go_ret2
      exact ⟨L, rfl, hown, HI.out, hb1.trans hbw⟩

theorem inverse_no (A : Option Addr) (n c : Nat) (ps : List Int) (w : World) (hp : ps.length = n) (hn : n ≤ 9223372036854775807) (ha : Ints w w.heap.size A ps) (hno : ¬ IsPerm ps) :
    Calls Try.prog 29 #[.slice A n c] w fun e w' => e = .returned (.tuple #[.slice none 0 0, .bool false]) ∧ w = w' := by
  have Hp := Lib.hid hp
  have HP := Lib.hid (decide_eq_false hno)
  clear hp hno
  go_enter Try.func29, Try.ntmps29
  go_wp2_with fail
  refine (right_any A n c ps _ Hp.out hn ha).mono ?_
  rintro e w' ⟨rfl, rfl⟩
  rw [HP.out]
  go_wp2_with fail
  go_ret2
  exact ⟨rfl, rfl⟩

end Go.Proofs.Ytomibgonhdkhdaa
