/- Contracts of the document's small functions over texts and tables: Num of a digit, Size, Same. -/
import Derived.Test.YtdhfpnbpkbelmaaDoorTextP
import Derived.Test.YtdhfpnbpkbelmaaDoorOwn
import Derived.Laws.IdiomStrings
namespace Go.Proofs.YtdhfpnbpkbelmaaDoor
open Go.RowKit
set_option linter.unusedSimpArgs false
set_option linter.unusedVariables false

set_option maxRecDepth 100000 in
set_option maxHeartbeats 1000000 in
theorem num_small (n : Nat) (hn : n < 10) (w : World) : Calls Tryd.prog 100 #[.int .i64 (n : Nat)] w fun e w' => e = .returned (strV [UInt8.ofNat (48 + n)]) ∧ Below w.heap.size w w' := by
  have hd := digit_nat hn
  obtain ⟨b, hbe⟩ : ∃ b, b = UInt8.ofNat (48 + n) := ⟨_, rfl⟩
  rw [← hbe] at hd ⊢
  clear hbe
  have hb := run_convert_bytes_back (P := Tryd.prog) (w.alloc (.cells #[.int .u8 (48 + n : Nat)] 5)) 69 9 5 ⟨w.heap.size, 0, none⟩ 1 [b] (by kernel_rfl) (by kernel_rfl) (by kernel_rfl) (fun j hj => by
    have : j = 0 := by simpa using hj
    subst this
    rw [Addr.add_lit]
    simp [hd])
  have e1 : ((48 + n : Nat) : Int) = 48 + (n : Int) := by omega
  have e2 : IntKind.u8.wrap (48 + (n : Int)) = 48 + (n : Int) := by
    simp [IntKind.wrap, IntKind.signed, IntKind.bits]
    omega
  rw [e1] at hb
  simp only [List.length_cons, List.length_nil, Nat.zero_add] at hb
  clear hd e1
  go_enter Tryd.func100, Tryd.ntmps100
  go_wp2_with fail
  go_ret
  exact ⟨rfl, (Below.refl _ _).alloc (Nat.le_refl _) _⟩
set_option maxHeartbeats 400000 in
theorem size_any (n : Nat) (hn : n ≤ 16) (w : World) : Calls Tryd.prog 26 #[.int .i64 (n : Nat)] w fun e w' => e = .returned (.int .i64 (2 ^ n : Nat)) ∧ w = w' := by
  go_enter Tryd.func26, Tryd.ntmps26
  go_wp2
  go_loop [3, 4] (fun x i => ∃ k : Nat, k ≤ n ∧ i = .int .i64 k ∧ x = .int .i64 (2 ^ k : Nat)) (fun x i => n - (intOf i).toNat)
  case atStart => exact ⟨0, Nat.zero_le _, rfl, rfl⟩
  case round =>
    obtain ⟨k, hk, rfl, rfl⟩ := hrel
    by_cases hlt : k < n
    · have hp : 2 ^ (k + 1) = 2 * 2 ^ k := by rw [Nat.pow_succ, Nat.mul_comm]
      have hm : 2 ^ k ≤ 2 ^ 16 := Nat.pow_le_pow_right (by omega) (by omega)
      obtain ⟨m, hme⟩ : ∃ m, m = 2 ^ k := ⟨_, rfl⟩
      have HP := Lib.hid hp
      have HM := Lib.hid hme
      rw [← hme] at hm ⊢
      clear hp hme
      go_wp2
      go_round
      case rel => exact ⟨k + 1, by omega, by go_num, by rw [HP.out, ← HM.out]; go_num⟩
      case measure => simp [intOf]; omega
    · obtain rfl : k = n := by omega
      go_wp2
      go_ret
      exact ⟨rfl, rfl⟩

set_option maxHeartbeats 400000 in
theorem tsame_any (A B : Option Addr) (n m c d : Nat) (xs ys : List Bool) (w : World) (hx : xs.length = n) (hy : ys.length = m) (hn : n ≤ 9223372036854775807) (hm : m ≤ 9223372036854775807)
    (ha : Bools w w.heap.size A xs) (hb : Bools w w.heap.size B ys) :
    Calls Tryd.prog 77 #[.slice A n c, .slice B m d] w fun e w' => e = .returned (.bool (decide (xs = ys))) ∧ ∃ k, w' = w.drewN k := by
  have Hx := Lib.hid hx
  have Hy := Lib.hid hy
  clear hx hy
  by_cases hnm : n = m
  · subst hnm
    go_enter Tryd.func77, Tryd.ntmps77
    go_wp2
    go_loopw [5] (fun i wr => ∃ k q : Nat, k ≤ n ∧ i = .int .i64 k ∧ wr = w.drewN q ∧ ∀ j, j < k → xs[j]?.getD false = ys[j]?.getD false) (fun i _ => n - (intOf i).toNat)
    case atStart => exact ⟨0, 0, Nat.zero_le _, rfl, rfl, by omega⟩
    case round =>
      obtain ⟨k, q, hk, rfl, rfl, hno⟩ := hrel
      have HN := Lib.hid hno
      clear hno
      by_cases hlt : k < n
      · obtain ⟨b, off, rfl, hb1, hc⟩ := ha (by rw [Hx.out]; omega)
        have hck := hc k (by rw [Hx.out]; omega)
        obtain ⟨b2, off2, rfl, hb2, hc2⟩ := hb (by rw [Hy.out]; omega)
        have hck2 := hc2 k (by rw [Hy.out]; omega)
        clear hc hc2
        obtain ⟨x, hx⟩ : ∃ x, x = xs[k]?.getD false := ⟨_, rfl⟩
        obtain ⟨y, hy⟩ : ∃ y, y = ys[k]?.getD false := ⟨_, rfl⟩
        rw [← hx] at hck
        rw [← hy] at hck2
        have HX := Lib.hid hx
        have HY := Lib.hid hy
        clear hx hy
        by_cases hxy : x = y
        · have HXY := Lib.hid hxy
          subst hxy
          go_wp2
          go_quiet (fail)
          go_wp2
          go_roundw
          case rel => exact ⟨k+1, _, by omega, by go_num, rfl, fun j hj => by
              rcases Nat.lt_succ_iff_lt_or_eq.1 hj with h | h
              · exact HN.out j h
              · subst h; rw [← HX.out, ← HY.out]⟩
          case measure => simp [intOf]; omega
        · have HXY := Lib.hid hxy
          have hxy' : (x = true ∧ y = false) ∨ (x = false ∧ y = true) := by cases x <;> cases y <;> simp_all
          clear hxy
          rcases hxy' with ⟨rfl, rfl⟩ | ⟨rfl, rfl⟩
          all_goals
            go_wp2
            go_quiet (fail)
            go_wp2
            go_ret
            refine ⟨?_, _, World.drewN_drewN _ _ _⟩
            show Ending.returned (.bool false) = _
            rw [decide_eq_false]
            intro h; exact HXY.out (HX.out.trans ((congrArg (fun l : List Bool => l[k]?.getD false) h).trans HY.out.symm))
      · go_wp2
        go_ret
        refine ⟨?_, _, rfl⟩
        show Ending.returned (.bool true) = _
        rw [decide_eq_true]
        apply List.ext_getElem (by rw [Hx.out, Hy.out])
        intro i h1 h2
        have := HN.out i (by rw [Hx.out] at h1; omega)
        rw [List.getElem?_eq_getElem h1, List.getElem?_eq_getElem h2] at this
        simpa using this
  · have hne : ((n : Int) == (m : Int)) = false := by rw [beq_eq_false_iff_ne]; omega
    have hne2 : ((n : Int) != (m : Int)) = true := by rw [bne_iff_ne]; omega
    go_enter Tryd.func77, Tryd.ntmps77
    go_wp2
    go_ret
    refine ⟨?_, 0, rfl⟩
    show Ending.returned (.bool false) = _
    rw [decide_eq_false]
    intro h; apply hnm; rw [← Hx.out, ← Hy.out, h]
end Go.Proofs.YtdhfpnbpkbelmaaDoor
