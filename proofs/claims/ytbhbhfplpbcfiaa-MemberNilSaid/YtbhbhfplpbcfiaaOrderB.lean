/- Contracts: ramageref05.Size, Value; order.moved with its two closures; Down, Up. -/
import Derived.Test.YtbhbhfplpbcfiaaMn
import Derived.Test.YtbhbhfplpbcfiaaMa
namespace Go.Proofs.Ytbhbhfplpbcfiaa
open Go.RowKit
set_option linter.unusedSimpArgs false
set_option linter.unusedVariables false

/-- 2 to the k, behind a name -/
def pow2 (k : Nat) : Nat := 2 ^ k
theorem pow2_succ (k : Nat) : pow2 (k + 1) = 2 * pow2 k := by unfold pow2; rw [Nat.pow_succ, Nat.mul_comm]
theorem pow2_pos (k : Nat) : 1 ≤ pow2 k := Nat.one_le_two_pow
theorem pow_le62 {k : Nat} (h : k ≤ 62) : pow2 k ≤ 4611686018427387904 := Nat.le_trans (Nat.pow_le_pow_right (by omega) h) (by decide)

theorem size_any (n : Int) (w : World) (hn : n ≤ 62) :
    Calls Try.prog 67 #[.int .i64 n] w fun e w' => e = .returned (.int .i64 (pow2 n.toNat : Nat)) ∧ w = w' := by
  go_enter Try.func67, Try.ntmps67
  go_wp2_with fail
  go_loop [3, 4] (fun s i => ∃ k : Nat, k ≤ n.toNat ∧ i = .int .i64 k ∧ s = .int .i64 (pow2 k : Nat)) (fun _ i => n.toNat - (intOf i).toNat)
  case atStart => exact ⟨0, Nat.zero_le _, rfl, rfl⟩
  case round =>
    obtain ⟨k, hk, rfl, rfl⟩ := hrel
    by_cases hlt : (k : Int) < n
    · have hp := pow_le62 (k := k + 1) (by omega)
      have he := Lib.hid (pow2_succ k)
      rw [pow2_succ] at hp
      go_wp2_with fail
      go_round
      case rel => exact ⟨k + 1, by omega, by go_num, by rw [he.out]; go_num⟩
      case measure => simp [intOf]; omega
    · have he : Hid (k = n.toNat) := Lib.hid (by omega)
      go_wp2_with fail
      go_ret
      exact ⟨by rw [← he.out]; rfl, rfl⟩

theorem value_any (x v : Int) (w : World) (hx : 0 ≤ x) (hxm : x ≤ 9223372036854775807) (hv : v ≤ 62) :
    Calls Try.prog 69 #[.int .i64 x, .int .i64 v] w fun e w' => e = .returned (.int .i64 ((x.toNat / pow2 v.toNat % 2 : Nat) : Int)) ∧ w = w' := by
  obtain ⟨y, rfl⟩ := Int.eq_ofNat_of_zero_le hx
  rw [Int.toNat_natCast]
  have hp := pow_le62 (k := v.toNat) (by omega)
  have hp1 := pow2_pos v.toNat
  go_enter Try.func69, Try.ntmps69
  go_wp2_with fail
  refine (size_any v _ hv).mono ?_
  rintro e w' ⟨rfl, rfl⟩
  generalize hP : pow2 v.toNat = P at *
  have h0 : (1 : Int) ≤ (P : Int) := by omega
  have h3 : y / P ≤ y := Nat.div_le_self _ _
  have h4 : (y : Int) / (P : Int) = ((y / P : Nat) : Int) := by simp
  have h5 : 0 ≤ (y : Int) / (P : Int) := by rw [h4]; exact Int.natCast_nonneg _
  have h6 : (y : Int) / (P : Int) ≤ 9223372036854775807 := by rw [h4]; omega
  clear h4
  go_wp2_with fail
  go_ret
  exact ⟨ret_int (by rw [← hP]; simp), rfl⟩

/-- bits of a number, each to another place -/
def movedTo (x : Nat) (t : Nat → Nat) : Nat → Nat
  | 0 => 0
  | k + 1 => movedTo x t k ||| (x / 2 ^ k % 2) * 2 ^ t k
theorem movedTo_testBit (x : Nat) (t : Nat → Nat) : ∀ (k b : Nat), (movedTo x t k).testBit b = decide (∃ j, j < k ∧ x.testBit j = true ∧ t j = b) := by
  intro k
  induction k with
  | zero => intro b; simp [movedTo]
  | succ k ih =>
    intro b
    simp only [movedTo]
    rw [Nat.testBit_or, ih]
    have h1 : ((x / 2 ^ k % 2) * 2 ^ t k).testBit b = decide (x.testBit k = true ∧ t k = b) := by
      rw [Nat.testBit_eq_decide_div_mod_eq (x := x)]
      rcases Nat.mod_two_eq_zero_or_one (x / 2 ^ k) with h | h
      · simp [h]
      · rw [h, Nat.one_mul, Nat.testBit_two_pow]; simp
    rw [h1, ← Bool.decide_or]
    apply decide_eq_decide.2
    constructor
    · rintro (⟨j, h1, h2, h3⟩ | ⟨h1, h2⟩)
      · exact ⟨j, by omega, h2, h3⟩
      · exact ⟨k, by omega, h1, h2⟩
    · rintro ⟨j, h1, h2, h3⟩
      rcases Nat.lt_succ_iff_lt_or_eq.1 h1 with h | h
      · exact .inl ⟨j, h, h2, h3⟩
      · subst h; exact .inr ⟨h2, h3⟩
theorem movedTo_lt (x : Nat) (t : Nat → Nat) (n : Nat) : ∀ k, (∀ j, j < k → t j < n) → movedTo x t k < 2 ^ n := by
  intro k
  induction k with
  | zero => intro _; exact Nat.two_pow_pos n
  | succ k ih =>
    intro h
    simp only [movedTo]
    refine Nat.or_lt_two_pow (ih (fun j hj => h j (by omega))) ?_
    have h1 : x / 2 ^ k % 2 ≤ 1 := by omega
    have h2 : 2 ^ t k < 2 ^ n := Nat.pow_lt_pow_right (by omega) (h k (by omega))
    have h3 : x / 2 ^ k % 2 * 2 ^ t k ≤ 1 * 2 ^ t k := Nat.mul_le_mul_right _ h1
    omega
/-- zeros above play no part -/
theorem movedTo_stop (x : Nat) (t : Nat → Nat) (i : Nat) (hx : x < 2 ^ i) : ∀ d, movedTo x t (i + d) = movedTo x t i := by
  intro d
  induction d with
  | zero => rfl
  | succ d ih =>
    show movedTo x t (i + d) ||| (x / 2 ^ (i + d) % 2) * 2 ^ t (i + d) = _
    have : x / 2 ^ (i + d) = 0 := Nat.div_eq_of_lt (Nat.lt_of_lt_of_le hx (Nat.pow_le_pow_right (by omega) (by omega)))
    rw [this, ih]
    simp

theorem moved_step (x o i t : Nat) (ho : o < 65536) (hx : x < 65536) (ht : t < 16) :
    bits .or .i64 (o : Int) (wrap64 (bits .and .i64 ((x : Int) / 2 ^ i) 1 * 2 ^ t)) = ((o ||| (x / 2 ^ i % 2) * 2 ^ t : Nat) : Int) := by
  have h1 := bit_test x (by omega) (i : Int) (by omega)
  rw [Int.toNat_natCast] at h1
  rw [h1, Nat.testBit_eq_decide_div_mod_eq]
  rcases Nat.mod_two_eq_zero_or_one (x / 2 ^ i) with h | h
  · have e1 : wrap64 ((if decide (x / 2 ^ i % 2 = 1) = true then 1 else 0) * 2 ^ t) = ((0 : Nat) : Int) := by rw [h]; simp [wrap64]
    rw [e1, h, i64_or_nat _ _ (by omega) (by omega), Nat.zero_mul]
  · have e1 : ((if decide (x / 2 ^ i % 2 = 1) = true then 1 else 0) * 2 ^ t : Int) = 2 ^ t := by rw [h]; simp
    rw [e1, h, or_pow o (by omega) t (by omega), Nat.one_mul]

set_option maxHeartbeats 1000000 in
theorem moved_any (K : FuncId) (ptr : Value) (x n : Nat) (t : Nat → Nat) (w : World) (hn : n ≤ 16) (hx : x < 2 ^ n) (ht : ∀ j, j < n → t j < n)
    (hcf : ∀ (j : Nat) (W : World), Sem.run Try.prog (callFunc K #[.int .i64 j, ptr]) W = .ok (.enter K #[.int .i64 j, ptr]) W)
    (hK : ∀ (j : Nat) (W : World), j < n → Below w.heap.size w W → Calls Try.prog K #[.int .i64 j, ptr] W fun e W' => e = .returned (.int .i64 (t j : Nat)) ∧ ∃ k, W' = W.drewN k) :
    Calls Try.prog 74 #[.int .i64 x, .func (.func K) #[] #[ptr]] w fun e w' => e = .returned (.int .i64 (movedTo x t n : Nat)) ∧ Below w.heap.size w w' := by
  have hx16 : x < 65536 := Nat.lt_of_lt_of_le hx (Nat.le_trans (Nat.pow_le_pow_right (by omega) hn) (by decide))
  have HT := Lib.hid ht
  have HK := Lib.hid hK
  have HX := Lib.hid hx
  clear ht hK hx
  go_enter Try.func74, Try.ntmps74
  go_wp2_with fail
  go_loopw [5, 6] (fun o i wr => ∃ k : Nat, k ≤ n ∧ i = .int .i64 k ∧ o = .int .i64 (movedTo x t k : Nat) ∧ Below w.heap.size w wr) (fun _ i _ => n - (intOf i).toNat)
  case atStart => exact ⟨0, Nat.zero_le _, rfl, rfl, Below.refl _ _⟩
  case round =>
    obtain ⟨k, hk, rfl, rfl, hbw⟩ := hrel
    have hdiv : (x : Int) / 2 ^ k = ((x / 2 ^ k : Nat) : Int) := by simp
    by_cases h0 : x / 2 ^ k = 0
    · have hstop : Hid (movedTo x t n = movedTo x t k) := Lib.hid (by
        have h1 : x < 2 ^ k := by
          rcases Nat.lt_or_ge x (2 ^ k) with h | h
          · exact h
          · have := Nat.div_pos h (Nat.two_pow_pos k); omega
        have := movedTo_stop x t k h1 (n - k)
        rwa [show k + (n - k) = n by omega] at this)
      have hz : ¬ (0 : Int) < (x : Int) / 2 ^ k := by rw [hdiv, h0]; decide
      have hkm : (k : Int) ≤ 16 := by omega
      clear hdiv h0
      go_wp2_with fail
      go_ret
      exact ⟨by rw [hstop.out]; rfl, hbw⟩
    · have hkn : k < n := by
        rcases Nat.lt_or_ge k n with h | h
        · exact h
        · exfalso
          apply h0
          exact Nat.div_eq_of_lt (Nat.lt_of_lt_of_le HX.out (Nat.pow_le_pow_right (by omega) h))
      have hz : (0 : Int) < (x : Int) / 2 ^ k := by rw [hdiv]; exact Int.ofNat_lt.2 (Nat.pos_of_ne_zero h0)
      have ho := movedTo_lt x t 16 k (fun j hj => by have := HT.out j (by omega); omega)
      have htk := HT.out k hkn
      have HS := Lib.hid (moved_step x (movedTo x t k) k (t k) ho hx16 (by omega))
      clear hdiv h0
      generalize hmo : movedTo x t k = mo at *
      have HMO := Lib.hid hmo
      clear hmo
      go_wp2_with fail
      go_quiet ((exact Calls.quiet_of (HK.out k _ hkn (below_drewN hbw _))))
      go_wp2_with fail
      go_roundw
      case rel => exact ⟨k + 1, by omega, by go_num, by
        show Value.int .i64 _ = Value.int .i64 ((movedTo x t k ||| (x / 2 ^ k % 2) * 2 ^ t k : Nat) : Int)
        rw [HMO.out, ← HS.out], below_drewN hbw _⟩
      case measure => simp [intOf]; omega

theorem callFunc33 (j : Nat) (ptr : Value) (W : World) : Sem.run Try.prog (callFunc 75 #[.int .i64 j, ptr]) W = .ok (.enter 75 #[.int .i64 j, ptr]) W := by go_simp
theorem callFunc34 (j : Nat) (ptr : Value) (W : World) : Sem.run Try.prog (callFunc 89 #[.int .i64 j, ptr]) W = .ok (.enter 89 #[.int .i64 j, ptr]) W := by go_simp

/-- the two closures read the order that their box leads to -/
theorem down1_any (F : List Nat) (g bx : Nat) (ps ls : List Int) (j : Nat) (w : World) (hbx : w.cell? ⟨bx, 0, none⟩ = some (.pointer (some ⟨g, 0, none⟩))) (h : OrdAt w F g ps ls) (hn : ps.length ≤ 16) (hj : j < ls.length) (hl : 0 ≤ ls[j]?.getD 0 ∧ ls[j]?.getD 0 < ps.length) :
    Calls Try.prog 75 #[.int .i64 j, .pointer (some ⟨bx, 0, none⟩)] w fun e W' => e = .returned (.int .i64 ((ps.length - 1 - (ls[j]?.getD 0).toNat : Nat) : Int)) ∧ ∃ k, W' = w.drewN k := by
  obtain ⟨A, n, c, A', c', hB, h1, h2, hl1, hl2, _, _⟩ := h
  have hc0 : w.cell? ⟨g, 0, none⟩ = some (.slice A n c) := hB.cell 0
  have hc1 : w.cell? ⟨g, 1, none⟩ = some (.slice A' n c') := hB.cell 1
  obtain ⟨b, off, rfl, hb, hc⟩ := (OwnI.ints h2) (by omega)
  have hck := hc j hj
  rw [hl2] at hj
  rw [hl1] at hn hl
  have H1 := Lib.hid hl1
  clear hl1 hl2 hc
  generalize hx : ls[j]?.getD 0 = x at *
  clear hx
  obtain ⟨y, rfl⟩ := Int.eq_ofNat_of_zero_le hl.1
  have hy := hl.2
  have hjn : (j : Int) < (n : Int) := by omega
  go_enter Try.func75, Try.ntmps75
  go_wp2_with fail
  go_quiet (fail)
  go_wp2_with fail
  go_ret
  refine ⟨?_, _, rfl⟩
  rw [H1.out, Int.toNat_natCast]
  show Ending.returned (.int .i64 ((n : Int) - 1 - (y : Int))) = _
  exact ret_int (by omega)
theorem up1_any (F : List Nat) (g bx : Nat) (ps ls : List Int) (j : Nat) (w : World) (hbx : w.cell? ⟨bx, 0, none⟩ = some (.pointer (some ⟨g, 0, none⟩))) (h : OrdAt w F g ps ls) (hn : ps.length ≤ 16) (hj : j < ps.length) (hl : 0 ≤ ps[ps.length - 1 - j]?.getD 0) :
    Calls Try.prog 89 #[.int .i64 j, .pointer (some ⟨bx, 0, none⟩)] w fun e W' => e = .returned (.int .i64 (((ps[ps.length - 1 - j]?.getD 0).toNat : Nat) : Int)) ∧ ∃ k, W' = w.drewN k := by
  obtain ⟨A, n, c, A', c', hB, h1, h2, hl1, hl2, _, _⟩ := h
  have hc0 : w.cell? ⟨g, 0, none⟩ = some (.slice A n c) := hB.cell 0
  obtain ⟨b, off, rfl, hb, hc⟩ := (OwnI.ints h1) (by omega)
  have hck := hc (ps.length - 1 - j) (by omega)
  rw [hl1] at hj hn hck hl ⊢
  have H1 := Lib.hid hl1
  clear hl1 hl2 hc
  generalize hx : ps[n - 1 - j]?.getD 0 = x at *
  clear hx
  obtain ⟨y, rfl⟩ := Int.eq_ofNat_of_zero_le hl
  have hi0 : (0 : Int) ≤ (n : Int) - 1 - (j : Int) := by omega
  have hi1 : (n : Int) - 1 - (j : Int) < (n : Int) := by omega
  have hi2 : ((n : Int) - 1 - (j : Int)).toNat = n - 1 - j := by omega
  go_enter Try.func89, Try.ntmps89
  go_wp2_with fail
  go_quiet (fail)
  go_wp2_with fail
  go_ret
  exact ⟨by rw [Int.toNat_natCast]; rfl, _, rfl⟩
end Go.Proofs.Ytbhbhfplpbcfiaa
