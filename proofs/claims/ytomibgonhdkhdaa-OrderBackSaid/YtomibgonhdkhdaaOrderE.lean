/- Contracts: Order.Levels, ramageref09.Levels. -/
import Derived.Test.YtomibgonhdkhdaaOrderD
namespace Go.Proofs.Ytomibgonhdkhdaa
open Go.RowKit
set_option linter.unusedSimpArgs false
set_option linter.unusedVariables false

theorem or_pow_add (m t : Nat) (h : m.testBit t = false) : m ||| 2 ^ t = m + 2 ^ t := by
  apply Nat.eq_of_testBit_eq
  intro j
  rw [testBit_or_pow]
  have h0 : m / 2 ^ t % 2 = 0 := by
    rw [Nat.testBit_eq_decide_div_mod_eq] at h
    have := of_decide_eq_false h
    omega
  rcases Nat.lt_trichotomy j t with h1 | h1 | h1
  · obtain ⟨d, rfl⟩ : ∃ d, t = j + (d + 1) := ⟨t - j - 1, by omega⟩
    have e : (m + 2 ^ (j + (d + 1))) / 2 ^ j = m / 2 ^ j + 2 * 2 ^ d := by
      rw [Nat.pow_add, Nat.mul_comm (2 ^ j), Nat.add_mul_div_right _ _ (Nat.two_pow_pos j), Nat.pow_succ, Nat.mul_comm (2 ^ d)]
    rw [Nat.testBit_eq_decide_div_mod_eq, Nat.testBit_eq_decide_div_mod_eq, e]
    have : ¬ j = j + (d + 1) := by omega
    simp [this]
  · subst h1
    rw [Nat.testBit_eq_decide_div_mod_eq, Nat.testBit_eq_decide_div_mod_eq, Nat.add_div_right _ (Nat.two_pow_pos j)]
    simp
    omega
  · obtain ⟨d, rfl⟩ : ∃ d, j = t + (d + 1) := ⟨j - t - 1, by omega⟩
    have e : (m + 2 ^ t) / 2 ^ (t + (d + 1)) = m / 2 ^ (t + (d + 1)) := by
      rw [Nat.pow_add, ← Nat.div_div_eq_div_mul, ← Nat.div_div_eq_div_mul, Nat.add_div_right _ (Nat.two_pow_pos t), Nat.pow_succ, Nat.mul_comm (2 ^ d), ← Nat.div_div_eq_div_mul, ← Nat.div_div_eq_div_mul]
      congr 1
      omega
    rw [Nat.testBit_eq_decide_div_mod_eq, Nat.testBit_eq_decide_div_mod_eq, e]
    have : ¬ t + (d + 1) = t := by omega
    simp [this]

/-- levels of variables, as bits, summed up -/
def lvlTo (x : Nat) (t : Nat → Nat) : Nat → Nat
  | 0 => 0
  | k + 1 => lvlTo x t k + if x / pow2 k % 2 = 1 then pow2 (t k) else 0
theorem lvlTo_eq (x : Nat) (t : Nat → Nat) : ∀ n, (∀ i j, i < n → j < n → t i = t j → i = j) → lvlTo x t n = movedTo x t n := by
  intro n
  induction n with
  | zero => intro _; rfl
  | succ n ih =>
    intro h
    simp only [lvlTo, movedTo]
    rw [ih (fun i j hi hj => h i j (by omega) (by omega))]
    by_cases hb : x / pow2 n % 2 = 1
    · rw [if_pos hb]
      have hb2 : x / 2 ^ n % 2 = 1 := hb
      rw [hb2, Nat.one_mul, or_pow_add]
      · rfl
      · rw [movedTo_testBit, decide_eq_false_iff_not]
        rintro ⟨j, h1, h2, h3⟩
        have := h j n (by omega) (by omega) h3
        omega
    · rw [if_neg hb]
      have hb2 : x / 2 ^ n % 2 = 0 := by
        have : x / pow2 n % 2 = x / 2 ^ n % 2 := rfl
        omega
      rw [hb2]; simp

theorem bit_test16 (x k : Nat) (hx : x < 65536) : bits .and .u16 ((x : Int) / 2 ^ k) 1 = ((x / 2 ^ k % 2 : Nat) : Int) := by
  have h1 : ((x : Int) / 2 ^ k) = ((x / 2 ^ k : Nat) : Int) := by simp
  have h2 : x / 2 ^ k ≤ x := Nat.div_le_self _ _
  rw [h1, show (1 : Int) = ((1 : Nat) : Int) from rfl, u16_and_nat _ _ (by omega) (by omega), Nat.and_one_is_mod]
theorem or_pow16 (m y : Nat) (hm : m < 2 ^ 16) (hy : y < 16) : bits .or .u16 (m : Int) (IntKind.u16.wrap (2 ^ y)) = ((m ||| 2 ^ y : Nat) : Int) := by
  have h : (2 : Nat) ^ y < 2 ^ 16 := Nat.pow_lt_pow_right (by omega) hy
  have h2 : ((2 : Int) ^ y) = ((2 ^ y : Nat) : Int) := by simp
  rw [h2]
  generalize (2 : Nat) ^ y = q at *
  rw [IntWalk.u16_in _ (by omega), u16_or_nat _ _ (by omega) (by omega)]

set_option maxHeartbeats 1000000 in
theorem orderLevels_any (F : List Nat) (g : Nat) (ps ls : List Int) (x : Nat) (w : World) (h : OrdAt w F g ps ls) (hf : Fits ps ls) (hx : x < 65536) :
    Calls Try.prog 10 #[.pointer (some ⟨g, 0, none⟩), .int .u16 x] w fun e w' => e = .returned (.int .u16 (movedTo x (fun v => (ls[v]?.getD 0).toNat) ps.length : Nat)) ∧ w = w' := by
  have hO := Lib.hid h
  obtain ⟨A, n, c, A', c', hB, h1, h2, hl1, hl2, _, _⟩ := h
  have hc1 : w.cell? ⟨g, 1, none⟩ = some (.slice A' n c') := hB.cell 1
  have hn16 : n ≤ 16 := by rw [← hl1]; exact hf.perm.1
  have H1 := Lib.hid hl1
  have H2 := Lib.hid hl2
  have HF := Lib.hid hf
  have hI := OwnI.ints h2
  clear hl1 hl2 hf h1 h2 hB
  go_enter Try.func10, Try.ntmps10
  go_wp2_with fail
  refine (orderVars_any F g ps ls _ hO.out).mono ?_
  rintro e w' ⟨rfl, rfl⟩
  rw [H1.out]
  go_wp2_with fail
  go_loop [5, 6, 9] (fun o _ i => ∃ k : Nat, k ≤ n ∧ i = .int .i64 k ∧ o = .int .u16 (movedTo x (fun v => (ls[v]?.getD 0).toNat) k : Nat)) (fun _ _ i => n - (intOf i).toNat)
  case atStart => exact ⟨0, Nat.zero_le _, rfl, rfl⟩
  case round =>
    obtain ⟨k, hk, rfl, rfl⟩ := hrel
    by_cases hlt : k < n
    · obtain ⟨b, off, rfl, hb, hc⟩ := hI (by rw [H2.out]; omega)
      have hck := hc k (by rw [H2.out]; exact hlt)
      have hg := HF.out.ls_get (v := k) (by rw [H2.out]; exact hlt)
      rw [H1.out] at hg
      have HS : Hid (movedTo x (fun v => (ls[v]?.getD 0).toNat) (k + 1) = movedTo x (fun v => (ls[v]?.getD 0).toNat) k ||| (x / 2 ^ k % 2) * 2 ^ (ls[k]?.getD 0).toNat) := Lib.hid rfl
      have hm16 := movedTo_lt x (fun v => (ls[v]?.getD 0).toNat) 16 k (fun j hj => by
        show (ls[j]?.getD 0).toNat < 16
        have := HF.out.ls_get (v := j) (by rw [H2.out]; omega)
        rw [H1.out] at this
        omega)
      generalize hmo : movedTo x (fun v => (ls[v]?.getD 0).toNat) k = mo at *
      have HMO := Lib.hid hmo
      clear hmo hc
      generalize hv : ls[k]?.getD 0 = v at *
      clear hv
      obtain ⟨y, rfl⟩ := Int.eq_ofNat_of_zero_le hg.1
      rw [Int.toNat_natCast] at HS
      have hy := hg.2.1
      clear hg
      have hkm : (k : Int) ≤ 16 := by omega
      have hbt := bit_test16 x k hx
      have HSO := Lib.hid (or_pow16 mo y hm16 (by omega))
      by_cases hb : x / 2 ^ k % 2 = 1
      · have hbb : (bits BinOp.and IntKind.u16 ((x : Int) / 2 ^ k) 1 == 1) = true := by rw [hbt, hb]; rfl
        have HB := Lib.hid hb
        clear hbt hb
        go_wp2_with fail
        go_round
        case rel => exact ⟨k + 1, by omega, by go_num, by rw [HS.out, HB.out, HSO.out, Nat.one_mul]⟩
        case measure => simp [intOf]; omega
      · have hbb : (bits BinOp.and IntKind.u16 ((x : Int) / 2 ^ k) 1 == 1) = false := by
          rw [hbt, beq_eq_false_iff_ne]; omega
        have HB : Hid (x / 2 ^ k % 2 = 0) := Lib.hid (by omega)
        clear hbt hb
        go_wp2_with fail
        go_round
        case rel => exact ⟨k + 1, by omega, by go_num, by rw [HS.out, HB.out]; simp⟩
        case measure => simp [intOf]; omega
    · have he : Hid (k = n) := Lib.hid (by omega)
      go_wp2_with fail
      go_ret
      refine ⟨?_, rfl⟩
      rw [H1.out, ← he.out]
      rfl

set_option maxHeartbeats 1000000 in
theorem refLevels_any (A : Option Addr) (n c : Nat) (ps ls : List Int) (x : Nat) (w : World) (hp : ps.length = n) (hf : Fits ps ls) (hx : x < 65536) (hr : Ints w w.heap.size A ps) :
    Calls Try.prog 11 #[.slice A n c, .int .i64 x] w fun e w' => e = .returned (.int .i64 (movedTo x (fun v => (ls[v]?.getD 0).toNat) n : Nat)) ∧ w = w' := by
  have hn16 : n ≤ 16 := by rw [← hp]; exact hf.perm.1
  have Hp := Lib.hid hp
  have HF := Lib.hid hf
  have HE := Lib.hid (lvlTo_eq x (fun v => (ls[v]?.getD 0).toNat) n (fun i j hi hj e => by
    have hl := hf.len
    have h1 := hf.ls_get (v := i) (by omega)
    have h2 := hf.ls_get (v := j) (by omega)
    have e2 : (ls[i]?.getD 0).toNat = (ls[j]?.getD 0).toNat := e
    have h3 := h1.2.2
    rw [e2, h2.2.2] at h3
    omega))
  clear hp hf
  go_enter Try.func11, Try.ntmps11
  go_wp2_with fail
  go_loop [5, 6] (fun o i => ∃ k : Nat, k ≤ n ∧ i = .int .i64 k ∧ o = .int .i64 (lvlTo x (fun v => (ls[v]?.getD 0).toNat) k : Nat) ∧ lvlTo x (fun v => (ls[v]?.getD 0).toNat) k ≤ 65536 * k) (fun _ i => n - (intOf i).toNat)
  case atStart => exact ⟨0, Nat.zero_le _, rfl, rfl, Nat.le_refl _⟩
  case round =>
    obtain ⟨k, hk, rfl, rfl, hle⟩ := hrel
    have HS : Hid (lvlTo x (fun v => (ls[v]?.getD 0).toNat) (k + 1) = lvlTo x (fun v => (ls[v]?.getD 0).toNat) k + if x / pow2 k % 2 = 1 then pow2 (ls[k]?.getD 0).toNat else 0) := Lib.hid rfl
    generalize hmo : lvlTo x (fun v => (ls[v]?.getD 0).toNat) k = mo at *
    have HMO := Lib.hid hmo
    clear hmo
    by_cases hlt : k < n
    · have hlk : k < ls.length := by rw [HF.out.len, Hp.out]; exact hlt
      have hg := HF.out.ls_get hlk
      rw [Hp.out] at hg
      generalize hv : ls[k]?.getD 0 = v at *
      clear hv
      obtain ⟨y, rfl⟩ := Int.eq_ofNat_of_zero_le hg.1
      rw [Int.toNat_natCast] at HS hg
      have hy := hg.2.1
      have hat : atL ps (k : Int) 0 = (y : Int) := by
        have := atL_hit ps (k : Int) y 0 (by rw [Hp.out]; omega) hg.2.2 (fun j hj e => by
          have h2 : ps[j]?.getD 0 = ps[y]?.getD 0 := by rw [e, hg.2.2]
          have := HF.out.perm.inj (by rw [Hp.out]; omega) (by rw [Hp.out]; omega) h2
          omega)
        rw [this, Nat.zero_add]
      have HAT := Lib.hid hat
      clear hg hat
      have hpy : pow2 y ≤ 65536 := Nat.le_trans (Nat.pow_le_pow_right (by omega) (by omega : y ≤ 16)) (by decide)
      go_wp2_with fail
      refine (value_any (x : Int) (k : Int) _ (by omega) (by omega) (by omega)).mono ?_
      rintro e w' ⟨rfl, rfl⟩
      rw [Int.toNat_natCast, Int.toNat_natCast]
      by_cases hb : x / pow2 k % 2 = 1
      · rw [hb]
        have HB := Lib.hid hb
        clear hb
        go_wp2_with fail
        refine (at_any A n c ps (k : Int) _ Hp.out (by omega) hr).mono ?_
        rintro e w' ⟨rfl, rfl⟩
        rw [HAT.out]
        go_wp2_with fail
        refine (size_any (y : Int) _ (by omega)).mono ?_
        rintro e w' ⟨rfl, rfl⟩
        rw [Int.toNat_natCast]
        go_wp2_with fail
        go_round
        case rel => exact ⟨k + 1, by omega, by go_num, by rw [HS.out, if_pos HB.out]; go_num, by rw [HS.out, if_pos HB.out]; omega⟩
        case measure => simp [intOf]; omega
      · have hb0 : x / pow2 k % 2 = 0 := by omega
        rw [hb0]
        have HB := Lib.hid hb
        clear hb hb0
        go_wp2_with fail
        go_round
        case rel => exact ⟨k + 1, by omega, by go_num, by rw [HS.out, if_neg HB.out]; go_num, by rw [HS.out, if_neg HB.out]; omega⟩
        case measure => simp [intOf]; omega
    · have he : Hid (k = n) := Lib.hid (by omega)
      have HR : Hid (mo = movedTo x (fun v => (ls[v]?.getD 0).toNat) n) := Lib.hid (by rw [← HMO.out, he.out]; exact HE.out)
      go_wp2_with fail
      go_ret
      exact ⟨by rw [← HR.out]; rfl, rfl⟩
end Go.Proofs.Ytomibgonhdkhdaa
