/- Contracts: ramageref09.Down, Up, Levels; Order.Levels; why they are the same. -/
import Derived.Test.YtomibgonhdkhdaaOrderC
namespace Go.Proofs.Ytomibgonhdkhdaa
open Go.RowKit
set_option linter.unusedSimpArgs false
set_option linter.unusedVariables false

/-- the document's Down -/
def rdown (x : Nat) (p : List Int) : Nat := p.foldl (fun y v => 2 * y + x / pow2 v.toNat % 2) 0
theorem rdown_snoc (x : Nat) (p : List Int) (v : Int) : rdown x (p ++ [v]) = 2 * rdown x p + x / pow2 v.toNat % 2 := by simp [rdown]
theorem rdown_lt (x : Nat) (p : List Int) : rdown x p < pow2 p.length := by
  have h : ∀ q : List Int, rdown x q.reverse < pow2 q.length := by
    intro q
    induction q with
    | nil => exact pow2_pos 0
    | cons v r ih =>
      rw [List.reverse_cons, rdown_snoc, List.length_cons, pow2_succ]
      omega
  have := h p.reverse
  rwa [List.reverse_reverse, List.length_reverse] at this
theorem testBit_pow2 (x j : Nat) : x.testBit j = decide (x / pow2 j % 2 = 1) := Nat.testBit_eq_decide_div_mod_eq
theorem rdown_testBit (x : Nat) : ∀ (q : List Int) (b : Nat), (rdown x q.reverse).testBit b = if b < q.length then x.testBit (q[b]?.getD 0).toNat else false := by
  intro q
  induction q with
  | nil => intro b; simp [rdown]
  | cons v r ih =>
    intro b
    rw [List.reverse_cons, rdown_snoc]
    cases b with
    | zero =>
      rw [if_pos (by simp), testBit_pow2, testBit_pow2]
      simp only [List.getElem?_cons_zero, Option.getD_some]
      apply decide_eq_decide.2
      have : pow2 0 = 1 := rfl
      rw [this, Nat.div_one]
      omega
    | succ b =>
      have h1 : (2 * rdown x r.reverse + x / pow2 v.toNat % 2).testBit (b + 1) = (rdown x r.reverse).testBit b := by
        rw [Nat.testBit_succ]
        congr 1
        omega
      rw [h1, ih b]
      simp
theorem rdown_testBit' (x : Nat) (p : List Int) (b : Nat) (hb : b < p.length) : (rdown x p).testBit b = x.testBit (p[p.length - 1 - b]?.getD 0).toNat := by
  have := rdown_testBit x p.reverse b
  rw [List.reverse_reverse, List.length_reverse, if_pos hb] at this
  rw [this, List.getElem?_reverse hb]
theorem eq_of_bits {a b n : Nat} (ha : a < 2 ^ n) (hb : b < 2 ^ n) (h : ∀ j, j < n → a.testBit j = b.testBit j) : a = b := by
  apply Nat.eq_of_testBit_eq
  intro j
  rcases Nat.lt_or_ge j n with h1 | h1
  · exact h j h1
  · rw [Nat.testBit_lt_two_pow (Nat.lt_of_lt_of_le ha (Nat.pow_le_pow_right (by omega) h1)), Nat.testBit_lt_two_pow (Nat.lt_of_lt_of_le hb (Nat.pow_le_pow_right (by omega) h1))]

theorem downM_eq {ps ls : List Int} (h : Fits ps ls) (x : Nat) : downM ls ps.length x = rdown x ps := by
  apply eq_of_bits (n := ps.length)
  · exact movedTo_lt _ _ _ _ (fun j hj => by omega)
  · exact rdown_lt x ps
  · intro b hb
    rw [rdown_testBit' x ps b hb]
    unfold downM
    rw [movedTo_testBit]
    have hg := h.perm.get (k := ps.length - 1 - b) (by omega)
    have hi := h.inv.2 (ps.length - 1 - b) (by omega)
    rw [Bool.eq_iff_iff, decide_eq_true_eq]
    constructor
    · rintro ⟨j, h1, h2, h3⟩
      have hj := h.ls_get (v := j) (by rw [h.len]; exact h1)
      have e : (ls[j]?.getD 0).toNat = ps.length - 1 - b := by omega
      have e2 := hj.2.2
      rw [e] at e2
      rw [e2, Int.toNat_natCast]
      exact h2
    · intro h2
      refine ⟨(ps[ps.length - 1 - b]?.getD 0).toNat, by omega, h2, ?_⟩
      rw [hi, Int.toNat_natCast]; omega
theorem upM_lt {ps : List Int} (hp : IsPerm ps) (y : Nat) : upM ps ps.length y < 2 ^ ps.length :=
  movedTo_lt _ _ _ _ (fun j hj => by have := hp.get (k := ps.length - 1 - j) (by omega); omega)
/-- Up leads back -/
theorem rdown_up {ps : List Int} (hp : IsPerm ps) (y : Nat) (hy : y < 2 ^ ps.length) : rdown (upM ps ps.length y) ps = y := by
  apply eq_of_bits (n := ps.length)
  · exact rdown_lt _ ps
  · exact hy
  · intro b hb
    rw [rdown_testBit' _ ps b hb]
    unfold upM
    rw [movedTo_testBit, Bool.eq_iff_iff, decide_eq_true_eq]
    have hg := hp.get (k := ps.length - 1 - b) (by omega)
    constructor
    · rintro ⟨j, h1, h2, h3⟩
      have hgj := hp.get (k := ps.length - 1 - j) (by omega)
      have := hp.inj (i := ps.length - 1 - j) (j := ps.length - 1 - b) (by omega) (by omega) (by omega)
      have e : j = b := by omega
      rw [← e]; exact h2
    · intro h2
      exact ⟨b, hb, h2, rfl⟩
theorem rdown_inj {ps : List Int} (hp : IsPerm ps) {x y : Nat} (hx : x < 2 ^ ps.length) (hy : y < 2 ^ ps.length) (h : rdown x ps = rdown y ps) : x = y := by
  apply eq_of_bits hx hy
  intro j hj
  obtain ⟨k, hk, hke⟩ := mem_getD (hp.mem (j := (j : Int)) (by omega) (by omega))
  have h1 := rdown_testBit' x ps (ps.length - 1 - k) (by omega)
  have h2 := rdown_testBit' y ps (ps.length - 1 - k) (by omega)
  rw [show ps.length - 1 - (ps.length - 1 - k) = k by omega, hke, Int.toNat_natCast] at h1 h2
  rw [← h1, ← h2, h]
theorem up_rdown {ps : List Int} (hp : IsPerm ps) (x : Nat) (hx : x < 2 ^ ps.length) : upM ps ps.length (rdown x ps) = x :=
  rdown_inj hp (upM_lt hp _) hx (rdown_up hp _ (rdown_lt x ps))

set_option maxHeartbeats 1000000 in
theorem refDown_any (A : Option Addr) (n c : Nat) (ps : List Int) (x : Nat) (w : World) (hp : ps.length = n) (hP : IsPerm ps) (hx : x ≤ 9223372036854775807) (hr : Ints w w.heap.size A ps) :
    Calls Try.prog 15 #[.slice A n c, .int .i64 x] w fun e w' => e = .returned (.int .i64 (rdown x ps : Nat)) ∧ w = w' := by
  have hn16 : n ≤ 16 := by rw [← hp]; exact hP.1
  have Hp := Lib.hid hp
  have HP := Lib.hid hP
  clear hp hP
  go_enter Try.func15, Try.ntmps15
  go_wp2_with fail
  go_loop [5, 6] (fun y i => ∃ k : Nat, k ≤ n ∧ i = .int .i64 k ∧ y = .int .i64 (rdown x (ps.take k) : Nat)) (fun _ i => n - (intOf i).toNat)
  case atStart => exact ⟨0, Nat.zero_le _, rfl, rfl⟩
  case round =>
    obtain ⟨k, hk, rfl, rfl⟩ := hrel
    by_cases hlt : k < n
    · obtain ⟨b, off, rfl, hb, hc⟩ := hr (by rw [Hp.out]; omega)
      have hck := hc k (by rw [Hp.out]; exact hlt)
      have hg := HP.out.get (k := k) (by rw [Hp.out]; exact hlt)
      rw [Hp.out] at hg
      have hs : rdown x (ps.take (k + 1)) = 2 * rdown x (ps.take k) + x / pow2 (ps[k]?.getD 0).toNat % 2 := by
        rw [take_succ_getD ps k (by rw [Hp.out]; exact hlt), rdown_snoc]
      have HS := Lib.hid hs
      have hl := rdown_lt x (ps.take k)
      rw [List.length_take, Hp.out] at hl
      have hl2 : pow2 (min k n) ≤ 65536 := Nat.le_trans (Nat.pow_le_pow_right (by omega) (by omega : min k n ≤ 16)) (by decide)
      have hl3 : rdown x (ps.take k) < 65536 := by omega
      clear hc hs hl hl2
      generalize hv : ps[k]?.getD 0 = v at *
      clear hv
      generalize hy : rdown x (ps.take k) = y at *
      clear hy
      go_wp2_with fail
      refine (value_any (x : Int) v _ (by omega) (by omega) (by omega)).mono ?_
      rintro e w' ⟨rfl, rfl⟩
      rw [Int.toNat_natCast]
      have hm : x / pow2 v.toNat % 2 < 2 := by omega
      generalize hq : x / pow2 v.toNat % 2 = q at *
      clear hq
      go_wp2_with fail
      go_round
      case rel => exact ⟨k + 1, by omega, by go_num, by rw [HS.out]; go_num⟩
      case measure => simp [intOf]; omega
    · have he : Hid (ps.take k = ps) := Lib.hid (List.take_of_length_le (by rw [Hp.out]; omega))
      go_wp2_with fail
      go_ret
      exact ⟨by rw [← he.out, he.out]; show Ending.returned (.int .i64 ((rdown x (ps.take k) : Nat) : Int)) = _; rw [he.out], rfl⟩

set_option maxHeartbeats 1000000 in
theorem refUp_any (A : Option Addr) (n c : Nat) (ps : List Int) (y : Nat) (w : World) (hp : ps.length = n) (hP : IsPerm ps) (hy : y < 2 ^ n) (hr : Ints w w.heap.size A ps) :
    Calls Try.prog 16 #[.slice A n c, .int .i64 y] w fun e w' => e = .returned (.int .i64 (upM ps n y : Nat)) ∧ w = w' := by
  have hn16 : n ≤ 16 := by rw [← hp]; exact hP.1
  have Hp := Lib.hid hp
  have HP := Lib.hid hP
  have HY := Lib.hid hy
  have hU : Hid (upM ps n y < pow2 n ∧ rdown (upM ps n y) ps = y) := Lib.hid (by
    have h1 := upM_lt hP y
    have h2 := rdown_up hP y (by rw [hp]; exact hy)
    rw [hp] at h1 h2
    exact ⟨h1, h2⟩)
  have hun : Hid (∀ x, x < pow2 n → rdown x ps = y → x = upM ps n y) := Lib.hid (fun x hx he => rdown_inj hP (by rw [hp]; exact hx) (by rw [hp]; exact hU.out.1) (by rw [he, hU.out.2]))
  have hpn : pow2 n ≤ 65536 := Nat.le_trans (Nat.pow_le_pow_right (by omega) hn16) (by decide)
  have hU1 := hU.out.1
  generalize hu : upM ps n y = u at *
  clear hp hP hy hu
  go_enter Try.func16, Try.ntmps16
  go_wp2_with fail
  go_loop [5] (fun i => ∃ k : Nat, k ≤ u ∧ i = .int .i64 k) (fun i => u - (intOf i).toNat)
  case atStart => exact ⟨0, Nat.zero_le _, rfl⟩
  case round =>
    obtain ⟨k, hk, rfl⟩ := hrel
    go_wp2_with fail
    refine (size_any (n : Int) _ (by omega)).mono ?_
    rintro e w' ⟨rfl, rfl⟩
    rw [Int.toNat_natCast]
    have hkp : (k : Int) < (pow2 n : Nat) := by omega
    go_wp2_with fail
    refine (refDown_any A n c ps k _ Hp.out HP.out (by omega) hr).mono ?_
    rintro e w' ⟨rfl, rfl⟩
    by_cases he : rdown k ps = y
    · have hku : k = u := hun.out k (by omega) he
      have HE : ((((rdown k ps : Nat) : Int)) == (y : Int)) = true := by rw [beq_iff_eq, he]
      have HK := Lib.hid hku
      clear he hku
      go_wp2_with fail
      go_ret
      exact ⟨by rw [← HK.out]; rfl, rfl⟩
    · have HE : ((((rdown k ps : Nat) : Int)) == (y : Int)) = false := by rw [beq_eq_false_iff_ne]; omega
      have hku : k ≠ u := fun e => he (by rw [e]; exact hU.out.2)
      clear he
      go_wp2_with fail
      go_round
      case rel => exact ⟨k + 1, by omega, by go_num⟩
      case measure => simp [intOf]; omega
end Go.Proofs.Ytomibgonhdkhdaa
