/- perm.Right: the packed search. -/
import Derived.Test.YtomibgonhdkhdaaPermM
import Derived.Test.YtomibgonhdkhdaaBits
namespace Go.Proofs.Ytomibgonhdkhdaa
open Go.RowKit
set_option linter.unusedSimpArgs false
set_option linter.unusedVariables false

/-- the state of the search behind k numbers -/
def Seen (zs : List Int) (n k q : Nat) : Prop :=
  q < 65536 ∧ (∀ j, q.testBit j = decide ((j : Int) ∈ zs.take k)) ∧ (zs.take k).Nodup ∧ ∀ z ∈ zs.take k, 0 ≤ z ∧ z < n

theorem Seen.start (zs : List Int) (n : Nat) : Seen zs n 0 0 := ⟨by omega, by simp, by simp, by simp⟩
theorem Seen.step {zs : List Int} {n k q : Nat} {x : Int} (h : Seen zs n k q) (hk : k < zs.length) (hx : zs[k]?.getD 0 = x) (h0 : 0 ≤ x) (h1 : x < n) (hn : n ≤ 16) (hb : q.testBit x.toNat = false) : Seen zs n (k + 1) (q ||| 2 ^ x.toNat) := by
  obtain ⟨a, b, c, d⟩ := h
  have hp : (2 : Nat) ^ x.toNat < 2 ^ 16 := Nat.pow_lt_pow_right (by omega) (by omega)
  rw [b] at hb
  have hb' : ¬ ((x.toNat : Nat) : Int) ∈ zs.take k := by simpa using hb
  rw [show ((x.toNat : Nat) : Int) = x by omega] at hb'
  unfold Seen
  rw [take_succ_getD zs k hk, hx]
  refine ⟨Nat.or_lt_two_pow (n := 16) a hp, fun j => ?_, ?_, ?_⟩
  · rw [testBit_or_pow, b, Bool.eq_iff_iff]
    simp only [Bool.or_eq_true, decide_eq_true_eq, List.mem_append, List.mem_singleton]
    constructor
    · rintro (h | h)
      · exact .inl h
      · right; omega
    · rintro (h | h)
      · exact .inl h
      · right; omega
  · rw [List.nodup_append]
    refine ⟨c, by simp, ?_⟩
    intro y hy z hz
    simp at hz
    subst hz
    rintro rfl
    exact hb' hy
  · intro z hz
    rcases List.mem_append.1 hz with h | h
    · exact d z h
    · simp at h; subst h; exact ⟨h0, h1⟩

theorem not_perm_out {zs : List Int} {k : Nat} {x : Int} (hk : k < zs.length) (hx : zs[k]?.getD 0 = x) (h : ¬ (0 ≤ x ∧ x < (zs.length : Int))) : ¬ IsPerm zs := by
  intro hp
  have := hp.2.2 _ (getD_mem zs k hk)
  rw [hx] at this
  exact h this
theorem not_perm_twice {zs : List Int} {n k q : Nat} {x : Int} (h : Seen zs n k q) (hk : k < zs.length) (hx : zs[k]?.getD 0 = x) (h0 : 0 ≤ x) (hb : q.testBit x.toNat = true) : ¬ IsPerm zs := by
  intro hp
  rw [h.2.1] at hb
  have hb' : ((x.toNat : Nat) : Int) ∈ zs.take k := by simpa using hb
  rw [show ((x.toNat : Nat) : Int) = x by omega] at hb'
  have h1 : (zs.take (k + 1)).Nodup := hp.2.1.sublist (List.take_sublist _ _)
  rw [take_succ_getD zs k hk, hx, List.nodup_append] at h1
  exact h1.2.2 x hb' x (by simp) rfl

set_option maxHeartbeats 400000 in
theorem right_any (A : Option Addr) (n c : Nat) (zs : List Int) (w : World) (hz : zs.length = n) (hn : n ≤ 9223372036854775807) (hr : Ints w w.heap.size A zs) :
    Calls Try.prog 38 #[.slice A n c] w fun e w' => e = .returned (.bool (decide (IsPerm zs))) ∧ w = w' := by
  have Hz := Lib.hid hz
  clear hz
  by_cases h16 : n ≤ 16
  · go_enter Try.func38, Try.ntmps38
    go_wp2
    go_loop [3, 5, 11] (fun s _ i => ∃ k q : Nat, k ≤ n ∧ i = .int .i64 k ∧ s = .int .i64 q ∧ Seen zs n k q) (fun _ _ i => n - (intOf i).toNat)
    case atStart => exact ⟨0, 0, Nat.zero_le _, rfl, rfl, Seen.start _ _⟩
    case round =>
      obtain ⟨k, q, hk, rfl, rfl, HS⟩ := hrel
      have hq : q < 65536 := HS.1
      by_cases hlt : k < n
      · obtain ⟨b, off, rfl, hb, hc⟩ := hr (by rw [Hz.out]; omega)
        have hck := hc k (by rw [Hz.out]; omega)
        clear hc
        generalize hx : zs[k]?.getD 0 = x at hck
        have Hx := Lib.hid hx
        clear hx
        by_cases hx0 : 0 ≤ x ∧ x < n
        · obtain ⟨h0, h1⟩ := hx0
          have hbt := bit_test q (by omega) x h0
          have HO := Lib.hid (or_pow q (by omega) x.toNat (by omega))
          cases htb : q.testBit x.toNat
          · have hbf : (bits BinOp.and IntKind.i64 ((q : Int) / 2 ^ x.toNat) 1 == 1) = false := by rw [hbt, htb]; rfl
            have HT := Lib.hid htb
            clear hbt htb
            go_wp2
            go_round
            case rel => exact ⟨k + 1, _, by omega, by go_num, by rw [HO.out], HS.step (by rw [Hz.out]; exact hlt) Hx.out h0 h1 h16 HT.out⟩
            case measure => simp [intOf]; omega
          · have hbf : (bits BinOp.and IntKind.i64 ((q : Int) / 2 ^ x.toNat) 1 == 1) = true := by rw [hbt, htb]; rfl
            have HT := Lib.hid htb
            clear hbt htb
            go_wp2
            go_ret
            refine ⟨?_, rfl⟩
            show Ending.returned (.bool false) = _
            rw [decide_eq_false (not_perm_twice HS (by rw [Hz.out]; exact hlt) Hx.out h0 HT.out)]
        · have hnp : Hid (¬ IsPerm zs) := Lib.hid (not_perm_out (by rw [Hz.out]; exact hlt) Hx.out (by rw [Hz.out]; exact hx0))
          by_cases h0 : 0 ≤ x
          · have h1 : (n : Int) ≤ x := by omega
            clear hx0
            go_wp2
            go_ret
            exact ⟨by show Ending.returned (.bool false) = _; rw [decide_eq_false hnp.out], rfl⟩
          · clear hx0
            go_wp2
            go_ret
            exact ⟨by show Ending.returned (.bool false) = _; rw [decide_eq_false hnp.out], rfl⟩
      · have hkn : k = n := by omega
        have Hk := Lib.hid hkn
        clear hkn
        go_wp2
        go_ret
        refine ⟨?_, rfl⟩
        show Ending.returned (.bool true) = _
        rw [decide_eq_true]
        obtain ⟨_, _, c, d⟩ := HS
        rw [Hk.out, ← Hz.out, List.take_length] at c d
        exact ⟨by rw [Hz.out]; exact h16, c, d⟩
  · go_enter Try.func38, Try.ntmps38
    go_wp2
    go_ret
    refine ⟨?_, rfl⟩
    show Ending.returned (.bool false) = _
    rw [decide_eq_false]
    intro h; have := h.1; rw [Hz.out] at this; omega
end Go.Proofs.Ytomibgonhdkhdaa
