/- Contracts: slices.Clone, slices.Index at []int; perm.Same, perm.factorial. -/
import Derived.Test.YtfnhknbofllhcaaPermR
import Derived.Test.YtfnhknbofllhcaaOwn
namespace Go.Proofs.Ytfnhknbofllhcaa
open Go.RowKit
set_option linter.unusedSimpArgs false
set_option linter.unusedVariables false

set_option maxHeartbeats 400000 in
theorem clone_any (A : Option Addr) (n c : Nat) (zs : List Int) (w : World) (hz : zs.length = n) (hn : n ≤ 34359738367) (hr : Ints w w.heap.size A zs) :
    Calls Try.prog 28 #[.slice A n c] w fun e w' => ∃ v, e = .returned v ∧ OwnI w' w.heap.size v zs ∧ Below w.heap.size w w' := by
  obtain ⟨i0, hi, hz0, hz1, hz2⟩ := info_parts info_int
  have heq := fun (W : World) => Lib.run_eql_slice_nil (P := Try.prog) W 22 3 A n c 0 0 Try.underlying22
  rcases A with _ | ad
  · have hn0 : zs = [] := by
      cases zs with
      | nil => rfl
      | cons z r => obtain ⟨_, _, h, _⟩ := hr (by simp); cases h
    subst hn0
    go_enter Try.func28, Try.ntmps28
    go_wp2
    go_ret
    exact ⟨_, rfl, OwnF.nil_, Below.refl _ _⟩
  · have hsrc := Lib.hid ((hr.src hz).alloc (.cells #[] 3))
    have hown0 : OwnI (w.alloc (.cells #[] 3)) w.heap.size (.slice (some ⟨w.heap.size, 0, none⟩) 0 0) [] := World.ownsRow_lit w #[] 0 (Nat.le_refl _) (by unfold maxLen; omega) rfl
    have hown := Lib.hid hown0
    clear hown0 hz hr
    go_enter Try.func28, Try.ntmps28
    go_wp2_with (at_builtin; refine wp_appN (f := Value.int .i64) Try.underlying22 hi hz0 hz1 hz2 rfl (by omega) _ rfl _ _ rfl w.heap.size _ [] zs (some ad) n c (fun _ => rfl) hown.out hsrc.out (by simp) (by simp; omega) rfl rfl ?_; intro v1 w1 hown1 hb1 hs1 hg1 hv1)
    go_ret
    simp only [List.nil_append] at hown1
    exact ⟨_, rfl, hown1, ((Below.refl _ _).alloc (Nat.le_refl _) _).trans hb1⟩

set_option maxHeartbeats 400000 in
theorem index_any (A : Option Addr) (n c : Nat) (zs : List Int) (x : Int) (w : World) (hz : zs.length = n) (hn : n ≤ 9223372036854775807) (hr : Ints w w.heap.size A zs) :
    Calls Try.prog 29 #[.slice A n c, .int .i64 x] w fun e w' => e = .returned (.int .i64 (atL zs x 0)) ∧ w = w' := by
  have Hz := Lib.hid hz
  clear hz
  go_enter Try.func29, Try.ntmps29
  go_wp2
  go_loop [8] (fun i => ∃ k : Nat, k ≤ n ∧ i = .int .i64 k ∧ ∀ j, j < k → zs[j]?.getD 0 ≠ x) (fun i => n - (intOf i).toNat)
  case atStart => exact ⟨0, Nat.zero_le _, rfl, by omega⟩
  case round =>
    obtain ⟨k, hk, rfl, hno⟩ := hrel
    have HN := Lib.hid hno
    clear hno
    by_cases hlt : k < n
    · obtain ⟨b, off, rfl, hb, hc⟩ := hr (by rw [Hz.out]; omega)
      have hck := hc k (by rw [Hz.out]; omega)
      clear hc
      go_wp2
      · go_ret
        have hx : zs[k]?.getD 0 = x := by simp_all
        have := atL_hit zs x k 0 (by rw [Hz.out]; exact hlt) hx HN.out
        refine ⟨?_, rfl⟩
        show Ending.returned (.int .i64 (k : Int)) = _
        rw [this]; simp
      · go_round
        case rel => exact ⟨k+1, by omega, by go_num, fun j hj => by
            rcases Nat.lt_succ_iff_lt_or_eq.1 hj with h | h
            · exact HN.out j h
            · subst h; intro hx; simp_all⟩
        case measure => simp [intOf]; omega
    · go_wp2
      go_ret
      refine ⟨?_, rfl⟩
      show Ending.returned (.int .i64 (-1)) = _
      rw [atL_miss zs x 0 (fun j hj => HN.out j (by rw [Hz.out] at hj; omega))]

/-- n factorial -/
def fact : Nat → Nat
  | 0 => 1
  | n + 1 => (n + 1) * fact n
theorem fact_pos : ∀ n, 1 ≤ fact n
  | 0 => Nat.le_refl _
  | n + 1 => by have := fact_pos n; have : (n + 1) * 1 ≤ (n + 1) * fact n := Nat.mul_le_mul_left _ this; unfold fact; omega
theorem fact_mono {m n : Nat} (h : m ≤ n) : fact m ≤ fact n := by
  induction n with
  | zero => have : m = 0 := by omega
            subst this; exact Nat.le_refl _
  | succ n ih =>
    rcases Nat.lt_or_ge n m with h1 | h1
    · have : m = n + 1 := by omega
      subst this; exact Nat.le_refl _
    · have := ih h1
      have h2 : 1 * fact n ≤ (n + 1) * fact n := Nat.mul_le_mul_right _ (by omega)
      show fact m ≤ (n + 1) * fact n
      omega
theorem fact16 : fact 16 = 20922789888000 := by decide
theorem fact_le16 {n : Nat} (h : n ≤ 16) : fact n ≤ 20922789888000 := by rw [← fact16]; exact fact_mono h
theorem fact_succ (n : Nat) : fact (n + 1) = (n + 1) * fact n := rfl

set_option maxHeartbeats 400000 in
theorem factorial_any (n : Int) (w : World) (h0 : 0 ≤ n) (hn : n ≤ 16) :
    Calls Try.prog 30 #[.int .i64 n] w fun e w' => e = .returned (.int .i64 (fact n.toNat : Nat)) ∧ w = w' := by
  obtain ⟨m, rfl⟩ := Int.eq_ofNat_of_zero_le h0
  rw [Int.toNat_natCast]
  have hm : m ≤ 16 := by omega
  clear h0 hn
  go_enter Try.func30, Try.ntmps30
  go_wp2
  go_loop [3, 4] (fun f i => ∃ k : Nat, 1 ≤ k ∧ (k ≤ m ∨ k = 1) ∧ i = .int .i64 ((k : Int) + 1) ∧ f = .int .i64 (fact k : Nat)) (fun _ i => m + 1 - (intOf i).toNat)
  case atStart => exact ⟨1, by omega, .inr rfl, rfl, rfl⟩
  case round =>
    obtain ⟨k, hk1, hk, rfl, rfl⟩ := hrel
    by_cases hlt : k < m
    · have hf := fact_le16 (n := k + 1) (by omega)
      have hs : Hid ((fact k : Int) * ((k : Int) + 1) = ((fact (k + 1) : Nat) : Int)) := by
        show _ = _
        rw [fact_succ]
        simp [Int.mul_comm]
      have hle : (fact k : Int) * ((k : Int) + 1) ≤ 20922789888000 := by rw [hs.out]; omega
      have hge : 0 ≤ (fact k : Int) * ((k : Int) + 1) := by rw [hs.out]; omega
      go_wp2
      go_round
      case rel => exact ⟨k + 1, by omega, .inl (by omega), by go_num, by rw [hs.out]⟩
      case measure => simp [intOf]; omega
    · have he : Hid (fact k = fact m) := by
        show _ = _
        rcases hk with h | h
        · have : k = m := by omega
          rw [this]
        · subst h
          rcases (by omega : m = 0 ∨ m = 1) with h | h <;> subst h <;> rfl
      go_wp2
      go_ret
      exact ⟨by show Ending.returned (.int .i64 ((fact k : Nat) : Int)) = _; rw [he.out], rfl⟩
end Go.Proofs.Ytfnhknbofllhcaa
