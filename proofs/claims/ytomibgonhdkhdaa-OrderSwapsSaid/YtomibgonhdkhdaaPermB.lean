/- Contracts: slices.Clone, slices.Index at []int; perm.Same, perm.factorial. -/
import Derived.Test.YtomibgonhdkhdaaPermR
import Derived.Test.YtomibgonhdkhdaaOwn
namespace Go.Proofs.Ytomibgonhdkhdaa
open Go.RowKit
set_option linter.unusedSimpArgs false
set_option linter.unusedVariables false

set_option maxHeartbeats 400000 in
theorem clone_any (A : Option Addr) (n c : Nat) (zs : List Int) (w : World) (hz : zs.length = n) (hn : n ≤ 34359738367) (hr : Ints w w.heap.size A zs) :
    Calls Try.prog 30 #[.slice A n c] w fun e w' => ∃ v, e = .returned v ∧ OwnI w' w.heap.size v zs ∧ Below w.heap.size w w' := by
  obtain ⟨i0, hi, hz0, hz1, hz2⟩ := info_parts info_int
  have heq := fun (W : World) => Lib.run_eql_slice_nil (P := Try.prog) W 22 3 A n c 0 0 Try.underlying22
  rcases A with _ | ad
  · have hn0 : zs = [] := by
      cases zs with
      | nil => rfl
      | cons z r => obtain ⟨_, _, h, _⟩ := hr (by simp); cases h
    subst hn0
    go_enter Try.func30, Try.ntmps30
    go_wp2
    go_ret
    exact ⟨_, rfl, OwnF.nil_, Below.refl _ _⟩
  · have hsrc := Lib.hid ((hr.src hz).alloc (.cells #[] 3))
    have hown0 : OwnI (w.alloc (.cells #[] 3)) w.heap.size (.slice (some ⟨w.heap.size, 0, none⟩) 0 0) [] := World.ownsRow_lit w #[] 0 (Nat.le_refl _) (by unfold maxLen; omega) rfl
    have hown := Lib.hid hown0
    clear hown0 hz hr
    go_enter Try.func30, Try.ntmps30
    go_wp2_with (at_builtin; refine wp_appN (f := Value.int .i64) Try.underlying22 hi hz0 hz1 hz2 rfl (by omega) _ rfl _ _ rfl w.heap.size _ [] zs (some ad) n c (fun _ => rfl) hown.out hsrc.out (by simp) (by simp; omega) rfl rfl ?_; intro v1 w1 hown1 hb1 hs1 hg1 hv1)
    go_ret
    simp only [List.nil_append] at hown1
    exact ⟨_, rfl, hown1, ((Below.refl _ _).alloc (Nat.le_refl _) _).trans hb1⟩

/-- n factorial -/
def fact : Nat → Nat
  | 0 => 1
  | n + 1 => (n + 1) * fact n
theorem fact_pos : ∀ n, 1 ≤ fact n
  | 0 => Nat.le_refl _
  | n + 1 => by have := fact_pos n; have : (n + 1) * 1 ≤ (n + 1) * fact n := Nat.mul_le_mul_left _ this; unfold fact; omega
theorem fact_mono {m n : Nat} (h : m ≤ n) : fact m ≤ fact n := by
  induction n with
  | zero => have : m = 0 := by omega
            subst this; exact Nat.le_refl _
  | succ n ih =>
    rcases Nat.lt_or_ge n m with h1 | h1
    · have : m = n + 1 := by omega
      subst this; exact Nat.le_refl _
    · have := ih h1
      have h2 : 1 * fact n ≤ (n + 1) * fact n := Nat.mul_le_mul_right _ (by omega)
      show fact m ≤ (n + 1) * fact n
      omega
theorem fact16 : fact 16 = 20922789888000 := by decide
theorem fact_le16 {n : Nat} (h : n ≤ 16) : fact n ≤ 20922789888000 := by rw [← fact16]; exact fact_mono h
theorem fact_succ (n : Nat) : fact (n + 1) = (n + 1) * fact n := rfl

end Go.Proofs.Ytomibgonhdkhdaa
