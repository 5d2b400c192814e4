/- Contracts of the document's small functions over lists of integers (ramageref02): At, Same, Right, Self, All. -/
import Derived.Test.YtomibgonhdkhdaaBase
namespace Go.Proofs.Ytomibgonhdkhdaa
open Go.RowKit
set_option linter.unusedSimpArgs false
set_option linter.unusedVariables false

/-- where x stands first from place k on; -1: nowhere -/
def atL : List Int → Int → Nat → Int
  | [], _, _ => -1
  | z :: r, x, k => if z = x then k else atL r x (k + 1)

theorem atL_hit (zs : List Int) (x : Int) : ∀ (k s : Nat), k < zs.length → zs[k]?.getD 0 = x → (∀ j, j < k → zs[j]?.getD 0 ≠ x) → atL zs x s = (s + k : Nat) := by
  induction zs with
  | nil => intro k s h; simp at h
  | cons z r ih =>
    intro k s h hx hn
    unfold atL
    cases k with
    | zero => simp at hx; simp [hx]
    | succ k =>
      have h0 := hn 0 (by omega)
      simp at h0
      rw [if_neg h0, ih k (s + 1) (by simpa using h) (by simpa using hx) (fun j hj => by simpa using hn (j + 1) (by omega))]
      congr 1; omega
theorem atL_miss (zs : List Int) (x : Int) : ∀ s, (∀ j, j < zs.length → zs[j]?.getD 0 ≠ x) → atL zs x s = -1 := by
  induction zs with
  | nil => intro s _; rfl
  | cons z r ih =>
    intro s hn
    have h0 := hn 0 (by simp)
    simp at h0
    unfold atL
    rw [if_neg h0]
    exact ih _ (fun j hj => by simpa using hn (j + 1) (by simpa using hj))

set_option maxHeartbeats 400000 in
theorem at_any (A : Option Addr) (n c : Nat) (zs : List Int) (x : Int) (w : World) (hz : zs.length = n) (hn : n ≤ 9223372036854775807) (hr : Ints w w.heap.size A zs) :
    Calls Try.prog 21 #[.slice A n c, .int .i64 x] w fun e w' => e = .returned (.int .i64 (atL zs x 0)) ∧ w = w' := by
  have Hz := Lib.hid hz
  clear hz
  go_enter Try.func21, Try.ntmps21
  go_wp2
  go_loop [5] (fun i => ∃ k : Nat, k ≤ n ∧ i = .int .i64 k ∧ ∀ j, j < k → zs[j]?.getD 0 ≠ x) (fun i => n - (intOf i).toNat)
  case atStart => exact ⟨0, Nat.zero_le _, rfl, by omega⟩
  case round =>
    obtain ⟨k, hk, rfl, hno⟩ := hrel
    have HN := Lib.hid hno
    clear hno
    by_cases hlt : k < n
    · obtain ⟨b, off, rfl, hb, hc⟩ := hr (by rw [Hz.out]; omega)
      have hck := hc k (by rw [Hz.out]; omega)
      clear hc
      go_wp2
      · go_ret
        have hx : zs[k]?.getD 0 = x := by simp_all
        have := atL_hit zs x k 0 (by rw [Hz.out]; exact hlt) hx HN.out
        refine ⟨?_, rfl⟩
        show Ending.returned (.int .i64 (k : Int)) = _
        rw [this]; simp
      · go_round
        case rel => exact ⟨k+1, by omega, by go_num, fun j hj => by
            rcases Nat.lt_succ_iff_lt_or_eq.1 hj with h | h
            · exact HN.out j h
            · subst h; simp_all⟩
        case measure => simp [intOf]; omega
    · go_wp2
      go_ret
      refine ⟨?_, rfl⟩
      show Ending.returned (.int .i64 (-1)) = _
      rw [atL_miss zs x 0 (fun j hj => HN.out j (by rw [Hz.out] at hj; omega))]

theorem list_eq_of {xs ys : List Int} (hl : xs.length = ys.length) (h : ∀ j, j < xs.length → xs[j]?.getD 0 = ys[j]?.getD 0) : xs = ys := by
  apply List.ext_getElem hl
  intro i h1 h2
  have := h i h1
  rw [List.getElem?_eq_getElem h1, List.getElem?_eq_getElem h2] at this
  simpa using this

set_option maxHeartbeats 400000 in
theorem same_any (A B : Option Addr) (n m c d : Nat) (xs ys : List Int) (w : World) (hx : xs.length = n) (hy : ys.length = m) (hn : n ≤ 9223372036854775807) (hm : m ≤ 9223372036854775807)
    (ha : Ints w w.heap.size A xs) (hb : Ints w w.heap.size B ys) :
    Calls Try.prog 18 #[.slice A n c, .slice B m d] w fun e w' => e = .returned (.bool (decide (xs = ys))) ∧ ∃ k, w' = w.drewN k := by
  have Hx := Lib.hid hx
  have Hy := Lib.hid hy
  clear hx hy
  by_cases hnm : n = m
  · subst hnm
    go_enter Try.func18, Try.ntmps18
    go_wp2
    go_loopw [5] (fun i wr => ∃ k q : Nat, k ≤ n ∧ i = .int .i64 k ∧ wr = w.drewN q ∧ ∀ j, j < k → xs[j]?.getD 0 = ys[j]?.getD 0) (fun i _ => n - (intOf i).toNat)
    case atStart => exact ⟨0, 0, Nat.zero_le _, rfl, rfl, by omega⟩
    case round =>
      obtain ⟨k, q, hk, rfl, rfl, hno⟩ := hrel
      have HN := Lib.hid hno
      clear hno
      by_cases hlt : k < n
      · obtain ⟨b, off, rfl, hb1, hc⟩ := ha (by rw [Hx.out]; omega)
        have hck := hc k (by rw [Hx.out]; omega)
        obtain ⟨b2, off2, rfl, hb2, hc2⟩ := hb (by rw [Hy.out]; omega)
        have hck2 := hc2 k (by rw [Hy.out]; omega)
        clear hc hc2
        go_wp2
        go_quiet (fail)
        go_wp2
        · go_ret
          have hne : ¬ xs[k]?.getD 0 = ys[k]?.getD 0 := by simp_all
          refine ⟨?_, _, World.drewN_drewN _ _ _⟩
          show Ending.returned (.bool false) = _
          rw [decide_eq_false]
          intro h; rw [h] at hne; exact hne rfl
        · go_roundw
          case rel => exact ⟨k+1, _, by omega, by go_num, rfl, fun j hj => by
              rcases Nat.lt_succ_iff_lt_or_eq.1 hj with h | h
              · exact HN.out j h
              · subst h; simp_all⟩
          case measure => simp [intOf]; omega
      · go_wp2
        go_ret
        refine ⟨?_, _, rfl⟩
        show Ending.returned (.bool true) = _
        rw [decide_eq_true]
        exact list_eq_of (by rw [Hx.out, Hy.out]) (fun j hj => HN.out j (by rw [Hx.out] at hj; omega))
  · have hne : ((n : Int) == (m : Int)) = false := by rw [beq_eq_false_iff_ne]; omega
    have hne2 : ((n : Int) != (m : Int)) = true := by rw [bne_iff_ne]; omega
    go_enter Try.func18, Try.ntmps18
    go_wp2
    go_ret
    refine ⟨?_, 0, rfl⟩
    show Ending.returned (.bool false) = _
    rw [decide_eq_false]
    intro h; apply hnm; rw [← Hx.out, ← Hy.out, h]

/-- a permutation -/
def IsPerm (zs : List Int) : Prop := zs.length ≤ 16 ∧ zs.Nodup ∧ ∀ z ∈ zs, 0 ≤ z ∧ z < zs.length
instance (zs : List Int) : Decidable (IsPerm zs) := by unfold IsPerm; exact inferInstance
end Go.Proofs.Ytomibgonhdkhdaa
