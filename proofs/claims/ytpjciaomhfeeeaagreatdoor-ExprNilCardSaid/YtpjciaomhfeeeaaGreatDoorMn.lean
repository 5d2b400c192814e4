/- perm.Right: the packed search. Contracts: slices.Clone, slices.Index at []int; perm.Same, perm.factorial. Contracts: perm.Same, ramageref02.Self, All, Step. perm.Step: two neighbours are exchanged in a copy. perm.Steps: the steps from one permutation to another one. ramageref02.Steps: the document's steps. Plain facts on pairs that stand otherwise than in order, and on exchanges of neighbours. Contracts: perm.Then, perm.Inverse, ramageref02.Pairs, perm.Rank. Orders in memory; contracts of order.Of, New, Vars, Var, Level, Perm. -/
import Derived.Test.YtpjciaomhfeeeaaGreatDoorMb
import Derived.Test.YtpjciaomhfeeeaaGreatDoorMa
section
namespace Go.Proofs.YtpjciaomhfeeeaaGreatDoor
open Go.RowKit
set_option linter.unusedSimpArgs false
set_option linter.unusedVariables false

/-- the state of the search behind k numbers -/
def Seen (zs : List Int) (n k q : Nat) : Prop :=
  q < 65536 ∧ (∀ j, q.testBit j = decide ((j : Int) ∈ zs.take k)) ∧ (zs.take k).Nodup ∧ ∀ z ∈ zs.take k, 0 ≤ z ∧ z < n

theorem Seen.start (zs : List Int) (n : Nat) : Seen zs n 0 0 := ⟨by omega, by simp, by simp, by simp⟩
theorem Seen.step {zs : List Int} {n k q : Nat} {x : Int} (h : Seen zs n k q) (hk : k < zs.length) (hx : zs[k]?.getD 0 = x) (h0 : 0 ≤ x) (h1 : x < n) (hn : n ≤ 16) (hb : q.testBit x.toNat = false) : Seen zs n (k + 1) (q ||| 2 ^ x.toNat) := by
  obtain ⟨a, b, c, d⟩ := h
  have hp : (2 : Nat) ^ x.toNat < 2 ^ 16 := Nat.pow_lt_pow_right (by omega) (by omega)
  rw [b] at hb
  have hb' : ¬ ((x.toNat : Nat) : Int) ∈ zs.take k := by simpa using hb
  rw [show ((x.toNat : Nat) : Int) = x by omega] at hb'
  unfold Seen
  rw [take_succ_getD zs k hk, hx]
  refine ⟨Nat.or_lt_two_pow (n := 16) a hp, fun j => ?_, ?_, ?_⟩
  · rw [testBit_or_pow, b, Bool.eq_iff_iff]
    simp only [Bool.or_eq_true, decide_eq_true_eq, List.mem_append, List.mem_singleton]
    constructor
    · rintro (h | h)
      · exact .inl h
      · right; omega
    · rintro (h | h)
      · exact .inl h
      · right; omega
  · rw [List.nodup_append]
    refine ⟨c, by simp, ?_⟩
    intro y hy z hz
    simp at hz
    subst hz
    rintro rfl
    exact hb' hy
  · intro z hz
    rcases List.mem_append.1 hz with h | h
    · exact d z h
    · simp at h; subst h; exact ⟨h0, h1⟩

theorem not_perm_out {zs : List Int} {k : Nat} {x : Int} (hk : k < zs.length) (hx : zs[k]?.getD 0 = x) (h : ¬ (0 ≤ x ∧ x < (zs.length : Int))) : ¬ IsPerm zs := by
  intro hp
  have := hp.2.2 _ (getD_mem zs k hk)
  rw [hx] at this
  exact h this
theorem not_perm_twice {zs : List Int} {n k q : Nat} {x : Int} (h : Seen zs n k q) (hk : k < zs.length) (hx : zs[k]?.getD 0 = x) (h0 : 0 ≤ x) (hb : q.testBit x.toNat = true) : ¬ IsPerm zs := by
  intro hp
  rw [h.2.1] at hb
  have hb' : ((x.toNat : Nat) : Int) ∈ zs.take k := by simpa using hb
  rw [show ((x.toNat : Nat) : Int) = x by omega] at hb'
  have h1 : (zs.take (k + 1)).Nodup := hp.2.1.sublist (List.take_sublist _ _)
  rw [take_succ_getD zs k hk, hx, List.nodup_append] at h1
  exact h1.2.2 x hb' x (by simp) rfl

set_option maxRecDepth 100000 in
set_option maxHeartbeats 400000 in
theorem prmRight_any (A : Option Addr) (n c : Nat) (zs : List Int) (w : World) (hz : zs.length = n) (hn : n ≤ 9223372036854775807) (hr : Ints w w.heap.size A zs) :
    Calls Tryz.prog 46 #[.slice A n c] w fun e w' => e = .returned (.bool (decide (IsPerm zs))) ∧ w = w' := by
  have Hz := Lib.hid hz
  clear hz
  by_cases h16 : n ≤ 16
  · go_enter Tryz.func46, Tryz.ntmps46
    go_wp2
    go_loop [3, 5, 11] (fun s _ i => ∃ k q : Nat, k ≤ n ∧ i = .int .i64 k ∧ s = .int .i64 q ∧ Seen zs n k q) (fun _ _ i => n - (intOf i).toNat)
    case atStart => exact ⟨0, 0, Nat.zero_le _, rfl, rfl, Seen.start _ _⟩
    case round =>
      obtain ⟨k, q, hk, rfl, rfl, HS⟩ := hrel
      have hq : q < 65536 := HS.1
      by_cases hlt : k < n
      · obtain ⟨b, off, rfl, hb, hc⟩ := hr (by rw [Hz.out]; omega)
        have hck := hc k (by rw [Hz.out]; omega)
        clear hc
        generalize hx : zs[k]?.getD 0 = x at hck
        have Hx := Lib.hid hx
        clear hx
        by_cases hx0 : 0 ≤ x ∧ x < n
        · obtain ⟨h0, h1⟩ := hx0
          have hbt := bit_test q (by omega) x h0
          have HO := Lib.hid (or_pow q (by omega) x.toNat (by omega))
          cases htb : q.testBit x.toNat
          · have hbf : (bits BinOp.and IntKind.i64 ((q : Int) / 2 ^ x.toNat) 1 == 1) = false := by rw [hbt, htb]; rfl
            have HT := Lib.hid htb
            clear hbt htb
            go_wp2
            go_round
            case rel => exact ⟨k + 1, _, by omega, by go_num, by rw [HO.out], HS.step (by rw [Hz.out]; exact hlt) Hx.out h0 h1 h16 HT.out⟩
            case measure => simp [intOf]; omega
          · have hbf : (bits BinOp.and IntKind.i64 ((q : Int) / 2 ^ x.toNat) 1 == 1) = true := by rw [hbt, htb]; rfl
            have HT := Lib.hid htb
            clear hbt htb
            go_wp2
            go_ret
            refine ⟨?_, rfl⟩
            show Ending.returned (.bool false) = _
            rw [decide_eq_false (not_perm_twice HS (by rw [Hz.out]; exact hlt) Hx.out h0 HT.out)]
        · have hnp : Hid (¬ IsPerm zs) := Lib.hid (not_perm_out (by rw [Hz.out]; exact hlt) Hx.out (by rw [Hz.out]; exact hx0))
          by_cases h0 : 0 ≤ x
          · have h1 : (n : Int) ≤ x := by omega
            clear hx0
            go_wp2
            go_ret
            exact ⟨by show Ending.returned (.bool false) = _; rw [decide_eq_false hnp.out], rfl⟩
          · clear hx0
            go_wp2
            go_ret
            exact ⟨by show Ending.returned (.bool false) = _; rw [decide_eq_false hnp.out], rfl⟩
      · have hkn : k = n := by omega
        have Hk := Lib.hid hkn
        clear hkn
        go_wp2
        go_ret
        refine ⟨?_, rfl⟩
        show Ending.returned (.bool true) = _
        rw [decide_eq_true]
        obtain ⟨_, _, c, d⟩ := HS
        rw [Hk.out, ← Hz.out, List.take_length] at c d
        exact ⟨by rw [Hz.out]; exact h16, c, d⟩
  · go_enter Tryz.func46, Tryz.ntmps46
    go_wp2
    go_ret
    refine ⟨?_, rfl⟩
    show Ending.returned (.bool false) = _
    rw [decide_eq_false]
    intro h; have := h.1; rw [Hz.out] at this; omega
end Go.Proofs.YtpjciaomhfeeeaaGreatDoor
end

section
namespace Go.Proofs.YtpjciaomhfeeeaaGreatDoor
open Go.RowKit
set_option linter.unusedSimpArgs false
set_option linter.unusedVariables false

set_option maxRecDepth 100000 in
set_option maxHeartbeats 400000 in
theorem clone_any (A : Option Addr) (n c : Nat) (zs : List Int) (w : World) (hz : zs.length = n) (hn : n ≤ 34359738367) (hr : Ints w w.heap.size A zs) :
    Calls Tryz.prog 39 #[.slice A n c] w fun e w' => ∃ v, e = .returned v ∧ OwnI w' w.heap.size v zs ∧ Below w.heap.size w w' := by
  obtain ⟨i0, hi, hz0, hz1, hz2⟩ := info_parts info_int
  have heq := fun (W : World) => Lib.run_eql_slice_nil (P := Tryz.prog) W 42 3 A n c 0 0 Tryz.underlying42
  rcases A with _ | ad
  · have hn0 : zs = [] := by
      cases zs with
      | nil => rfl
      | cons z r => obtain ⟨_, _, h, _⟩ := hr (by simp); cases h
    subst hn0
    go_enter Tryz.func39, Tryz.ntmps39
    go_wp2
    go_ret
    exact ⟨_, rfl, OwnF.nil_, Below.refl _ _⟩
  · have hsrc := Lib.hid ((hr.src hz).alloc (.cells #[] 3))
    have hown0 : OwnI (w.alloc (.cells #[] 3)) w.heap.size (.slice (some ⟨w.heap.size, 0, none⟩) 0 0) [] := World.ownsRow_lit w #[] 0 (Nat.le_refl _) (by unfold maxLen; omega) rfl
    have hown := Lib.hid hown0
    clear hown0 hz hr
    go_enter Tryz.func39, Tryz.ntmps39
    go_wp2_with (at_builtin; refine wp_appN (f := Value.int .i64) Tryz.underlying42 hi hz0 hz1 hz2 rfl (by omega) _ rfl _ _ rfl w.heap.size _ [] zs (some ad) n c (fun _ => rfl) hown.out hsrc.out (by simp) (by simp; omega) rfl rfl ?_; intro v1 w1 hown1 hb1 hs1 hg1 hv1)
    go_ret
    simp only [List.nil_append] at hown1
    exact ⟨_, rfl, hown1, ((Below.refl _ _).alloc (Nat.le_refl _) _).trans hb1⟩

/-- n factorial -/
def fact : Nat → Nat
  | 0 => 1
  | n + 1 => (n + 1) * fact n
theorem fact_pos : ∀ n, 1 ≤ fact n
  | 0 => Nat.le_refl _
  | n + 1 => by have := fact_pos n; have : (n + 1) * 1 ≤ (n + 1) * fact n := Nat.mul_le_mul_left _ this; unfold fact; omega
theorem fact_mono {m n : Nat} (h : m ≤ n) : fact m ≤ fact n := by
  induction n with
  | zero => have : m = 0 := by omega
            subst this; exact Nat.le_refl _
  | succ n ih =>
    rcases Nat.lt_or_ge n m with h1 | h1
    · have : m = n + 1 := by omega
      subst this; exact Nat.le_refl _
    · have := ih h1
      have h2 : 1 * fact n ≤ (n + 1) * fact n := Nat.mul_le_mul_right _ (by omega)
      show fact m ≤ (n + 1) * fact n
      omega
theorem fact16 : fact 16 = 20922789888000 := by decide
theorem fact_le16 {n : Nat} (h : n ≤ 16) : fact n ≤ 20922789888000 := by rw [← fact16]; exact fact_mono h
theorem fact_succ (n : Nat) : fact (n + 1) = (n + 1) * fact n := rfl

end Go.Proofs.YtpjciaomhfeeeaaGreatDoor
end

section
namespace Go.Proofs.YtpjciaomhfeeeaaGreatDoor
open Go.RowKit
set_option linter.unusedSimpArgs false
set_option linter.unusedVariables false

/-- 0, 1, .., n-1 -/
def iota (n : Nat) : List Int := (List.range n).map fun (i : Nat) => (i : Int)
theorem iota_length (n : Nat) : (iota n).length = n := by simp [iota]
theorem iota_get {n k : Nat} (h : k < n) : (iota n)[k]?.getD 0 = (k : Int) := by
  unfold iota
  rw [List.getElem?_map, List.getElem?_range h]; rfl
theorem iota_succ (n : Nat) : iota (n + 1) = iota n ++ [(n : Int)] := by
  unfold iota
  rw [List.range_succ, List.map_append]; rfl
theorem iota_perm {n : Nat} (h : n ≤ 16) : IsPerm (iota n) := by
  refine ⟨by rw [iota_length]; exact h, ?_, ?_⟩
  · unfold iota
    refine List.nodup_range.map (f := fun (i : Nat) => (i : Int)) ?_
    intro a b hab h
    have h' : (a : Int) = (b : Int) := h
    omega
  · intro z hz
    unfold iota at hz
    obtain ⟨i, hi, rfl⟩ := List.mem_map.1 hz
    rw [iota_length]
    have := List.mem_range.1 hi
    omega

end Go.Proofs.YtpjciaomhfeeeaaGreatDoor
end

section
namespace Go.Proofs.YtpjciaomhfeeeaaGreatDoor
open Go.RowKit
set_option linter.unusedSimpArgs false
set_option linter.unusedVariables false

/-- the numbers at k and k+1 exchanged -/
def swapL (l : List Int) (k : Nat) : List Int := (l.set k (l[k + 1]?.getD 0)).set (k + 1) (l[k]?.getD 0)
theorem swapL_length (l : List Int) (k : Nat) : (swapL l k).length = l.length := by simp [swapL]

theorem OwnF.form' {α : Type} {f : α → Value} {E : TypeId} {w : World} {base : Nat} {v : Value} {xs : List α} (h : OwnF f E w base v xs) :
    ∃ A n c g, v = .slice A n c ∧ xs.length = n ∧ n ≤ c ∧ (0 < n → A = some ⟨g, 0, none⟩ ∧ base ≤ g ∧ g < w.heap.size) := by
  rcases Nat.eq_zero_or_pos xs.length with h0 | h0
  · obtain ⟨A, n, c, rfl, hl, hc⟩ := h.form
    exact ⟨A, n, c, 0, rfl, hl, hc, fun h1 => by omega⟩
  · obtain ⟨g, c, rfl, h1, h2, h3⟩ := h.head h0
    exact ⟨_, _, c, g, rfl, rfl, h3, fun _ => ⟨rfl, h1, h2⟩⟩

/-- what the exchange of two neighbours in place leaves -/
theorem OwnI.swap {w : World} {base g n c : Nat} {zs : List Int} (h : OwnI w base (.slice (some ⟨g, 0, none⟩) n c) zs) (k : Nat) (hk : k + 1 < n) :
    w.cell? ⟨g, k, none⟩ = some (.int .i64 (zs[k]?.getD 0)) ∧ w.cell? ⟨g, k + 1, none⟩ = some (.int .i64 (zs[k + 1]?.getD 0)) ∧ w.frozen? ⟨g, k, none⟩ = false ∧ w.frozen? ⟨g, k + 1, none⟩ = false ∧
      OwnI ((w.setCell ⟨g, k, none⟩ (.int .i64 (zs[k + 1]?.getD 0))).setCell ⟨g, k + 1, none⟩ (.int .i64 (zs[k]?.getD 0))) base (.slice (some ⟨g, 0, none⟩) n c) (swapL zs k) := by
  obtain ⟨A, n', c', hv, hn, _⟩ := OwnF.form h
  injection hv with _ hv _
  subst hv
  have h1 := OwnF.at_ h k (by omega)
  have h2 := OwnF.at_ h (k + 1) (by omega)
  rw [List.getElem?_eq_getElem (by omega)] at h1 h2
  rw [List.getElem?_eq_getElem (by omega : k < zs.length), List.getElem?_eq_getElem (by omega : k + 1 < zs.length)]
  refine ⟨h1.1, h2.1, h1.2, h2.2, ?_⟩
  have h3 := OwnF.set_ (OwnF.set_ h k (zs[k + 1]'(by omega))) (k + 1) (zs[k]'(by omega))
  unfold swapL
  rw [List.getElem?_eq_getElem (by omega : k < zs.length), List.getElem?_eq_getElem (by omega : k + 1 < zs.length)]
  exact h3

/-! ### The document's Step -/
def refStep (p : List Int) (i : Int) : List Int :=
  (List.range p.length).map fun (k : Nat) => if (k : Int) = i then p[k + 1]?.getD 0 else if (k : Int) = i + 1 then p[k - 1]?.getD 0 else p[k]?.getD 0
def refStepTo (p : List Int) (i : Int) (m : Nat) : List Int :=
  (List.range m).map fun (k : Nat) => if (k : Int) = i then p[k + 1]?.getD 0 else if (k : Int) = i + 1 then p[k - 1]?.getD 0 else p[k]?.getD 0
theorem refStepTo_succ (p : List Int) (i : Int) (m : Nat) : refStepTo p i (m + 1) = refStepTo p i m ++ [if (m : Int) = i then p[m + 1]?.getD 0 else if (m : Int) = i + 1 then p[m - 1]?.getD 0 else p[m]?.getD 0] := by
  unfold refStepTo
  rw [List.range_succ, List.map_append]; rfl
theorem refStepTo_length (p : List Int) (i : Int) (m : Nat) : (refStepTo p i m).length = m := by simp [refStepTo]
theorem refStep_length (p : List Int) (i : Int) : (refStep p i).length = p.length := by simp [refStep]

theorem refStep_swap (p : List Int) (k : Nat) (hk : k + 1 < p.length) : refStep p (k : Int) = swapL p k := by
  apply list_eq_of
  · rw [refStep_length, swapL_length]
  · intro j hj
    rw [refStep_length] at hj
    unfold refStep swapL
    rw [List.getElem?_map, List.getElem?_range hj]
    simp only [Option.map_some, Option.getD_some]
    by_cases h1 : j = k
    · subst h1
      rw [if_pos rfl, List.getElem?_set_ne (by omega), List.getElem?_set_self (by omega)]; rfl
    · by_cases h2 : j = k + 1
      · subst h2
        rw [if_neg (by omega), if_pos (by omega), List.getElem?_set_self (by simp; omega)]; rfl
      · rw [if_neg (by omega), if_neg (by omega), List.getElem?_set_ne (by omega), List.getElem?_set_ne (by omega)]

end Go.Proofs.YtpjciaomhfeeeaaGreatDoor
end

section
namespace Go.Proofs.YtpjciaomhfeeeaaGreatDoor
open Go.RowKit
set_option linter.unusedSimpArgs false
set_option linter.unusedVariables false

/-- d steps down to place i -/
def downs (i : Nat) : Nat → List Int → List Int
  | 0, now => now
  | d + 1, now => downs i d (swapL now (i + d))
def downL (i : Nat) : Nat → List Int
  | 0 => []
  | d + 1 => ((i + d : Nat) : Int) :: downL i d
def stepsM : List Int → Nat → List Int → List Int
  | [], _, _ => []
  | x :: r, i, now => downL i (atL now x 0 - i).toNat ++ stepsM r (i + 1) (downs i (atL now x 0 - i).toNat now)
theorem downs_length (i : Nat) : ∀ d now, (downs i d now).length = now.length
  | 0, _ => rfl
  | d + 1, now => by unfold downs; rw [downs_length, swapL_length]
theorem downL_length (i : Nat) : ∀ d, (downL i d).length = d
  | 0 => rfl
  | d + 1 => by unfold downL; rw [List.length_cons, downL_length]
theorem atL_lt (zs : List Int) (x : Int) : ∀ s : Nat, atL zs x s < (s + zs.length : Nat) := by
  induction zs with
  | nil => intro s; unfold atL; omega
  | cons z r ih =>
    intro s
    unfold atL
    split
    · simp; omega
    · have := ih (s + 1); simp at this ⊢; omega
theorem atL_lo (zs : List Int) (x : Int) : ∀ s : Nat, atL zs x s = -1 ∨ (s : Int) ≤ atL zs x s := by
  induction zs with
  | nil => intro s; exact .inl rfl
  | cons z r ih =>
    intro s
    unfold atL
    split
    · right; omega
    · rcases ih (s + 1) with h | h
      · exact .inl h
      · right; omega
theorem drop_cons (q : List Int) (k : Nat) (h : k < q.length) : q.drop k = q[k]?.getD 0 :: q.drop (k + 1) := by
  rw [List.drop_eq_getElem_cons h, List.getElem?_eq_getElem h]; rfl

end Go.Proofs.YtpjciaomhfeeeaaGreatDoor
end

section
namespace Go.Proofs.YtpjciaomhfeeeaaGreatDoor
open Go.RowKit
set_option linter.unusedSimpArgs false
set_option linter.unusedVariables false

theorem atL_spec (zs : List Int) (x : Int) : ∀ (s k : Nat), atL zs x s = (s + k : Nat) → k < zs.length ∧ zs[k]?.getD 0 = x ∧ ∀ j, j < k → zs[j]?.getD 0 ≠ x := by
  induction zs with
  | nil => intro s k h; unfold atL at h; omega
  | cons z r ih =>
    intro s k h
    unfold atL at h
    split at h
    · have : k = 0 := by omega
      subst this
      refine ⟨by simp, by simpa, fun j hj => by omega⟩
    · cases k with
      | zero =>
        rcases atL_lo r x (s + 1) with h2 | h2
        · omega
        · omega
      | succ k =>
        obtain ⟨h1, h2, h3⟩ := ih (s + 1) k (by rw [h]; congr 1; omega)
        refine ⟨by simp; omega, by simpa using h2, fun j hj => ?_⟩
        cases j with
        | zero => simpa
        | succ j => simpa using h3 j (by omega)

theorem atL_swap (cur : List Int) (x : Int) (m : Nat) (h : atL cur x 0 = ((m + 1 : Nat) : Int)) : atL (swapL cur m) x 0 = (m : Int) := by
  obtain ⟨h1, h2, h3⟩ := atL_spec cur x 0 (m + 1) (by rw [h]; congr 1; omega)
  have := atL_hit (swapL cur m) x m 0 (by rw [swapL_length]; omega) (by
      unfold swapL
      rw [List.getElem?_set_ne (by omega), List.getElem?_set_self (by omega)]
      exact h2) (fun j hj => by
      unfold swapL
      rw [List.getElem?_set_ne (by omega), List.getElem?_set_ne (by omega)]
      exact h3 j (by omega))
  rw [this, Nat.zero_add]

end Go.Proofs.YtpjciaomhfeeeaaGreatDoor
end

section
namespace Go.Proofs.YtpjciaomhfeeeaaGreatDoor
open Go.RowKit
set_option linter.unusedSimpArgs false
set_option linter.unusedVariables false

/-- pairs that stand otherwise than in order -/
def inv : List Int → Nat
  | [] => 0
  | x :: r => r.countP (fun y => decide (y < x)) + inv r

theorem inv_append1 (l : List Int) (x : Int) : inv (l ++ [x]) = inv l + l.countP (fun y => decide (x < y)) := by
  induction l with
  | nil => rfl
  | cons z r ih =>
    simp only [List.cons_append, inv, ih, List.countP_append, List.countP_cons, List.countP_nil]
    by_cases h : x < z <;> simp [h] <;> omega

/-- pairs of the first m numbers, as they are counted -/
def pairsTo (zs : List Int) : Nat → Nat
  | 0 => 0
  | m + 1 => pairsTo zs m + (zs.take m).countP (fun y => decide (zs[m]?.getD 0 < y))
theorem pairsTo_eq (zs : List Int) : ∀ m, m ≤ zs.length → pairsTo zs m = inv (zs.take m) := by
  intro m
  induction m with
  | zero => intro _; rfl
  | succ m ih =>
    intro h
    rw [take_succ_getD zs m (by omega), inv_append1, ← ih (by omega)]; rfl

theorem swapL_cons (x : Int) (l : List Int) (k : Nat) : swapL (x :: l) (k + 1) = x :: swapL l k := by simp [swapL]
theorem swapL_zero (a b : Int) (r : List Int) : swapL (a :: b :: r) 0 = b :: a :: r := by simp [swapL]
theorem swapL_countP (p : Int → Bool) : ∀ (l : List Int) (k : Nat), k + 1 < l.length → (swapL l k).countP p = l.countP p := by
  intro l
  induction l with
  | nil => intro k h; simp at h
  | cons x r ih =>
    intro k h
    cases k with
    | zero =>
      cases r with
      | nil => simp at h
      | cons b r => rw [swapL_zero]; simp only [List.countP_cons]; omega
    | succ k => rw [swapL_cons, List.countP_cons, List.countP_cons, ih k (by simpa using h)]

theorem inv_swap_down : ∀ (l : List Int) (k : Nat), k + 1 < l.length → l[k + 1]?.getD 0 < l[k]?.getD 0 → inv (swapL l k) + 1 = inv l := by
  intro l
  induction l with
  | nil => intro k h; simp at h
  | cons x r ih =>
    intro k h hd
    cases k with
    | zero =>
      cases r with
      | nil => simp at h
      | cons b r =>
        rw [swapL_zero]
        simp at hd
        have h2 : ¬ x < b := by omega
        simp only [inv, List.countP_cons, hd, h2, decide_true, decide_false, if_true, if_false, Bool.false_eq_true]
        omega
    | succ k =>
      rw [swapL_cons]
      simp only [inv]
      have := ih k (by simpa using h) (by simpa using hd)
      rw [swapL_countP _ _ _ (by simpa using h)]
      omega
theorem inv_swap_up : ∀ (l : List Int) (k : Nat), k + 1 < l.length → l[k]?.getD 0 < l[k + 1]?.getD 0 → inv (swapL l k) = inv l + 1 := by
  intro l
  induction l with
  | nil => intro k h; simp at h
  | cons x r ih =>
    intro k h hd
    cases k with
    | zero =>
      cases r with
      | nil => simp at h
      | cons b r =>
        rw [swapL_zero]
        simp at hd
        have h2 : ¬ b < x := by omega
        simp only [inv, List.countP_cons, hd, h2, decide_true, decide_false, if_true, if_false, Bool.false_eq_true]
        omega
    | succ k =>
      rw [swapL_cons]
      simp only [inv]
      have := ih k (by simpa using h) (by simpa using hd)
      rw [swapL_countP _ _ _ (by simpa using h)]
      omega
theorem swapL_perm (l : List Int) (k : Nat) (h : k + 1 < l.length) : (swapL l k).Perm l := by
  rw [List.perm_iff_count]
  intro a
  exact swapL_countP _ l k h
theorem IsPerm.of_perm {a b : List Int} (h : IsPerm a) (hp : b.Perm a) : IsPerm b := by
  obtain ⟨h1, h2, h3⟩ := h
  refine ⟨by rw [hp.length_eq]; exact h1, hp.nodup_iff.2 h2, fun z hz => ?_⟩
  rw [hp.length_eq]
  exact h3 z (hp.mem_iff.1 hz)
theorem IsPerm.swap {l : List Int} (h : IsPerm l) {k : Nat} (hk : k + 1 < l.length) : IsPerm (swapL l k) := h.of_perm (swapL_perm l k hk)
theorem IsPerm.inj {l : List Int} (h : IsPerm l) {i j : Nat} (hi : i < l.length) (hj : j < l.length) (he : l[i]?.getD 0 = l[j]?.getD 0) : i = j := by
  rw [List.getElem?_eq_getElem hi, List.getElem?_eq_getElem hj] at he
  have hp := List.pairwise_iff_getElem.1 h.2.1
  rcases Nat.lt_trichotomy i j with h1 | h1 | h1
  · exact absurd he (hp i j hi hj h1)
  · exact h1
  · exact absurd he.symm (hp j i hj hi h1)
/-- a permutation without such pairs is 0, 1, .. -/
theorem sorted_of_inv (l : List Int) (h : inv l = 0) : ∀ i j, i < j → j < l.length → l[i]?.getD 0 ≤ l[j]?.getD 0 := by
  induction l with
  | nil => intro i j _ hj; simp at hj
  | cons x r ih =>
    simp only [inv] at h
    intro i j hij hj
    cases j with
    | zero => omega
    | succ j =>
      cases i with
      | zero =>
        have h0 : r.countP (fun y => decide (y < x)) = 0 := by omega
        rw [List.countP_eq_zero] at h0
        have := h0 _ (getD_mem r j (by simpa using hj))
        simp at this
        simpa using this
      | succ i => simpa using ih (by omega) i j (by omega) (by simpa using hj)
theorem iota_of_sorted (l : List Int) (hp : IsPerm l) (hs : ∀ i j, i < j → j < l.length → l[i]?.getD 0 ≤ l[j]?.getD 0) : l = iota l.length := by
  have hlt : ∀ i j, i < j → j < l.length → l[i]?.getD 0 < l[j]?.getD 0 := fun i j hij hj => by
    rcases Int.lt_or_eq_of_le (hs i j hij hj) with h | h
    · exact h
    · have := hp.inj (by omega) hj h; omega
  have hlo : ∀ i : Nat, i < l.length → (i : Int) ≤ l[i]?.getD 0 := by
    intro i
    induction i with
    | zero => intro h; exact (hp.get h).1
    | succ i ih => intro h; have := ih (by omega); have := hlt i (i + 1) (by omega) h; omega
  have hhi : ∀ d i : Nat, i + d + 1 = l.length → l[i]?.getD 0 ≤ (i : Int) := by
    intro d
    induction d with
    | zero => intro i h; have := (hp.get (k := i) (by omega)).2; omega
    | succ d ih => intro i h; have := ih (i + 1) (by omega); have := hlt i (i + 1) (by omega) (by omega); omega
  apply list_eq_of
  · rw [iota_length]
  · intro j hj
    rw [iota_get hj]
    have := hlo j hj
    have := hhi (l.length - 1 - j) j (by omega)
    omega
/-- otherwise two neighbours stand so -/
theorem descent (l : List Int) (hp : IsPerm l) (h : l ≠ iota l.length) : ∃ k, k + 1 < l.length ∧ l[k + 1]?.getD 0 < l[k]?.getD 0 := by
  rcases Classical.em (∃ k, k + 1 < l.length ∧ l[k + 1]?.getD 0 < l[k]?.getD 0) with h1 | h1
  · exact h1
  · exfalso
    apply h
    apply iota_of_sorted l hp
    intro i j hij hj
    obtain ⟨d, rfl⟩ : ∃ d, j = i + d := ⟨j - i, by omega⟩
    clear hij
    induction d with
    | zero => exact Int.le_refl _
    | succ d ih =>
      have h2 := ih (by omega)
      rcases Int.lt_or_le (l[i + (d + 1)]?.getD 0) (l[i + d]?.getD 0) with h3 | h3
      · exact absurd ⟨i + d, by omega, h3⟩ h1
      · omega
theorem inv_iota (n : Nat) : inv (iota n) = 0 := by
  induction n with
  | zero => rfl
  | succ n ih =>
    rw [iota_succ, inv_append1, ih]
    simp only [Nat.zero_add]
    rw [List.countP_eq_zero]
    intro a ha
    unfold iota at ha
    obtain ⟨i, hi, rfl⟩ := List.mem_map.1 ha
    have := List.mem_range.1 hi
    simp; omega
end Go.Proofs.YtpjciaomhfeeeaaGreatDoor
end

section
namespace Go.Proofs.YtpjciaomhfeeeaaGreatDoor
open Go.RowKit
set_option linter.unusedSimpArgs false
set_option linter.unusedVariables false

/-- one behind the other -/
def thenL (ps qs : List Int) : List Int := ps.map fun z => qs[z.toNat]?.getD 0
theorem thenL_length (ps qs : List Int) : (thenL ps qs).length = ps.length := by simp [thenL]
theorem thenL_get (ps qs : List Int) (k : Nat) (h : k < ps.length) : (thenL ps qs)[k]?.getD 0 = qs[(ps[k]?.getD 0).toNat]?.getD 0 := by
  unfold thenL
  rw [List.getElem?_map, List.getElem?_eq_getElem h]; rfl
/-- the first k of thenL, zeros behind -/
def thenTo (ps qs : List Int) (k : Nat) : List Int := (thenL ps qs).take k ++ List.replicate (ps.length - k) 0
theorem thenTo_length (ps qs : List Int) (k : Nat) (h : k ≤ ps.length) : (thenTo ps qs k).length = ps.length := by
  unfold thenTo
  rw [List.length_append, List.length_take, thenL_length, List.length_replicate]; omega
theorem thenTo_set (ps qs : List Int) (k : Nat) (h : k < ps.length) : (thenTo ps qs k).set k ((thenL ps qs)[k]?.getD 0) = thenTo ps qs (k + 1) := by
  unfold thenTo
  have h1 : ((thenL ps qs).take k).length = k := by rw [List.length_take, thenL_length]; omega
  rw [List.set_append_right _ _ (by rw [h1]; exact Nat.le_refl _), h1, Nat.sub_self, take_succ_getD _ _ (by rw [thenL_length]; exact h), show ps.length - k = (ps.length - (k + 1)) + 1 by omega, List.replicate_succ]
  simp
theorem thenTo_all (ps qs : List Int) : thenTo ps qs ps.length = thenL ps qs := by
  unfold thenTo
  rw [Nat.sub_self, List.replicate_zero, List.append_nil, List.take_of_length_le (by rw [thenL_length]; exact Nat.le_refl _)]

/-- back -/
def InvOf (ps L : List Int) : Prop := L.length = ps.length ∧ ∀ i : Nat, i < ps.length → L[(ps[i]?.getD 0).toNat]?.getD 0 = (i : Int)

set_option maxRecDepth 100000 in
set_option maxHeartbeats 1000000 in
theorem inverse_yes (A : Option Addr) (n c : Nat) (ps : List Int) (w : World) (hp : ps.length = n) (hP : IsPerm ps) (ha : Ints w w.heap.size A ps) :
    Calls Tryz.prog 38 #[.slice A n c] w fun e w' => ∃ L, e = .returned (.tuple #[.slice (some ⟨w.heap.size, 0, none⟩) n n, .bool true]) ∧ OwnI w' w.heap.size (.slice (some ⟨w.heap.size, 0, none⟩) n n) L ∧ InvOf ps L ∧ Below w.heap.size w w' := by
  obtain ⟨i0, hi, hz0, hz1, hz2⟩ := info_parts info_int
  have hn16 : n ≤ 16 := by rw [← hp]; exact hP.1
  have Hp := Lib.hid hp
  have HP := Lib.hid (decide_eq_true hP)
  have HP' := Lib.hid hP
  clear hp hP
  go_enter Tryz.func38, Tryz.ntmps38
  go_wp2_with fail
  refine (prmRight_any A n c ps _ Hp.out (by omega) ha).mono ?_
  rintro e w' ⟨rfl, rfl⟩
  rw [HP.out]
  go_wp2_with (at_make; refine wp_make (f := Value.int .i64) Tryz.underlying42 hi hz0 hz1 hz2 rfl _ rfl _ _ rfl (n : Int) n rfl rfl rfl (by omega) (by unfold maxLen; omega) ?_; intro w1 hown1 hb1 hs1)
  have ha1 := ha.below' hb1
  go_loopw [5, 6, 15] (fun _ _ i wr => ∃ (k : Nat) (L : List Int), k ≤ n ∧ i = .int .i64 k ∧ OwnI wr w.heap.size (.slice (some ⟨w.heap.size, 0, none⟩) n n) L ∧ L.length = n ∧ (∀ i : Nat, i < k → L[(ps[i]?.getD 0).toNat]?.getD 0 = (i : Int)) ∧ Below w.heap.size w1 wr) (fun _ _ i _ => n - (intOf i).toNat)
  case atStart => exact ⟨0, List.replicate n 0, Nat.zero_le _, rfl, hown1, by simp, by omega, Below.refl _ _⟩
  case round =>
    obtain ⟨k, L, hk, rfl, hown, hL, hLi, hbw⟩ := hrel
    have HL := Lib.hid hL
    have HLi := Lib.hid hLi
    clear hL hLi
    by_cases hlt : k < n
    · obtain ⟨ba, oa, rfl, hba, hca⟩ := ha1 (by rw [Hp.out]; omega)
      have hx := HP'.out.get (k := k) (by rw [Hp.out]; exact hlt)
      rw [Hp.out] at hx
      have hck := (hbw.cell (p := ⟨ba, oa + k, none⟩) hba).trans (hca k (by rw [Hp.out]; exact hlt))
      have HX : Hid (ps[k]?.getD 0 = ps[k]?.getD 0) := Lib.hid rfl
      generalize hxe : ps[k]?.getD 0 = x at hck hx HX
      have HXE := Lib.hid hxe
      clear hxe HX
      obtain ⟨hx0, hx1⟩ := hx
      have hg := OwnF.at_ hown x.toNat (by rw [HL.out]; omega)
      have hc : ∃ u, wr.cell? ⟨w.heap.size, x.toNat, none⟩ = some u := by
        rw [hg.1, List.getElem?_eq_getElem (by rw [HL.out]; omega)]
        exact ⟨_, rfl⟩
      obtain ⟨u, hc⟩ := hc
      have hf := hg.2
      have hst := OwnF.set_ hown x.toNat (k : Int)
      have hbs := hbw.setCell (p := ⟨w.heap.size, x.toNat, none⟩) (Nat.le_refl _) (.int .i64 (k : Int))
      clear hg hown hown1 hca
      go_wp2
      go_roundw
      case rel => exact ⟨k + 1, L.set x.toNat (k : Int), by omega, by go_num, hst, by rw [List.length_set]; exact HL.out, fun i hi => by
          rcases Nat.lt_succ_iff_lt_or_eq.1 hi with h | h
          · have h1 := HP'.out.get (k := i) (by rw [Hp.out]; omega)
            have hne : x.toNat ≠ (ps[i]?.getD 0).toNat := by
              intro e
              have := HP'.out.inj (i := i) (j := k) (by rw [Hp.out]; omega) (by rw [Hp.out]; omega) (by rw [HXE.out]; omega)
              omega
            rw [List.getElem?_set_ne hne]
            exact HLi.out i h
          · subst h
            rw [HXE.out, List.getElem?_set_self (by rw [HL.out]; omega)]; rfl, hbs⟩
      case measure => simp [intOf]; omega
    · have hkn : k = n := by omega
      have HI : Hid (InvOf ps L) := Lib.hid ⟨by rw [HL.out, Hp.out], fun i hi => HLi.out i (by rw [Hp.out] at hi; omega)⟩
      clear hkn hown1
      go_wp2
      go_ret2
      exact ⟨L, rfl, hown, HI.out, hb1.trans hbw⟩

theorem inverse_no (A : Option Addr) (n c : Nat) (ps : List Int) (w : World) (hp : ps.length = n) (hn : n ≤ 9223372036854775807) (ha : Ints w w.heap.size A ps) (hno : ¬ IsPerm ps) :
    Calls Tryz.prog 38 #[.slice A n c] w fun e w' => e = .returned (.tuple #[.slice none 0 0, .bool false]) ∧ w = w' := by
  have Hp := Lib.hid hp
  have HP := Lib.hid (decide_eq_false hno)
  clear hp hno
  go_enter Tryz.func38, Tryz.ntmps38
  go_wp2_with fail
  refine (prmRight_any A n c ps _ Hp.out hn ha).mono ?_
  rintro e w' ⟨rfl, rfl⟩
  rw [HP.out]
  go_wp2_with fail
  go_ret2
  exact ⟨rfl, rfl⟩

end Go.Proofs.YtpjciaomhfeeeaaGreatDoor
end

section
namespace Go.Proofs.YtpjciaomhfeeeaaGreatDoor
open Go.RowKit
set_option linter.unusedSimpArgs false
set_option linter.unusedVariables false

/-- block g is an order: variables by levels ps, levels by variables ls; F: its blocks -/
def OrdAt (w : World) (F : List Nat) (g : Nat) (ps ls : List Int) : Prop :=
  ∃ (A : Option Addr) (n c : Nat) (A' : Option Addr) (c' : Nat), Blk w g 105 #[.slice A n c, .slice A' n c'] ∧ OwnI w 0 (.slice A n c) ps ∧ OwnI w 0 (.slice A' n c') ls ∧ ps.length = n ∧ ls.length = n ∧
    F = g :: (blk (.slice A n c) ++ blk (.slice A' n c')) ∧ F.Nodup

theorem OrdAt.chg {w w' : World} {F G : List Nat} {g : Nat} {ps ls : List Int} (h : OrdAt w F g ps ls) (hb : Chg G w w') (hd : ∀ k ∈ F, ¬ k ∈ G) : OrdAt w' F g ps ls := by
  obtain ⟨A, n, c, A', c', h1, h2, h3, h4, h5, rfl, h7⟩ := h
  exact ⟨A, n, c, A', c', h1.chg hb (hd g (by simp)), h2.chg hb (fun k hk => hd k (by simp [hk])), h3.chg hb (fun k hk => hd k (by simp [hk])), h4, h5, rfl, h7⟩
theorem OrdAt.lt {w : World} {F : List Nat} {g : Nat} {ps ls : List Int} (h : OrdAt w F g ps ls) : ∀ k ∈ F, k < w.heap.size := by
  obtain ⟨A, n, c, A', c', h1, h2, h3, h4, h5, rfl, h7⟩ := h
  intro k hk
  rcases List.mem_cons.1 hk with rfl | hk
  · exact h1.lt
  · rcases List.mem_append.1 hk with hk | hk
    · exact OwnF.blk_lt h2 k hk
    · exact OwnF.blk_lt h3 k hk
theorem OrdAt.on {w w' : World} {F : List Nat} {g : Nat} {ps ls : List Int} (h : OrdAt w F g ps ls) (hb : Below w.heap.size w w') : OrdAt w' F g ps ls :=
  h.chg (G := []) (chg_of_below hb) (fun _ _ h => by cases h)

set_option maxHeartbeats 1000000 in
theorem orderOf_yes (A : Option Addr) (n c : Nat) (ps : List Int) (w : World) (hp : ps.length = n) (hP : IsPerm ps) (ha : Ints w w.heap.size A ps) :
    Calls Tryz.prog 25 #[.slice A n c] w fun e w' => ∃ g F ls, e = .returned (.tuple #[.pointer (some ⟨g, 0, none⟩), .int .u8 0]) ∧ OrdAt w' F g ps ls ∧ InvOf ps ls ∧ (∀ k ∈ F, w.heap.size ≤ k) ∧ Below w.heap.size w w' := by
  have Hp := Lib.hid hp
  have HP := Lib.hid hP
  have hn16 : n ≤ 16 := by rw [← hp]; exact hP.1
  clear hp hP
  go_enter Tryz.func25, Tryz.ntmps25
  go_wp2_with fail
  refine (inverse_yes A n c ps _ Hp.out HP.out ha).mono ?_
  rintro e w1 ⟨L, rfl, hownL, hinv, hb1⟩
  have HV := Lib.hid hinv
  clear hinv
  go_wp2_with fail
  refine (clone_any A n c ps _ Hp.out (by omega) (ha.on hb1)).mono ?_
  rintro e w2 ⟨v, rfl, hownC, hb2⟩
  have hownL2 := hownL.below hb2
  obtain ⟨A2, n2, c2, rfl, h2, _⟩ := OwnF.form hownC
  obtain rfl : n = n2 := by rw [← h2, Hp.out]
  clear h2
  go_wp2_with fail
  go_ret2
  refine ⟨_, _, L, rfl, ⟨_, _, _, _, _, Blk.new _ _ _, (hownC.alloc _).zero, (hownL2.alloc _).zero, Hp.out, by rw [HV.out.1, Hp.out], rfl, ?_⟩, HV.out, ?_, ?_⟩
  · have hs := hb1.size
    have hs2 := hb2.size
    have hc := OwnF.blk_ge hownC
    have hc2 := OwnF.blk_lt hownC
    have hL := OwnF.blk_lt hownL
    rw [List.nodup_cons, List.nodup_append]
    refine ⟨fun hm => ?_, ?_, ?_, fun a ha b hb e => ?_⟩
    · rcases List.mem_append.1 hm with h | h
      · have := hc2 _ h; omega
      · have := hL _ h; omega
    · unfold blk; cases (Value.slice A2 n c2).ownBlock <;> simp
    · unfold blk; simp [Value.ownBlock]
    · have := hc a ha; have := hL b hb; omega
  · intro k hk
    have hs := hb1.size
    have hs2 := hb2.size
    rcases List.mem_cons.1 hk with rfl | hk
    · omega
    · rcases List.mem_append.1 hk with hk | hk
      · have := OwnF.blk_ge hownC k hk; omega
      · have := OwnF.blk_ge hownL k hk; omega
  · exact (hb1.trans (hb2.mono hb1.size)).alloc (by have := hb1.size; have := hb2.size; omega) _

theorem orderOf_no (A : Option Addr) (n c : Nat) (ps : List Int) (w : World) (hp : ps.length = n) (hn : n ≤ 9223372036854775807) (hno : ¬ IsPerm ps) (ha : Ints w w.heap.size A ps) :
    Calls Tryz.prog 25 #[.slice A n c] w fun e w' => e = .returned (.tuple #[.pointer none, .int .u8 1]) ∧ w = w' := by
  have Hp := Lib.hid hp
  have HP := Lib.hid hno
  clear hp hno
  go_enter Tryz.func25, Tryz.ntmps25
  go_wp2_with fail
  refine (inverse_no A n c ps _ Hp.out hn ha HP.out).mono ?_
  rintro e w1 ⟨rfl, rfl⟩
  go_wp2_with fail
  go_ret2
  exact ⟨rfl, rfl⟩

/-- what stands in a list at a place; -1: there is none -/
def atI (zs : List Int) (i : Int) : Int := if 0 ≤ i ∧ i < zs.length then zs[i.toNat]?.getD 0 else -1

theorem orderAt_any (A : Option Addr) (n c : Nat) (zs : List Int) (i : Int) (w : World) (hz : zs.length = n) (hr : Ints w w.heap.size A zs) :
    Calls Tryz.prog 191 #[.slice A n c, .int .i64 i] w fun e w' => e = .returned (.int .i64 (atI zs i)) ∧ w = w' := by
  by_cases h0 : 0 ≤ i
  · by_cases h1 : i < n
    · obtain ⟨k, rfl⟩ := Int.eq_ofNat_of_zero_le h0
      have hk : k < n := by omega
      obtain ⟨b, off, rfl, hb, hc⟩ := hr (by rw [hz]; omega)
      have hck := hc k (by rw [hz]; exact hk)
      have he : Hid (atI zs (k : Int) = zs[k]?.getD 0) := Lib.hid (by unfold atI; rw [if_pos ⟨h0, by rw [hz]; exact h1⟩, Int.toNat_natCast])
      clear hc hz h0 h1
      go_enter Tryz.func191, Tryz.ntmps191
      go_wp2_with fail
      go_ret
      exact ⟨by rw [he.out]; rfl, rfl⟩
    · have he : Hid (atI zs i = -1) := Lib.hid (by unfold atI; rw [if_neg (by rw [hz]; omega)])
      clear hz
      have h2 : ¬ i < 0 := by omega
      go_enter Tryz.func191, Tryz.ntmps191
      go_wp2_with fail
      go_ret
      exact ⟨by rw [he.out]; rfl, rfl⟩
  · have he : Hid (atI zs i = -1) := Lib.hid (by unfold atI; rw [if_neg (by omega)])
    clear hz
    have h2 : i < 0 := by omega
    go_enter Tryz.func191, Tryz.ntmps191
    go_wp2_with fail
    go_ret
    exact ⟨by rw [he.out]; rfl, rfl⟩

theorem orderVars_any (F : List Nat) (g : Nat) (ps ls : List Int) (w : World) (h : OrdAt w F g ps ls) :
    Calls Tryz.prog 19 #[.pointer (some ⟨g, 0, none⟩)] w fun e w' => e = .returned (.int .i64 ps.length) ∧ w = w' := by
  obtain ⟨A, n, c, A', c', hB, h1, h2, hl1, hl2, _, _⟩ := h
  have hc0 : w.cell? ⟨g, 0, none⟩ = some (.slice A n c) := hB.cell 0
  have H := Lib.hid hl1
  clear hl1 hl2
  go_enter Tryz.func19, Tryz.ntmps19
  go_wp2_with fail
  go_ret
  exact ⟨by rw [H.out]; rfl, rfl⟩
theorem orderLevel_any (F : List Nat) (g : Nat) (ps ls : List Int) (i : Int) (w : World) (h : OrdAt w F g ps ls) :
    Calls Tryz.prog 189 #[.pointer (some ⟨g, 0, none⟩), .int .i64 i] w fun e w' => e = .returned (.int .i64 (atI ls i)) ∧ w = w' := by
  obtain ⟨A, n, c, A', c', hB, h1, h2, hl1, hl2, _, _⟩ := h
  have hc0 : w.cell? ⟨g, 1, none⟩ = some (.slice A' n c') := hB.cell 1
  have H := Lib.hid hl2
  clear hl1 hl2
  go_enter Tryz.func189, Tryz.ntmps189
  go_wp2_with fail
  refine (orderAt_any A' n c' ls i _ H.out (OwnI.ints h2)).mono ?_
  rintro e w' ⟨rfl, rfl⟩
  go_wp2_with fail
  go_ret
  exact ⟨rfl, rfl⟩
theorem orderNil_vars (w : World) : Calls Tryz.prog 19 #[.pointer none] w fun e w' => e = .returned (.int .i64 0) ∧ w = w' := by
  go_enter Tryz.func19, Tryz.ntmps19
  go_wp2_with fail
  go_ret
  exact ⟨rfl, rfl⟩
theorem orderNil_level (w : World) (i : Int) : Calls Tryz.prog 189 #[.pointer none, .int .i64 i] w fun e w' => e = .returned (.int .i64 (-1)) ∧ w = w' := by
  go_enter Tryz.func189, Tryz.ntmps189
  go_wp2_with fail
  go_ret
  exact ⟨rfl, rfl⟩
end Go.Proofs.YtpjciaomhfeeeaaGreatDoor
end
