/- perm.Step: two neighbours are exchanged in a copy. -/
import Derived.Test.YtomibgonhdkhdaaPermB
namespace Go.Proofs.Ytomibgonhdkhdaa
open Go.RowKit
set_option linter.unusedSimpArgs false
set_option linter.unusedVariables false

/-- the numbers at k and k+1 exchanged -/
def swapL (l : List Int) (k : Nat) : List Int := (l.set k (l[k + 1]?.getD 0)).set (k + 1) (l[k]?.getD 0)
theorem swapL_length (l : List Int) (k : Nat) : (swapL l k).length = l.length := by simp [swapL]

theorem OwnF.form' {α : Type} {f : α → Value} {E : TypeId} {w : World} {base : Nat} {v : Value} {xs : List α} (h : OwnF f E w base v xs) :
    ∃ A n c g, v = .slice A n c ∧ xs.length = n ∧ n ≤ c ∧ (0 < n → A = some ⟨g, 0, none⟩ ∧ base ≤ g ∧ g < w.heap.size) := by
  rcases Nat.eq_zero_or_pos xs.length with h0 | h0
  · obtain ⟨A, n, c, rfl, hl, hc⟩ := h.form
    exact ⟨A, n, c, 0, rfl, hl, hc, fun h1 => by omega⟩
  · obtain ⟨g, c, rfl, h1, h2, h3⟩ := h.head h0
    exact ⟨_, _, c, g, rfl, rfl, h3, fun _ => ⟨rfl, h1, h2⟩⟩

/-- what the exchange of two neighbours in place leaves -/
theorem OwnI.swap {w : World} {base g n c : Nat} {zs : List Int} (h : OwnI w base (.slice (some ⟨g, 0, none⟩) n c) zs) (k : Nat) (hk : k + 1 < n) :
    w.cell? ⟨g, k, none⟩ = some (.int .i64 (zs[k]?.getD 0)) ∧ w.cell? ⟨g, k + 1, none⟩ = some (.int .i64 (zs[k + 1]?.getD 0)) ∧ w.frozen? ⟨g, k, none⟩ = false ∧ w.frozen? ⟨g, k + 1, none⟩ = false ∧
      OwnI ((w.setCell ⟨g, k, none⟩ (.int .i64 (zs[k + 1]?.getD 0))).setCell ⟨g, k + 1, none⟩ (.int .i64 (zs[k]?.getD 0))) base (.slice (some ⟨g, 0, none⟩) n c) (swapL zs k) := by
  obtain ⟨A, n', c', hv, hn, _⟩ := OwnF.form h
  injection hv with _ hv _
  subst hv
  have h1 := OwnF.at_ h k (by omega)
  have h2 := OwnF.at_ h (k + 1) (by omega)
  rw [List.getElem?_eq_getElem (by omega)] at h1 h2
  rw [List.getElem?_eq_getElem (by omega : k < zs.length), List.getElem?_eq_getElem (by omega : k + 1 < zs.length)]
  refine ⟨h1.1, h2.1, h1.2, h2.2, ?_⟩
  have h3 := OwnF.set_ (OwnF.set_ h k (zs[k + 1]'(by omega))) (k + 1) (zs[k]'(by omega))
  unfold swapL
  rw [List.getElem?_eq_getElem (by omega : k < zs.length), List.getElem?_eq_getElem (by omega : k + 1 < zs.length)]
  exact h3

/-! ### The document's Step -/
def refStep (p : List Int) (i : Int) : List Int :=
  (List.range p.length).map fun (k : Nat) => if (k : Int) = i then p[k + 1]?.getD 0 else if (k : Int) = i + 1 then p[k - 1]?.getD 0 else p[k]?.getD 0
def refStepTo (p : List Int) (i : Int) (m : Nat) : List Int :=
  (List.range m).map fun (k : Nat) => if (k : Int) = i then p[k + 1]?.getD 0 else if (k : Int) = i + 1 then p[k - 1]?.getD 0 else p[k]?.getD 0
theorem refStepTo_succ (p : List Int) (i : Int) (m : Nat) : refStepTo p i (m + 1) = refStepTo p i m ++ [if (m : Int) = i then p[m + 1]?.getD 0 else if (m : Int) = i + 1 then p[m - 1]?.getD 0 else p[m]?.getD 0] := by
  unfold refStepTo
  rw [List.range_succ, List.map_append]; rfl
theorem refStepTo_length (p : List Int) (i : Int) (m : Nat) : (refStepTo p i m).length = m := by simp [refStepTo]
theorem refStep_length (p : List Int) (i : Int) : (refStep p i).length = p.length := by simp [refStep]

theorem refStep_swap (p : List Int) (k : Nat) (hk : k + 1 < p.length) : refStep p (k : Int) = swapL p k := by
  apply list_eq_of
  · rw [refStep_length, swapL_length]
  · intro j hj
    rw [refStep_length] at hj
    unfold refStep swapL
    rw [List.getElem?_map, List.getElem?_range hj]
    simp only [Option.map_some, Option.getD_some]
    by_cases h1 : j = k
    · subst h1
      rw [if_pos rfl, List.getElem?_set_ne (by omega), List.getElem?_set_self (by omega)]; rfl
    · by_cases h2 : j = k + 1
      · subst h2
        rw [if_neg (by omega), if_pos (by omega), List.getElem?_set_self (by simp; omega)]; rfl
      · rw [if_neg (by omega), if_neg (by omega), List.getElem?_set_ne (by omega), List.getElem?_set_ne (by omega)]

set_option maxHeartbeats 1000000 in
theorem refStep_any (A : Option Addr) (n c : Nat) (zs : List Int) (q : Int) (w : World) (hz : zs.length = n) (hn : n ≤ 100000) (hr : Ints w w.heap.size A zs) (h0 : 0 ≤ q) (h1 : q + 1 < n) :
    Calls Try.prog 27 #[.slice A n c, .int .i64 q] w fun e w' => ∃ v, e = .returned v ∧ OwnI w' w.heap.size v (swapL zs q.toNat) ∧ Below w.heap.size w w' := by
  obtain ⟨i, rfl⟩ := Int.eq_ofNat_of_zero_le h0
  rw [Int.toNat_natCast]
  have hin : i + 1 < n := by omega
  clear h0 h1
  obtain ⟨i0, hi, hz0, hz1, hz2⟩ := info_parts info_int
  have Hz := Lib.hid hz
  clear hz
  obtain ⟨b, off, rfl, hb1, hc⟩ := hr (by rw [Hz.out]; omega)
  have HC := Lib.hid hc
  clear hc
  go_enter Try.func27, Try.ntmps27
  go_wp2_with fail
  go_loopw [5, 6] (fun v k wr => ∃ j : Nat, j ≤ n ∧ k = .int .i64 j ∧ OwnI wr w.heap.size v (refStepTo zs i j) ∧ Below w.heap.size w wr) (fun _ k _ => n - (intOf k).toNat)
  case atStart => exact ⟨0, by omega, rfl, OwnF.nil_, Below.refl _ _⟩
  case round =>
    obtain ⟨j, hj, rfl, hown, hb⟩ := hrel
    by_cases hjn : j < n
    · have hcell : ∀ t, t < n → wr.cell? ⟨b, off + t, none⟩ = some (.int .i64 (zs[t]?.getD 0)) := fun t ht => (hb.cell hb1).trans (HC.out t (by rw [Hz.out]; exact ht))
      have HS := Lib.hid (refStepTo_succ zs i j)
      have Hlen := Lib.hid (refStepTo_length zs i j)
      by_cases e1 : j = i
      · have E1 := Lib.hid e1
        have hb1' : ((j : Int) == (i : Int)) = true := by rw [beq_iff_eq]; omega
        have hcj := hcell (j + 1) (by omega)
        have hji : j + 1 < n := by omega
        have hp : (0 : Int) ≤ (j : Int) + 1 := by omega
        clear hcell e1
        go_wp2_with (at_builtin; go_loud (refine wp_app1 (f := Value.int .i64) Try.underlying22 hi hz0 hz1 hz2 rfl (by omega) wr rfl _ _ rfl w.heap.size _ (refStepTo zs i j) _ 1 rfl hown hb.size (by rw [Hlen.out]; omega) rfl rfl (by first | rfl | simp [World.setCell]) ?_); intro v1 w1 hown1 hb1 hs1 hg1 hv1)
        go_roundw
        case rel => exact ⟨j + 1, by omega, by go_num, by rw [HS.out, if_pos (by rw [E1.out])]; exact hown1, hb.trans hb1⟩
        case measure => simp [intOf]; omega
      · have E1 := Lib.hid e1
        have hb1' : ((j : Int) == (i : Int)) = false := by rw [beq_eq_false_iff_ne]; omega
        by_cases e2 : j = i + 1
        · have E2 := Lib.hid e2
          have hb2' : ((j : Int) == (i : Int) + 1) = true := by rw [beq_iff_eq]; omega
          have hcj := hcell (j - 1) (by omega)
          have hp : (0 : Int) ≤ (j : Int) - 1 := by omega
          have hp2 : ((j : Int) - 1).toNat = j - 1 := by omega
          have hp3 : (j : Int) - 1 < (n : Int) := by omega
          clear hcell e1 e2
          go_wp2_with (at_builtin; go_loud (refine wp_app1 (f := Value.int .i64) Try.underlying22 hi hz0 hz1 hz2 rfl (by omega) wr rfl _ _ rfl w.heap.size _ (refStepTo zs i j) _ 1 rfl hown hb.size (by rw [Hlen.out]; omega) rfl rfl (by first | rfl | simp [World.setCell]) ?_); intro v1 w1 hown1 hb1 hs1 hg1 hv1)
          go_roundw
          case rel => exact ⟨j + 1, by omega, by go_num, by rw [HS.out, if_neg (by have := E1.out; omega), if_pos (by have := E2.out; omega)]; exact hown1, hb.trans hb1⟩
          case measure => simp [intOf]; omega
        · have E2 := Lib.hid e2
          have hb2' : ((j : Int) == (i : Int) + 1) = false := by rw [beq_eq_false_iff_ne]; omega
          have hcj := hcell j (by omega)
          clear hcell e1 e2
          go_wp2_with (at_builtin; go_loud (refine wp_app1 (f := Value.int .i64) Try.underlying22 hi hz0 hz1 hz2 rfl (by omega) wr rfl _ _ rfl w.heap.size _ (refStepTo zs i j) _ 1 rfl hown hb.size (by rw [Hlen.out]; omega) rfl rfl (by first | rfl | simp [World.setCell]) ?_); intro v1 w1 hown1 hb1 hs1 hg1 hv1)
          go_roundw
          case rel => exact ⟨j + 1, by omega, by go_num, by rw [HS.out, if_neg (by have := E1.out; omega), if_neg (by have := E2.out; omega)]; exact hown1, hb.trans hb1⟩
          case measure => simp [intOf]; omega
    · have hjn' : Hid (refStepTo zs i j = swapL zs i) := by
        have : j = zs.length := by rw [Hz.out]; omega
        show _ = _
        rw [this, ← refStep_swap zs i (by rw [Hz.out]; exact hin)]; rfl
      go_wp2_with fail
      go_ret
      exact ⟨_, rfl, by rw [← hjn'.out]; exact hown, hb⟩
end Go.Proofs.Ytomibgonhdkhdaa
