/- Contracts of the document's End, end, halves, Bits, none, Term. -/
import Derived.Test.YtfcklfpgjadfmaaTextD
import Derived.Test.YtfcklfpgjadfmaaTabW
import Derived.Test.YtfcklfpgjadfmaaQuiet
namespace Go.Proofs.Ytfcklfpgjadfmaa
open Go.RowKit Go.Sort
set_option linter.unusedSimpArgs false
set_option linter.unusedVariables false

theorem end13_any (b : Bool) (l : Int) (w : World) : Calls Try.prog 58 #[.bool b, .int .i64 l] w fun e w' => e = .returned (.agg (⟨0, if b then 1 else 0⟩ : Edg).cells.toArray) ∧ Below w.heap.size w w' := by
  cases b
  all_goals
    go_enter Try.func58, Try.ntmps58
    go_wp2
    refine bodyPost_ret (v := .agg #[_, _]) ?_ rfl ⟨rfl, ?_⟩
    · simp [results, Try.results58, go_sem, *]
    · repeat (refine Below.setCell ?_ (by exact Nat.le_refl _) _)
      exact (Below.refl _ _).alloc (Nat.le_refl _) _
theorem endt13_any (b : Bool) (w : World) : Calls Try.prog 55 #[.bool b] w fun e w' => e = .returned (strV [if b then 49 else 48]) ∧ w = w' := by
  cases b
  all_goals
    go_enter Try.func55, Try.ntmps55
    go_wp2
    go_ret
    exact ⟨rfl, rfl⟩
theorem halves13_any (b off m c : Nat) (w : World) (hm : 1 ≤ m) (hm2 : m ≤ 65536) (hc : 2 * m ≤ c) : Calls Try.prog 56 #[.slice (some ⟨b, off, none⟩) (2 * m) c] w fun e w' => e = .returned (.tuple #[.slice (some ⟨b, off, none⟩) m c, .slice (some ⟨b, off + m, none⟩) m (c - m)]) ∧ ∃ k, w' = w.drewN k := by
  have hh := half_of m
  have hcm : ¬ c = m := by omega
  have h2 : 2 * m - m = m := by omega
  go_enter Try.func56, Try.ntmps56
  go_wp2
  go_quiet (fail)
  go_wp2
  go_ret2
  exact ⟨rfl, _, rfl⟩
theorem info_bool13 : (Try.prog.info? 4).map (fun i => (i.zero, i.size, i.bytes)) = some (some (.bool false), 1, 1) := by kernel_rfl
set_option maxHeartbeats 400000 in
theorem none13_any (b off n c : Nat) (t : List Bool) (w : World) (ht : t.length = n) (hn : n ≤ 65536) (h : TabAt w [] b off t) : Calls Try.prog 57 #[.slice (some ⟨b, off, none⟩) n c] w fun e w' => e = .returned (.bool (t.all (fun b => !b))) ∧ w = w' := by
  have Ht := Lib.hid ht
  clear ht
  go_enter Try.func57, Try.ntmps57
  go_wp2
  go_loop [3] (fun i => ∃ k : Nat, k ≤ n ∧ i = .int .i64 k ∧ ∀ j, j < k → t[j]?.getD false = false) (fun i => n - (intOf i).toNat)
  case atStart => exact ⟨0, Nat.zero_le _, rfl, by omega⟩
  case round =>
    obtain ⟨k, hk, rfl, hno⟩ := hrel
    have HN := Lib.hid hno
    clear hno
    by_cases hlt : k < n
    · have hck := h.cell k (by rw [Ht.out]; exact hlt)
      obtain ⟨x, hx⟩ : ∃ x, x = t[k]?.getD false := ⟨_, rfl⟩
      rw [← hx] at hck
      have HX := Lib.hid hx
      clear hx
      cases x
      · go_wp2
        go_round
        case rel => exact ⟨k+1, by omega, by go_num, fun j hj => by
            rcases Nat.lt_succ_iff_lt_or_eq.1 hj with h | h
            · exact HN.out j h
            · subst h; exact HX.out.symm⟩
        case measure => simp [intOf]; omega
      · go_wp2
        go_ret
        refine ⟨?_, rfl⟩
        show Ending.returned (.bool false) = _
        congr 2
        symm
        rw [List.all_eq_false]
        have hk' : k < t.length := by rw [Ht.out]; exact hlt
        have h1 := HX.out
        rw [List.getElem?_eq_getElem hk'] at h1
        exact ⟨t[k], List.getElem_mem hk', by simp at h1; simp [← h1]⟩
    · go_wp2
      go_ret
      refine ⟨?_, rfl⟩
      show Ending.returned (.bool true) = _
      congr 2
      symm
      rw [List.all_eq_true]
      intro x hx
      obtain ⟨j, hj, rfl⟩ := List.getElem_of_mem hx
      have := HN.out j (by rw [Ht.out] at hj; omega)
      rw [List.getElem?_eq_getElem hj] at this
      simp at this
      simp [this]
set_option maxRecDepth 100000 in
set_option maxHeartbeats 1000000 in
theorem term13_any : ∀ (k : Nat) (t : List Bool) (l b off c : Nat) (w : World), t.length = 2 ^ k → l + k ≤ 10 → k ≤ 6 → TabAt w [] b off t → 2 ^ k ≤ c →
    Calls Try.prog 26 #[.slice (some ⟨b, off, none⟩) (2 ^ k) c, .int .i64 (l : Nat)] w fun e w' => e = .returned (strV (render (tmOf true k t l))) ∧ Below w.heap.size w w' := by
  intro k
  induction k with
  | zero =>
    intro t l b off c w ht hl hk hT hc
    have h0 := hT.cell 0 (by rw [ht]; exact Nat.one_pos)
    have hx : (t.head? == some true) = t[0]?.getD false := by
      cases t with
      | nil => simp at ht
      | cons x r => cases x <;> rfl
    rw [tmOf, render, hx]
    generalize t[0]?.getD false = x at *
    clear hx
    have hEN := Lib.hid (endt13_any x w)
    generalize (if x then (49 : UInt8) else 48) = d at *
    rw [Nat.add_zero] at h0
    rw [Nat.pow_zero]
    go_enter Try.func26, Try.ntmps26
    go_wp2_with fail
    refine hEN.out.mono ?_
    rintro e w' ⟨rfl, rfl⟩
    go_wp2_with fail
    go_ret
    exact ⟨rfl, Below.refl _ _⟩
  | succ k ih =>
    intro t l b off c w ht hl hk hT hc
    have hp : 2 ^ (k + 1) = 2 * 2 ^ k := by rw [Nat.pow_succ, Nat.mul_comm]
    have hm1 : 1 ≤ 2 ^ k := Nat.one_le_two_pow
    have hm2 : 2 ^ k ≤ 2 ^ 16 := Nat.pow_le_pow_right (by omega) (by omega)
    have hd := deep_tmOf true k
    have hlow := low_tmOf true k
    rw [tmOf]
    rw [hp] at ht hc ⊢
    generalize 2 ^ k = m at *
    have hl1 : (t.take m).length = m := by rw [List.length_take]; omega
    have hl2 : (t.drop m).length = m := by rw [List.length_drop]; omega
    have hT1 := hT.take m
    have hT2 := hT.drop m
    have hT3 : TabAt w [] b (off + m) (t.drop m) := hT2
    have hSM := Lib.hid (fun (W : World) (hW : Below w.heap.size w W) => none13_any b (off + m) m (c - m) (t.drop m) W hl2 (by omega) (hT2.on hW))
    have hHV := Lib.hid (halves13_any b off m c w hm1 hm2 hc)
    have IH1 := Lib.hid (fun (W : World) (hW : Below w.heap.size w W) => ih (t.take m) (l + 1) b off c W hl1 (by omega) (by omega) (hT1.on hW) (by omega))
    have IH2 := Lib.hid (fun (W : World) (hW : Below w.heap.size w W) => ih (t.drop m) (l + 1) b (off + m) (c - m) W hl2 (by omega) (by omega) (hT2.on hW) (by omega))
    have hr1 := render_short (T := tmOf true k (t.take m) (l + 1)) (Nat.le_trans (hd _ _) (by omega))
    have hr2 := render_short (T := tmOf true k (t.drop m) (l + 1)) (Nat.le_trans (hd _ _) (by omega))
    have hcast : ((l + 1 : Nat) : Int) = (l : Int) + 1 := rfl
    rw [hcast] at IH1 IH2
    have hne : ¬ ((2 * m : Nat) : Int) = 1 := by omega
    by_cases hred : redT true (t.take m) (t.drop m) = true
    · have hdec : (t.drop m).all (fun b => !b) = true := by simpa [redT] using hred
      rw [hdec] at hSM
      rw [if_pos hred]
      generalize render (tmOf true k (t.take m) (l + 1)) = x at *
      clear hred hdec hT hT1 hT2 hT3 ih hlow hd
      go_enter Try.func26, Try.ntmps26
      go_wp2_with fail
      refine hHV.out.mono ?_
      rintro e w1 ⟨rfl, k1, rfl⟩
      go_wp2_with fail
      refine (hSM.out _ (below_drewN (Below.refl _ _) k1)).mono ?_
      rintro e w2 ⟨rfl, rfl⟩
      go_wp2_with fail
      refine (IH1.out _ (below_drewN (Below.refl _ _) k1)).mono ?_
      rintro e w3 ⟨rfl, hb3⟩
      go_wp2_with fail
      go_ret
      exact ⟨rfl, (show Below w.heap.size w (w.drewN k1) from below_drewN (Below.refl _ _) k1).trans hb3⟩
    · have hdec : (t.drop m).all (fun b => !b) = false := by simpa [redT] using hred
      rw [hdec] at hSM
      rw [if_neg hred, render]
      have hNU := Lib.hid (num_small l (by omega))
      generalize render (tmOf true k (t.take m) (l + 1)) = x at *
      generalize render (tmOf true k (t.drop m) (l + 1)) = y at *
      generalize UInt8.ofNat (48 + l) = dg at *
      clear hred hdec hT hT1 hT2 hT3 ih hlow hd
      go_enter Try.func26, Try.ntmps26
      go_wp2_with fail
      refine hHV.out.mono ?_
      rintro e w1 ⟨rfl, k1, rfl⟩
      go_wp2_with fail
      refine (hSM.out _ (below_drewN (Below.refl _ _) k1)).mono ?_
      rintro e w2 ⟨rfl, rfl⟩
      go_wp2_with fail
      have hb2 : Below w.heap.size w (w.drewN k1) := below_drewN (Below.refl _ _) k1
      refine (hNU.out _).mono ?_
      rintro e w3 ⟨rfl, hb3⟩
      have hb3' := hb2.trans (hb3.mono hb2.size)
      unfold strV
      go_wp2_with fail
      refine (IH1.out _ hb3').mono ?_
      rintro e w4 ⟨rfl, hb4⟩
      have hb4' := hb3'.trans (hb4.mono hb3'.size)
      unfold strV
      go_wp2_with fail
      refine (IH2.out _ hb4').mono ?_
      rintro e w5 ⟨rfl, hb5⟩
      have hb5' := hb4'.trans (hb5.mono hb4'.size)
      unfold strV
      go_wp2_with fail
      go_ret
      exact ⟨congrArg Ending.returned (strV_node dg x y), hb5'⟩
end Go.Proofs.Ytfcklfpgjadfmaa
