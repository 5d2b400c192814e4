/- Contracts of the document's End, end, halves, Bits, Term. -/
import Derived.Test.YtfcklfpgjadfmaaTextD
import Derived.Test.YtfcklfpgjadfmaaTabW
import Derived.Test.YtfcklfpgjadfmaaQuiet
namespace Go.Proofs.Ytfcklfpgjadfmaa
open Go.RowKit Go.Sort
set_option linter.unusedSimpArgs false
set_option linter.unusedVariables false

theorem end12_any (b : Bool) (l : Int) (w : World) : Calls Try.prog 52 #[.bool b, .int .i64 l] w fun e w' => e = .returned (.agg (⟨0, if b then 1 else 0⟩ : Edg).cells.toArray) ∧ Below w.heap.size w w' := by
  cases b
  all_goals
    go_enter Try.func52, Try.ntmps52
    go_wp2
    refine bodyPost_ret (v := .agg #[_, _]) ?_ rfl ⟨rfl, ?_⟩
    · simp [results, Try.results52, go_sem, *]
    · repeat (refine Below.setCell ?_ (by exact Nat.le_refl _) _)
      exact (Below.refl _ _).alloc (Nat.le_refl _) _
theorem endt12_any (b : Bool) (w : World) : Calls Try.prog 49 #[.bool b] w fun e w' => e = .returned (strV [if b then 49 else 48]) ∧ w = w' := by
  cases b
  all_goals
    go_enter Try.func49, Try.ntmps49
    go_wp2
    go_ret
    exact ⟨rfl, rfl⟩
theorem halves12_any (b off m c : Nat) (w : World) (hm : 1 ≤ m) (hm2 : m ≤ 65536) (hc : 2 * m ≤ c) : Calls Try.prog 50 #[.slice (some ⟨b, off, none⟩) (2 * m) c] w fun e w' => e = .returned (.tuple #[.slice (some ⟨b, off, none⟩) m c, .slice (some ⟨b, off + m, none⟩) m (c - m)]) ∧ ∃ k, w' = w.drewN k := by
  have hh := half_of m
  have hcm : ¬ c = m := by omega
  have h2 : 2 * m - m = m := by omega
  go_enter Try.func50, Try.ntmps50
  go_wp2
  go_quiet (fail)
  go_wp2
  go_ret2
  exact ⟨rfl, _, rfl⟩
theorem info_bool12 : (Try.prog.info? 4).map (fun i => (i.zero, i.size, i.bytes)) = some (some (.bool false), 1, 1) := by kernel_rfl
set_option maxRecDepth 100000 in
set_option maxHeartbeats 1000000 in
theorem bits12_any (n : Nat) (hn : n ≤ 6) (a : Int) (h0 : 0 ≤ a) (h1 : a ≤ 18446744073709551615) (w : World) : Calls Try.prog 19 #[.int .i64 (n : Nat), .int .u64 a] w fun e w' => ∃ b t, e = .returned (.slice (some ⟨b, 0, none⟩) (2 ^ n) (2 ^ n)) ∧ t.length = 2 ^ n ∧ w.heap.size ≤ b ∧ TabAt w' [] b 0 t ∧ Below w.heap.size w w' := by
  obtain ⟨i0, hi, hz0, hz1, hz2⟩ := info_parts info_bool12
  have hSZ := Lib.hid (size_any n (by omega))
  have hN : 2 ^ n ≤ 64 := Nat.pow_le_pow_right (by omega) (show n ≤ 6 from hn)
  have hN1 : 1 ≤ 2 ^ n := Nat.one_le_two_pow
  generalize 2 ^ n = N at *
  go_enter Try.func19, Try.ntmps19
  go_wp2_with fail
  refine (hSZ.out _).mono ?_
  rintro e w' ⟨rfl, rfl⟩
  go_wp2_with (at_make; refine wp_make (f := Value.bool) Try.underlying28 hi hz0 hz1 hz2 rfl _ rfl _ _ rfl (N : Int) N rfl rfl rfl (by omega) (by unfold maxLen; omega) ?_; intro w1 hown1 hb1 hs1)
  go_loopw [1, 6] (fun av i wr => ∃ (k : Nat) (a' : Int) (xs : List Bool), k ≤ N ∧ i = .int .i64 k ∧ av = .int .u64 a' ∧ 0 ≤ a' ∧ a' ≤ 18446744073709551615 ∧ OwnF Value.bool 4 wr w.heap.size (.slice (some ⟨w.heap.size, 0, none⟩) N N) xs ∧ xs.length = N ∧ Below w.heap.size w wr) (fun _ i _ => N - (intOf i).toNat)
  case atStart => exact ⟨0, a, _, Nat.zero_le _, rfl, rfl, h0, h1, hown1, by simp, hb1⟩
  case round =>
    obtain ⟨k, a', xs, hk, rfl, rfl, ha0, ha1, hown, hlen, hb⟩ := hrel
    by_cases hlt : k < N
    · have hg := OwnF.at_ hown k (by omega)
      have hc : ∃ u, wr.cell? ⟨w.heap.size, k, none⟩ = some u := by
        rw [hg.1, List.getElem?_eq_getElem (by omega)]
        exact ⟨_, rfl⟩
      obtain ⟨u, hc⟩ := hc
      have hf := hg.2
      have hst := OwnF.set_ hown k (decide (a' % 2 = 1))
      have hbs := hb.setCell (p := ⟨w.heap.size, k, none⟩) (Nat.le_refl _) (.bool (decide (a' % 2 = 1)))
      have hm1 : Int.tmod a' 2 = a' % 2 := Int.tmod_eq_emod_of_nonneg ha0
      have hd1 : Int.tdiv a' 2 = a' / 2 := Int.tdiv_eq_ediv_of_nonneg ha0
      have HL := Lib.hid hlen
      clear hg hown hown1 hb1 hb hlen
      go_wp2_with fail
      go_roundw
      case rel => exact ⟨k + 1, a' / 2, _, by omega, by go_num, by go_num, by omega, by omega, hst, by rw [List.length_set]; exact HL.out, hbs⟩
      case measure => simp [intOf]; omega
    · have hkm : k = N := by omega
      have HO := Lib.hid hown
      have HL := Lib.hid hlen
      clear hown hown1 hlen
      go_wp2_with fail
      go_ret
      have hH := HO.out.head (by rw [HL.out]; omega)
      obtain ⟨g', c', hv, _, hlt', _⟩ := hH
      injection hv with hv _ _
      injection hv with hv
      injection hv with hv _ _
      exact ⟨w.heap.size, xs, rfl, HL.out, Nat.le_refl _, ⟨by rw [hv]; exact hlt', (fun hm => by cases hm), fun j hj => by
        rw [Nat.zero_add, (OwnF.at_ HO.out j hj).1, List.getElem?_eq_getElem hj]
        rfl⟩, hb⟩
set_option maxRecDepth 100000 in
set_option maxHeartbeats 1000000 in
theorem term12_any : ∀ (k : Nat) (t : List Bool) (l b off c : Nat) (w : World), t.length = 2 ^ k → l + k ≤ 10 → k ≤ 6 → TabAt w [] b off t → 2 ^ k ≤ c →
    Calls Try.prog 20 #[.slice (some ⟨b, off, none⟩) (2 ^ k) c, .int .i64 (l : Nat)] w fun e w' => e = .returned (strV (render (tmOf false k t l))) ∧ Below w.heap.size w w' := by
  intro k
  induction k with
  | zero =>
    intro t l b off c w ht hl hk hT hc
    have h0 := hT.cell 0 (by rw [ht]; exact Nat.one_pos)
    have hx : (t.head? == some true) = t[0]?.getD false := by
      cases t with
      | nil => simp at ht
      | cons x r => cases x <;> rfl
    rw [tmOf, render, hx]
    generalize t[0]?.getD false = x at *
    clear hx
    have hEN := Lib.hid (endt12_any x w)
    generalize (if x then (49 : UInt8) else 48) = d at *
    rw [Nat.add_zero] at h0
    rw [Nat.pow_zero]
    go_enter Try.func20, Try.ntmps20
    go_wp2_with fail
    refine hEN.out.mono ?_
    rintro e w' ⟨rfl, rfl⟩
    go_wp2_with fail
    go_ret
    exact ⟨rfl, Below.refl _ _⟩
  | succ k ih =>
    intro t l b off c w ht hl hk hT hc
    have hp : 2 ^ (k + 1) = 2 * 2 ^ k := by rw [Nat.pow_succ, Nat.mul_comm]
    have hm1 : 1 ≤ 2 ^ k := Nat.one_le_two_pow
    have hm2 : 2 ^ k ≤ 2 ^ 16 := Nat.pow_le_pow_right (by omega) (by omega)
    have hd := deep_tmOf false k
    have hlow := low_tmOf false k
    rw [tmOf]
    rw [hp] at ht hc ⊢
    generalize 2 ^ k = m at *
    have hl1 : (t.take m).length = m := by rw [List.length_take]; omega
    have hl2 : (t.drop m).length = m := by rw [List.length_drop]; omega
    have hT1 := hT.take m
    have hT2 := hT.drop m
    have hT3 : TabAt w [] b (off + m) (t.drop m) := hT2
    have hSM := Lib.hid (fun (W : World) (hW : Below w.heap.size w W) => tsame_any (some ⟨b, off, none⟩) (some ⟨b, off + m, none⟩) m m c (c - m) (t.take m) (t.drop m) W hl1 hl2 (by omega) (by omega) (hT1.on hW).bools (hT2.on hW).bools)
    have hHV := Lib.hid (halves12_any b off m c w hm1 hm2 hc)
    have IH1 := Lib.hid (fun (W : World) (hW : Below w.heap.size w W) => ih (t.take m) (l + 1) b off c W hl1 (by omega) (by omega) (hT1.on hW) (by omega))
    have IH2 := Lib.hid (fun (W : World) (hW : Below w.heap.size w W) => ih (t.drop m) (l + 1) b (off + m) (c - m) W hl2 (by omega) (by omega) (hT2.on hW) (by omega))
    have hr1 := render_short (T := tmOf false k (t.take m) (l + 1)) (Nat.le_trans (hd _ _) (by omega))
    have hr2 := render_short (T := tmOf false k (t.drop m) (l + 1)) (Nat.le_trans (hd _ _) (by omega))
    have hcast : ((l + 1 : Nat) : Int) = (l : Int) + 1 := rfl
    rw [hcast] at IH1 IH2
    have hne : ¬ ((2 * m : Nat) : Int) = 1 := by omega
    by_cases hred : redT false (t.take m) (t.drop m) = true
    · have hdec : decide (t.take m = t.drop m) = true := by simpa [redT] using hred
      rw [hdec] at hSM
      rw [if_pos hred]
      generalize render (tmOf false k (t.take m) (l + 1)) = x at *
      clear hred hdec hT hT1 hT2 hT3 ih hlow hd
      go_enter Try.func20, Try.ntmps20
      go_wp2_with fail
      refine hHV.out.mono ?_
      rintro e w1 ⟨rfl, k1, rfl⟩
      go_wp2_with fail
      refine (hSM.out _ (below_drewN (Below.refl _ _) k1)).mono ?_
      rintro e w2 ⟨rfl, k2, rfl⟩
      go_wp2_with fail
      refine (IH1.out _ (below_drewN (Below.refl _ _) (k1 + k2))).mono ?_
      rintro e w3 ⟨rfl, hb3⟩
      go_wp2_with fail
      go_ret
      exact ⟨rfl, (show Below w.heap.size w (w.drewN (k1 + k2)) from below_drewN (Below.refl _ _) (k1 + k2)).trans hb3⟩
    · have hdec : decide (t.take m = t.drop m) = false := by simpa [redT] using hred
      rw [hdec] at hSM
      rw [if_neg hred, render]
      have hNU := Lib.hid (num_small l (by omega))
      generalize render (tmOf false k (t.take m) (l + 1)) = x at *
      generalize render (tmOf false k (t.drop m) (l + 1)) = y at *
      generalize UInt8.ofNat (48 + l) = dg at *
      clear hred hdec hT hT1 hT2 hT3 ih hlow hd
      go_enter Try.func20, Try.ntmps20
      go_wp2_with fail
      refine hHV.out.mono ?_
      rintro e w1 ⟨rfl, k1, rfl⟩
      go_wp2_with fail
      refine (hSM.out _ (below_drewN (Below.refl _ _) k1)).mono ?_
      rintro e w2 ⟨rfl, k2, rfl⟩
      go_wp2_with fail
      have hb2 : Below w.heap.size w (w.drewN (k1 + k2)) := below_drewN (Below.refl _ _) (k1 + k2)
      refine (hNU.out _).mono ?_
      rintro e w3 ⟨rfl, hb3⟩
      have hb3' := hb2.trans (hb3.mono hb2.size)
      unfold strV
      go_wp2_with fail
      refine (IH1.out _ hb3').mono ?_
      rintro e w4 ⟨rfl, hb4⟩
      have hb4' := hb3'.trans (hb4.mono hb3'.size)
      unfold strV
      go_wp2_with fail
      refine (IH2.out _ hb4').mono ?_
      rintro e w5 ⟨rfl, hb5⟩
      have hb5' := hb4'.trans (hb5.mono hb4'.size)
      unfold strV
      go_wp2_with fail
      go_ret
      exact ⟨congrArg Ending.returned (strV_node dg x y), hb5'⟩
end Go.Proofs.Ytfcklfpgjadfmaa
