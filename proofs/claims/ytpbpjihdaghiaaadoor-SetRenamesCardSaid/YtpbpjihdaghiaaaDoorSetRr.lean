/- Contract: the document's Rename. -/
import Derived.Test.YtpbpjihdaghiaaaDoorSetRnP
import Derived.Test.YtpbpjihdaghiaaaDoorMh
namespace Go.Proofs.YtpbpjihdaghiaaaDoor
open Go.RowKit Go.Sort
set_option linter.unusedSimpArgs false
set_option linter.unusedVariables false

theorem renY_step (zs : List Int) (x k : Nat) : putV (renY zs x k) k (x.testBit (pn zs k)).toNat = renY zs x (k + 1) := by
  unfold putV renY
  have h1 : (ofBits (fun v => x.testBit (pn zs v)) k).testBit k = false := Nat.testBit_lt_two_pow (ofBits_lt _ k)
  rw [h1, ofBits]
  cases x.testBit (pn zs k) <;> simp
set_option maxRecDepth 100000 in
set_option maxHeartbeats 8000000 in
theorem rrename_any (n : Nat) (zs : List Int) (hp : IsPerm zs) (hl : zs.length = n) (A P : Option Addr) (c d : Nat) (t : List Bool) (w : World) (h : TabArg w A (2 ^ n) c t) (hr : RowF (Value.int .i64) 0 w w.heap.size P zs) :
    Calls Tryd.prog 14 #[.slice A (2 ^ n : Nat) c, .slice P n d] w (TabRes w (renT zs t n)) := by
  obtain ⟨i0, hi, hz0, hz1, hz2⟩ := info_parts info_bool5
  have hn : n ≤ 16 := by rw [← hl]; exact hp.1
  have hN := pow16 hn
  obtain ⟨b1, off1, rfl, hb1, hv1⟩ := h.val (Nat.two_pow_pos n)
  have HV1 := Lib.hid hv1
  have HP := Lib.hid hp
  have HL := Lib.hid hl
  have HR := Lib.hid hr
  have HVA := Lib.hid (fun x v (hx : x ≤ 9223372036854775807) (hv : v ≤ 16) W => rvalue_any x v hx hv W)
  have HPU := Lib.hid (fun x v b (hx : x ≤ 1000000) (hv : v ≤ 16) (hb : b ≤ 1) W => rput_any x v b hx hv hb W)
  have HYL : Hid (∀ x k, k ≤ n → renY zs x k < 65537) := Lib.hid (fun x k hk => Nat.lt_of_lt_of_le (renY_lt zs x k) (Nat.le_trans (pow16 (Nat.le_trans hk hn)) (by omega)))
  have HYN : Hid (∀ x, renY zs x n < 2 ^ n) := Lib.hid (fun x => renY_lt zs x n)
  obtain ⟨f, hf⟩ : ∃ f : Nat → Bool, f = fun x => tat t (renY zs x n) := ⟨_, rfl⟩
  have hT : renT zs t n = (List.range (2 ^ n)).map f := by rw [hf]; rfl
  have HF : Hid (∀ x, tat t (renY zs x n) = f x) := Lib.hid (fun x => (congrFun hf x).symm)
  rw [hT]
  unfold TabRes
  rw [List.length_map, List.length_range]
  generalize 2 ^ n = N at *
  clear h hv1 hf hT hp hl hr
  go_enter Tryd.func14, Tryd.ntmps14
  go_wp2_with fail
  go_loopw [5, 6] (fun v i wr => ∃ k : Nat, k ≤ N ∧ i = .int .i64 k ∧ OwnF Value.bool 4 wr w.heap.size v ((List.range k).map f) ∧ Below w.heap.size w wr) (fun _ i _ => N - (intOf i).toNat)
  case atStart => exact ⟨0, Nat.zero_le _, rfl, OwnF.nil_, Below.refl _ _⟩
  case round =>
    obtain ⟨k, hk, rfl, hown, hb⟩ := hrel
    have HB := Lib.hid hb
    have HOWN := Lib.hid hown
    clear hb hown
    obtain ⟨A', m', c', rfl, hml, _⟩ := HOWN.out.form
    by_cases hlt : k < N
    · go_wp2_with fail
      go_loop [7, 8] (fun y i => ∃ j : Nat, j ≤ n ∧ i = .int .i64 j ∧ y = .int .i64 (renY zs k j : Nat)) (fun _ i => n - (intOf i).toNat)
      case atStart => exact ⟨0, Nat.zero_le _, rfl, rfl⟩
      case round =>
        obtain ⟨j, hj, rfl, rfl⟩ := hrel
        have hyl := HYL.out k j hj
        by_cases hjl : j < n
        · obtain ⟨bp, off, rfl, hbp, hc⟩ := HR.out (by rw [HL.out]; omega)
          have hx0 : wr.cell? ⟨bp, off + j, none⟩ = some (.int .i64 (zs[j]?.getD 0)) := (HB.out.cell (p := ⟨bp, off + j, none⟩) hbp).trans (hc j (by rw [HL.out]; exact hjl))
          rw [HP.out.pn_int (by rw [HL.out]; exact hjl)] at hx0
          have hpl2 := HP.out.pn_lt (v := j) (by rw [HL.out]; exact hjl)
          rw [HL.out] at hpl2
          have HST := Lib.hid (renY_step zs k j)
          have hva := fun W => HVA.out k (pn zs j) (by omega) (by omega) W
          have hbl : (k.testBit (pn zs j)).toNat ≤ 1 := by cases k.testBit (pn zs j) <;> decide
          have hpu := fun W => HPU.out (renY zs k j) j (k.testBit (pn zs j)).toNat (by omega) (by omega) hbl W
          have HVA2 := Lib.hid hva
          have HPU2 := Lib.hid hpu
          clear hc hva hpu
          generalize pn zs j = q at *
          generalize renY zs k j = y at *
          generalize (k.testBit q).toNat = bt at *
          go_wp2_with fail
          refine (HVA2.out _).mono ?_
          rintro e w' ⟨rfl, rfl⟩
          go_wp2_with fail
          refine (HPU2.out _).mono ?_
          rintro e w' ⟨rfl, rfl⟩
          go_wp2_with fail
          go_round
          case rel => exact ⟨j + 1, by omega, by go_num, by rw [← HST.out]⟩
          case measure => simp [intOf]; omega
        · obtain rfl : j = n := by omega
          have hyn := HYN.out k
          have c1' := HV1.out wr (renY zs k j) HB.out hyn
          rw [HF.out] at c1'
          have hsz := HB.out.size
          obtain ⟨y, hy⟩ : ∃ y, y = f k := ⟨_, rfl⟩
          have HY := Lib.hid hy.symm
          rw [← hy] at c1'
          clear hy
          generalize renY zs k j = p at *
          go_wp2_with (at_builtin; refine wp_app1 (f := Value.bool) Tryd.underlying33 hi hz0 hz1 hz2 rfl (by omega) wr rfl _ _ rfl w.heap.size _ ((List.range k).map f) y 1 rfl HOWN.out hsz (by simp; omega) rfl rfl (by first | rfl | simp [World.setCell]) ?_; intro v1 w1 hown1 hb1 hs1 hg1 hv1)
          go_roundw
          case rel => exact ⟨k + 1, by omega, by go_num, by rw [range_snoc, HY.out]; exact hown1, HB.out.trans hb1⟩
          case measure => simp [intOf]; omega
    · obtain rfl : k = N := by omega
      go_wp2_with fail
      go_ret
      have hml2 : m' = k := by rw [← hml]; simp
      subst hml2
      exact ⟨A', c', rfl, HOWN.out, HB.out⟩
theorem rrename_tab (n : Nat) (zs : List Int) (hp : IsPerm zs) (hl : zs.length = n) (A P : Option Addr) (c d : Nat) (t : List Bool) (w : World) (h : TabArg w A (2 ^ n) c t) (hr : RowF (Value.int .i64) 0 w w.heap.size P zs) :
    Calls Tryd.prog 14 #[.slice A (2 ^ n : Nat) c, .slice P n d] w fun e w' => ∃ B d, e = .returned (.slice B (2 ^ n) d) ∧ TabArg w' B (2 ^ n) d (renT zs t n) ∧ Below w.heap.size w w' := by
  refine (rrename_any n zs hp hl A P c d t w h hr).mono ?_
  rintro e w' ⟨B, d, rfl, hown, hbel⟩
  have hl2 : (renT zs t n).length = 2 ^ n := renT_length zs t n
  rw [hl2] at hown ⊢
  exact ⟨B, d, rfl, own_tab hown hl2 (pow16 (by rw [← hl]; exact hp.1)), hbel⟩
end Go.Proofs.YtpbpjihdaghiaaaDoor
