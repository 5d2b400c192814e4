/- Contracts: the document's With, Compose, Exists. -/
import Derived.Test.YtdhfpnbpkbelmaaDoorSetQn
namespace Go.Proofs.YtdhfpnbpkbelmaaDoor
open Go.RowKit Go.Sort
set_option linter.unusedSimpArgs false
set_option linter.unusedVariables false

set_option maxRecDepth 100000 in
set_option maxHeartbeats 8000000 in
theorem rwith_any (n v b : Nat) (hn : n ≤ 16) (hv : v < n) (hb : b ≤ 1) (A : Option Addr) (c : Nat) (t : List Bool) (w : World) (h : TabArg w A (2 ^ n) c t) :
    Calls Tryd.prog 18 #[.slice A (2 ^ n : Nat) c, .int .i64 (v : Nat), .int .i64 (b : Nat)] w (TabRes w (withT t v b)) := by
  obtain ⟨i0, hi, hz0, hz1, hz2⟩ := info_parts info_bool5
  have hN := pow16 hn
  obtain ⟨b1, off1, rfl, hb1, hv1⟩ := h.val (Nat.two_pow_pos n)
  have HV1 := Lib.hid hv1
  have hput : ∀ x, x < 2 ^ n → putV x v b < 2 ^ n := fun x hx => by
    rcases Nat.le_one_iff_eq_zero_or_eq_one.1 hb with rfl | rfl
    · exact putV_lt false hx hv
    · exact putV_lt true hx hv
  have HPT := Lib.hid hput
  have HPU := Lib.hid (fun W x (hx : x ≤ 1000000) => rput_any x v b hx (by omega) hb W)
  obtain ⟨f, hf⟩ : ∃ f : Nat → Bool, f = fun x => tat t (putV x v b) := ⟨_, rfl⟩
  have hT : withT t v b = (List.range (2 ^ n)).map f := by rw [hf, ← h.hlen]; rfl
  have HF : Hid (∀ x, tat t (putV x v b) = f x) := Lib.hid (fun x => (congrFun hf x).symm)
  rw [hT]
  unfold TabRes
  rw [List.length_map, List.length_range]
  generalize 2 ^ n = N at *
  clear h hv1 hf hT hput
  go_enter Tryd.func18, Tryd.ntmps18
  go_wp2_with fail
  go_loopw [7, 8] (fun v i wr => ∃ k : Nat, k ≤ N ∧ i = .int .i64 k ∧ OwnF Value.bool 4 wr w.heap.size v ((List.range k).map f) ∧ Below w.heap.size w wr) (fun _ i _ => N - (intOf i).toNat)
  case atStart => exact ⟨0, Nat.zero_le _, rfl, OwnF.nil_, Below.refl _ _⟩
  case round =>
    obtain ⟨k, hk, rfl, hown, hb⟩ := hrel
    by_cases hlt : k < N
    · have hx := HPT.out k hlt
      have c1' := HV1.out wr (putV k v b) hb hx
      rw [HF.out] at c1'
      have hpu := fun W => HPU.out W k (by omega)
      have HPK := Lib.hid hpu
      have HB := Lib.hid hb
      have HOWN := Lib.hid hown
      have hsz := hb.size
      obtain ⟨y, hy⟩ : ∃ y, y = f k := ⟨_, rfl⟩
      have HY := Lib.hid hy.symm
      rw [← hy] at c1'
      clear hy hb hown hpu
      generalize putV k v b = p at *
      go_wp2_with fail
      refine (HPK.out _).mono ?_
      rintro e w' ⟨rfl, rfl⟩
      go_wp2_with (at_builtin; refine wp_app1 (f := Value.bool) Tryd.underlying32 hi hz0 hz1 hz2 rfl (by omega) wr rfl _ _ rfl w.heap.size _ ((List.range k).map f) y 1 rfl HOWN.out hsz (by simp; omega) rfl rfl (by first | rfl | simp [World.setCell]) ?_; intro v1 w1 hown1 hb1 hs1 hg1 hv1)
      go_roundw
      case rel => exact ⟨k + 1, by omega, by go_num, by rw [range_snoc, HY.out]; exact hown1, HB.out.trans hb1⟩
      case measure => simp [intOf]; omega
    · obtain rfl : k = N := by omega
      obtain ⟨A', m', c', rfl, hml, _⟩ := hown.form
      have HB := Lib.hid hb
      have HOWN := Lib.hid hown
      clear hb hown
      go_wp2_with fail
      go_ret
      have hml2 : m' = k := by rw [← hml]; simp
      subst hml2
      exact ⟨A', c', rfl, HOWN.out, HB.out⟩
set_option maxRecDepth 100000 in
set_option maxHeartbeats 8000000 in
theorem rcomp_any (n v : Nat) (hn : n ≤ 16) (hv : v < n) (A A2 : Option Addr) (c c2 : Nat) (t t2 : List Bool) (w : World) (h : TabArg w A (2 ^ n) c t) (h2 : TabArg w A2 (2 ^ n) c2 t2) :
    Calls Tryd.prog 19 #[.slice A (2 ^ n : Nat) c, .int .i64 (v : Nat), .slice A2 (2 ^ n : Nat) c2] w (TabRes w (compT t v t2)) := by
  obtain ⟨i0, hi, hz0, hz1, hz2⟩ := info_parts info_bool5
  have hN := pow16 hn
  obtain ⟨b1, off1, rfl, hb1, hv1⟩ := h.val (Nat.two_pow_pos n)
  have HV1 := Lib.hid hv1
  obtain ⟨b2, off2, rfl, hb2, hv2⟩ := h2.val (Nat.two_pow_pos n)
  have HV2 := Lib.hid hv2
  have HPT := Lib.hid (fun x (y : Bool) (hx : x < 2 ^ n) => putV_lt y hx hv)
  have HPU := Lib.hid (fun W x (y : Bool) (hx : x ≤ 1000000) => rput_any x v y.toNat hx (by omega) (by cases y <;> decide) W)
  have HTR := Lib.hid (fun x W => rtruth_any x W)
  obtain ⟨f, hf⟩ : ∃ f : Nat → Bool, f = fun x => tat t (putV x v (tat t2 x).toNat) := ⟨_, rfl⟩
  have hT : compT t v t2 = (List.range (2 ^ n)).map f := by rw [hf, ← h.hlen]; rfl
  have HF : Hid (∀ x, tat t (putV x v (tat t2 x).toNat) = f x) := Lib.hid (fun x => (congrFun hf x).symm)
  rw [hT]
  unfold TabRes
  rw [List.length_map, List.length_range]
  generalize 2 ^ n = N at *
  clear h h2 hv1 hv2 hf hT
  go_enter Tryd.func19, Tryd.ntmps19
  go_wp2_with fail
  go_loopw [7, 8] (fun v i wr => ∃ k : Nat, k ≤ N ∧ i = .int .i64 k ∧ OwnF Value.bool 4 wr w.heap.size v ((List.range k).map f) ∧ Below w.heap.size w wr) (fun _ i _ => N - (intOf i).toNat)
  case atStart => exact ⟨0, Nat.zero_le _, rfl, OwnF.nil_, Below.refl _ _⟩
  case round =>
    obtain ⟨k, hk, rfl, hown, hb⟩ := hrel
    by_cases hlt : k < N
    · have hx := HPT.out k (tat t2 k) hlt
      have c1' := HV1.out wr (putV k v (tat t2 k).toNat) hb hx
      rw [HF.out] at c1'
      have c2' := HV2.out wr k hb hlt
      have hpu := fun W => HPU.out W k (tat t2 k) (by omega)
      have htr := fun W => HTR.out (tat t2 k) W
      have HPK := Lib.hid hpu
      have HTK := Lib.hid htr
      have HB := Lib.hid hb
      have HOWN := Lib.hid hown
      have hsz := hb.size
      obtain ⟨y, hy⟩ : ∃ y, y = f k := ⟨_, rfl⟩
      have HY := Lib.hid hy.symm
      rw [← hy] at c1'
      clear hy hb hown hpu htr
      generalize putV k v (tat t2 k).toNat = p at *
      generalize tat t2 k = u at *
      go_wp2_with fail
      refine (HTK.out _).mono ?_
      rintro e w' ⟨rfl, rfl⟩
      go_wp2_with fail
      refine (HPK.out _).mono ?_
      rintro e w' ⟨rfl, rfl⟩
      go_wp2_with (at_builtin; refine wp_app1 (f := Value.bool) Tryd.underlying32 hi hz0 hz1 hz2 rfl (by omega) wr rfl _ _ rfl w.heap.size _ ((List.range k).map f) y 1 rfl HOWN.out hsz (by simp; omega) rfl rfl (by first | rfl | simp [World.setCell]) ?_; intro v1 w1 hown1 hb1 hs1 hg1 hv1)
      go_roundw
      case rel => exact ⟨k + 1, by omega, by go_num, by rw [range_snoc, HY.out]; exact hown1, HB.out.trans hb1⟩
      case measure => simp [intOf]; omega
    · obtain rfl : k = N := by omega
      obtain ⟨A', m', c', rfl, hml, _⟩ := hown.form
      have HB := Lib.hid hb
      have HOWN := Lib.hid hown
      clear hb hown
      go_wp2_with fail
      go_ret
      have hml2 : m' = k := by rw [← hml]; simp
      subst hml2
      exact ⟨A', c', rfl, HOWN.out, HB.out⟩
theorem rwith_tab (n v b : Nat) (hn : n ≤ 16) (hv : v < n) (hb : b ≤ 1) (A : Option Addr) (c : Nat) (t : List Bool) (w : World) (h : TabArg w A (2 ^ n) c t) :
    Calls Tryd.prog 18 #[.slice A (2 ^ n : Nat) c, .int .i64 (v : Nat), .int .i64 (b : Nat)] w fun e w' => ∃ B d, e = .returned (.slice B (2 ^ n) d) ∧ TabArg w' B (2 ^ n) d (withT t v b) ∧ Below w.heap.size w w' := by
  refine (rwith_any n v b hn hv hb A c t w h).mono ?_
  rintro e w' ⟨B, d, rfl, hown, hbel⟩
  have hl : (withT t v b).length = 2 ^ n := by rw [withT_length, h.hlen]
  rw [hl] at hown ⊢
  exact ⟨B, d, rfl, own_tab hown hl (pow16 hn), hbel⟩
theorem rcomp_tab (n v : Nat) (hn : n ≤ 16) (hv : v < n) (A A2 : Option Addr) (c c2 : Nat) (t t2 : List Bool) (w : World) (h : TabArg w A (2 ^ n) c t) (h2 : TabArg w A2 (2 ^ n) c2 t2) :
    Calls Tryd.prog 19 #[.slice A (2 ^ n : Nat) c, .int .i64 (v : Nat), .slice A2 (2 ^ n : Nat) c2] w fun e w' => ∃ B d, e = .returned (.slice B (2 ^ n) d) ∧ TabArg w' B (2 ^ n) d (compT t v t2) ∧ Below w.heap.size w w' := by
  refine (rcomp_any n v hn hv A A2 c c2 t t2 w h h2).mono ?_
  rintro e w' ⟨B, d, rfl, hown, hbel⟩
  have hl : (compT t v t2).length = 2 ^ n := by rw [compT_length, h.hlen]
  rw [hl] at hown ⊢
  exact ⟨B, d, rfl, own_tab hown hl (pow16 hn), hbel⟩
end Go.Proofs.YtdhfpnbpkbelmaaDoor
