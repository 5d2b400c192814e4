/- Contract: the document's Ite. -/
import Derived.Test.YtfcklfpgjadfmaaDoorSetRa
namespace Go.Proofs.YtfcklfpgjadfmaaDoor
open Go.RowKit Go.Sort
set_option linter.unusedSimpArgs false
set_option linter.unusedVariables false

set_option maxRecDepth 100000 in
set_option maxHeartbeats 4000000 in
theorem rite_any (A1 A2 A3 : Option Addr) (len c1 c2 c3 : Nat) (t1 t2 t3 : List Bool) (w : World) (hpos : 0 < len) (h1 : TabArg w A1 len c1 t1) (h2 : TabArg w A2 len c2 t2) (h3 : TabArg w A3 len c3 t3) :
    Calls Tryd.prog 39 #[.slice A1 len c1, .slice A2 len c2, .slice A3 len c3] w (TabRes w (iteT t1 t2 t3)) := by
  obtain ⟨i0, hi, hz0, hz1, hz2⟩ := info_parts info_bool5
  have hN := h1.hmax
  obtain ⟨b1, off1, rfl, hb1, hv1⟩ := h1.val hpos
  obtain ⟨b2, off2, rfl, hb2, hv2⟩ := h2.val hpos
  obtain ⟨b3, off3, rfl, hb3, hv3⟩ := h3.val hpos
  have HV1 := Lib.hid hv1
  have HV2 := Lib.hid hv2
  have HV3 := Lib.hid hv3
  obtain ⟨f, hf⟩ : ∃ f : Nat → Bool, f = fun x => if tat t1 x then tat t2 x else tat t3 x := ⟨_, rfl⟩
  have hT : iteT t1 t2 t3 = (List.range len).map f := by rw [hf, ← h1.hlen]; rfl
  have HF : Hid (∀ x, f x = if tat t1 x then tat t2 x else tat t3 x) := Lib.hid (fun x => congrFun hf x)
  rw [hT]
  unfold TabRes
  rw [List.length_map, List.length_range]
  clear h1 h2 h3 hv1 hv2 hv3 hf hT
  go_enter Tryd.func39, Tryd.ntmps39
  go_wp2_with fail
  go_loopw [7, 8] (fun v i wr => ∃ k : Nat, k ≤ len ∧ i = .int .i64 k ∧ OwnF Value.bool 4 wr w.heap.size v ((List.range k).map f) ∧ Below w.heap.size w wr) (fun _ i _ => len - (intOf i).toNat)
  case atStart => exact ⟨0, Nat.zero_le _, rfl, OwnF.nil_, Below.refl _ _⟩
  case round =>
    obtain ⟨k, hk, rfl, hown, hb⟩ := hrel
    have hsz := hb.size
    by_cases hlt : k < len
    · have k1 := HV1.out wr k hb hlt
      have k2 := HV2.out wr k hb hlt
      have k3 := HV3.out wr k hb hlt
      have hfk := HF.out k
      generalize tat t1 k = x1 at *
      generalize tat t2 k = x2 at *
      generalize tat t3 k = x3 at *
      have HB := Lib.hid hb
      have HOWN := Lib.hid hown
      clear hb hown
      cases x1
      · have HY : Hid (f k = x3) := Lib.hid hfk
        clear hfk
        go_wp2_with (at_builtin; refine wp_app1 (f := Value.bool) Tryd.underlying51 hi hz0 hz1 hz2 rfl (by omega) wr rfl _ _ rfl w.heap.size _ ((List.range k).map f) x3 1 rfl HOWN.out hsz (by simp; omega) rfl rfl (by first | rfl | simp [World.setCell]) ?_; intro v1 w1 hown1 hb1 hs1 hg1 hv1)
        go_roundw
        case rel => exact ⟨k + 1, by omega, by go_num, by rw [range_snoc, HY.out]; exact hown1, HB.out.trans hb1⟩
        case measure => simp [intOf]; omega
      · have HY : Hid (f k = x2) := Lib.hid hfk
        clear hfk
        go_wp2_with (at_builtin; refine wp_app1 (f := Value.bool) Tryd.underlying51 hi hz0 hz1 hz2 rfl (by omega) wr rfl _ _ rfl w.heap.size _ ((List.range k).map f) x2 1 rfl HOWN.out hsz (by simp; omega) rfl rfl (by first | rfl | simp [World.setCell]) ?_; intro v1 w1 hown1 hb1 hs1 hg1 hv1)
        go_roundw
        case rel => exact ⟨k + 1, by omega, by go_num, by rw [range_snoc, HY.out]; exact hown1, HB.out.trans hb1⟩
        case measure => simp [intOf]; omega
    · obtain rfl : k = len := by omega
      obtain ⟨A, m, c', rfl, hml, _⟩ := hown.form
      have HB := Lib.hid hb
      have HOWN := Lib.hid hown
      clear hb hown
      go_wp2_with fail
      go_ret
      have hml2 : m = k := by rw [← hml]; simp
      subst hml2
      exact ⟨A, c', rfl, HOWN.out, HB.out⟩
/-- the tables of the words' operations -/
theorem tat_tab {n : Nat} {ws : List Nat} {x : Nat} (hx : x < 2 ^ n) : tat (tabS n ws) x = bitAt ws x := by
  unfold tat
  rw [tabS_get, decide_eq_true hx, Bool.true_and]
end Go.Proofs.YtfcklfpgjadfmaaDoor
