/- Contracts: perm.Same, ramageref02.Self, All, Step. -/
import Derived.Test.YtomibgonhdkhdaaPermB
namespace Go.Proofs.Ytomibgonhdkhdaa
open Go.RowKit
set_option linter.unusedSimpArgs false
set_option linter.unusedVariables false

/-- 0, 1, .., n-1 -/
def iota (n : Nat) : List Int := (List.range n).map fun (i : Nat) => (i : Int)
theorem iota_length (n : Nat) : (iota n).length = n := by simp [iota]
theorem iota_get {n k : Nat} (h : k < n) : (iota n)[k]?.getD 0 = (k : Int) := by
  unfold iota
  rw [List.getElem?_map, List.getElem?_range h]; rfl
theorem iota_succ (n : Nat) : iota (n + 1) = iota n ++ [(n : Int)] := by
  unfold iota
  rw [List.range_succ, List.map_append]; rfl
theorem iota_perm {n : Nat} (h : n ≤ 16) : IsPerm (iota n) := by
  refine ⟨by rw [iota_length]; exact h, ?_, ?_⟩
  · unfold iota
    refine List.nodup_range.map (f := fun (i : Nat) => (i : Int)) ?_
    intro a b hab h
    have h' : (a : Int) = (b : Int) := h
    omega
  · intro z hz
    unfold iota at hz
    obtain ⟨i, hi, rfl⟩ := List.mem_map.1 hz
    rw [iota_length]
    have := List.mem_range.1 hi
    omega

set_option maxHeartbeats 400000 in
theorem permSame_any (n : Int) (w : World) (h0 : 0 ≤ n) (hn : n ≤ 16) :
    Calls Try.prog 35 #[.int .i64 n] w fun e w' =>
      e = .returned (.tuple #[.slice (some ⟨w.heap.size, 0, none⟩) n.toNat n.toNat, .bool true]) ∧ OwnI w' w.heap.size (.slice (some ⟨w.heap.size, 0, none⟩) n.toNat n.toNat) (iota n.toNat) ∧ Below w.heap.size w w' ∧ w.heap.size < w'.heap.size := by
  obtain ⟨m, rfl⟩ := Int.eq_ofNat_of_zero_le h0
  rw [Int.toNat_natCast]
  have hm : m ≤ 16 := by omega
  clear h0 hn
  obtain ⟨i0, hi, hz0, hz1, hz2⟩ := info_parts info_int
  go_enter Try.func35, Try.ntmps35
  go_wp2_with (at_make; refine wp_make (f := Value.int .i64) Try.underlying22 hi hz0 hz1 hz2 rfl _ rfl _ _ rfl (m : Int) m rfl rfl rfl (by omega) (by unfold maxLen; omega) ?_; intro w1 hown1 hb1 hs1)
  go_loopw [5, 16] (fun _ i wr => ∃ k : Nat, k ≤ m ∧ i = .int .i64 k ∧ OwnI wr w.heap.size (.slice (some ⟨w.heap.size, 0, none⟩) m m) (iota k ++ List.replicate (m - k) 0) ∧ Below w.heap.size w wr ∧ w.heap.size < wr.heap.size) (fun _ i _ => m - (intOf i).toNat)
  case atStart => exact ⟨0, Nat.zero_le _, rfl, hown1, hb1, hs1⟩
  case round =>
    obtain ⟨k, hk, rfl, hown, hb, hsz⟩ := hrel
    by_cases hlt : k < m
    · have hg := OwnF.at_ hown k (by rw [List.length_append, iota_length, List.length_replicate]; omega)
      have hc : ∃ u, wr.cell? ⟨w.heap.size, k, none⟩ = some u := by
        rw [hg.1, List.getElem?_eq_getElem (by rw [List.length_append, iota_length, List.length_replicate]; omega)]
        exact ⟨_, rfl⟩
      obtain ⟨u, hc⟩ := hc
      have hf := hg.2
      have hst := OwnF.set_ hown k (k : Int)
      have hset : (iota k ++ List.replicate (m - k) 0).set k (k : Int) = iota (k + 1) ++ List.replicate (m - (k + 1)) 0 := by
        rw [List.set_append_right _ _ (by rw [iota_length]; exact Nat.le_refl _), iota_length, Nat.sub_self, iota_succ, show m - k = (m - (k + 1)) + 1 by omega, List.replicate_succ]
        simp
      rw [hset] at hst
      have hbs := hb.setCell (p := ⟨w.heap.size, k, none⟩) (Nat.le_refl _) (.int .i64 (k : Int))
      clear hset hg hown hown1 hb1
      go_wp2
      go_roundw
      case rel => exact ⟨k + 1, by omega, by go_num, hst, hbs, by simpa [World.setCell] using hsz⟩
      case measure => simp [intOf]; omega
    · have hkm : k = m := by omega
      rw [show iota k ++ List.replicate (m - k) 0 = iota m by subst hkm; simp] at hown
      have hown' := Lib.hid hown
      clear hown hkm hown1
      go_wp2
      go_ret2
      exact ⟨rfl, hown'.out, hb, hsz⟩

theorem permSame_no (n : Int) (w : World) (h0 : n < 0 ∨ 16 < n) :
    Calls Try.prog 35 #[.int .i64 n] w fun e w' => e = .returned (.tuple #[.slice none 0 0, .bool false]) ∧ w = w' := by
  rcases h0 with h | h
  · go_enter Try.func35, Try.ntmps35
    go_wp2
    go_ret2
    exact ⟨rfl, rfl⟩
  · have h2 : ¬ n < 0 := by omega
    go_enter Try.func35, Try.ntmps35
    go_wp2
    go_ret2
    exact ⟨rfl, rfl⟩

set_option maxHeartbeats 400000 in
theorem self_any (n : Int) (w : World) (hn : n ≤ 1000) :
    Calls Try.prog 20 #[.int .i64 n] w fun e w' => ∃ v, e = .returned v ∧ OwnI w' w.heap.size v (iota n.toNat) ∧ Below w.heap.size w w' := by
  obtain ⟨i0, hi, hz0, hz1, hz2⟩ := info_parts info_int
  go_enter Try.func20, Try.ntmps20
  go_wp2
  go_loopw [3, 4] (fun v i wr => ∃ k : Nat, k ≤ n.toNat ∧ i = .int .i64 k ∧ OwnI wr w.heap.size v (iota k) ∧ Below w.heap.size w wr) (fun _ i _ => n.toNat - (intOf i).toNat)
  case atStart => exact ⟨0, Nat.zero_le _, rfl, OwnF.nil_, Below.refl _ _⟩
  case round =>
    obtain ⟨k, hk, rfl, hown, hb⟩ := hrel
    by_cases hlt : (k : Int) < n
    · go_wp2_with (at_builtin; go_loud (refine wp_app1 (f := Value.int .i64) Try.underlying22 hi hz0 hz1 hz2 rfl (by omega) wr rfl _ _ rfl w.heap.size _ (iota k) (k : Int) 1 rfl hown hb.size (by rw [iota_length]; omega) rfl rfl (by first | rfl | simp [World.setCell]) ?_); intro v1 w1 hown1 hb1 hs1 hg1 hv1)
      rw [← iota_succ] at hown1
      go_roundw
      case rel => exact ⟨k + 1, by omega, by go_num, hown1, hb.trans hb1⟩
      case measure => simp [intOf]; omega
    · have hkm : k = n.toNat := by omega
      have hown' : Hid (OwnI wr w.heap.size u3 (iota n.toNat)) := by rw [← hkm]; exact Lib.hid hown
      clear hown hkm
      go_wp2
      go_ret
      exact ⟨_, rfl, hown'.out, hb⟩

end Go.Proofs.Ytomibgonhdkhdaa
