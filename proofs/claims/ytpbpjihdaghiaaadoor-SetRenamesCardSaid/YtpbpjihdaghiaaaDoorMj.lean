/- Plain: the bits of a word, one by one; the members of a set. Contracts: math/bits.TrailingZeros64, slices.Clone of words, set.Members. -/
import Derived.Lib.TrailingZeros
import Derived.Test.YtpbpjihdaghiaaaDoorMi
import Derived.Test.YtpbpjihdaghiaaaDoorSetHs
import Derived.Shelf.Spec.TrailingZeros
import Derived.Deep.RegionWith
section
namespace Go.Proofs.YtpbpjihdaghiaaaDoor
set_option linter.unusedSimpArgs false
set_option linter.unusedVariables false

theorem filter_head {p q : Nat → Bool} {k : Nat} (h1 : ∀ j, j < k → p j = false) (h2 : p k = true) (h3 : ∀ j, q j = (p j && decide (j ≠ k))) : ∀ n, k < n → (List.range n).filter p = k :: (List.range n).filter q
  | 0, h => by omega
  | n + 1, h => by
    rw [List.range_succ, List.filter_append, List.filter_append]
    by_cases hk : k < n
    · rw [filter_head h1 h2 h3 n hk]
      have : q n = p n := by rw [h3, decide_eq_true (by omega), Bool.and_true]
      simp [List.filter_cons, this]
    · obtain rfl : k = n := by omega
      have e1 : (List.range k).filter p = [] := by rw [List.filter_eq_nil_iff]; intro j hj; rw [List.mem_range] at hj; simp [h1 j hj]
      have e2 : (List.range k).filter q = [] := by rw [List.filter_eq_nil_iff]; intro j hj; rw [List.mem_range] at hj; simp [h3, h1 j hj]
      have e3 : q k = false := by rw [h3]; simp
      rw [e1, e2]
      simp [List.filter_cons, h2, e3]
/-- the bits of a word -/
def bitsL (v : Nat) : List Nat := (List.range 64).filter v.testBit
theorem bitsL_zero : bitsL 0 = [] := by unfold bitsL; rw [List.filter_eq_nil_iff]; simp
theorem ctz_facts {v : Nat} (h0 : v ≠ 0) (h : v < 18446744073709551616) : Lib.ctz 64 v < 64 ∧ (∀ j, j < Lib.ctz 64 v → v.testBit j = false) ∧ v.testBit (Lib.ctz 64 v) = true ∧ (∀ j, (v &&& (v - 1)).testBit j = (v.testBit j && decide (j ≠ Lib.ctz 64 v))) := by
  obtain ⟨m, hm, hk⟩ := Lib.ctzFrom_spec 64 v (by omega) h
  have e : Lib.ctz 64 v = Lib.ctzFrom 64 v := by simp [Lib.ctz, h0]
  rw [e]
  generalize Lib.ctzFrom 64 v = k at *
  have hv : v = 2 ^ (k + 1) * m + 2 ^ k := by rw [hm, Nat.mul_add, Nat.mul_one, Nat.pow_succ, Nat.mul_assoc]
  have hp := Nat.two_pow_pos k
  have hv1 : v - 1 = 2 ^ (k + 1) * m + (2 ^ k - 1) := by omega
  have hlt : 2 ^ k < 2 ^ (k + 1) := Nat.pow_lt_pow_right (by omega) (by omega)
  have b1 : ∀ j, v.testBit j = if j < k + 1 then decide (k = j) else m.testBit (j - (k + 1)) := fun j => by
    rw [hv, Nat.testBit_two_pow_mul_add _ hlt]
    split
    · rw [Nat.testBit_two_pow]
    · rfl
  have b2 : ∀ j, (v - 1).testBit j = if j < k + 1 then decide (j < k) else m.testBit (j - (k + 1)) := fun j => by
    rw [hv1, Nat.testBit_two_pow_mul_add _ (by omega)]
    split
    · rw [Nat.testBit_two_pow_sub_one]
    · rfl
  refine ⟨hk, fun j hj => ?_, ?_, fun j => ?_⟩
  · rw [b1, if_pos (by omega), decide_eq_false (by omega)]
  · rw [b1, if_pos (by omega), decide_eq_true rfl]
  · rw [Nat.testBit_and, b1, b2]
    split
    · by_cases hjk : k = j
      · subst hjk; simp
      · rw [decide_eq_false hjk]; simp
    · rw [decide_eq_true (by omega), Bool.and_true, Bool.and_self]
theorem bitsL_step {v : Nat} (h0 : v ≠ 0) (h : v < 18446744073709551616) : bitsL v = Lib.ctz 64 v :: bitsL (v &&& (v - 1)) := by
  obtain ⟨h1, h2, h3, h4⟩ := ctz_facts h0 h
  exact filter_head h2 h3 h4 64 h1
theorem and_pred_lt {v : Nat} (h0 : v ≠ 0) : v &&& (v - 1) < v := Nat.lt_of_le_of_lt Nat.and_le_right (by omega)
/-- the members of a word of a set -/
def memW (ws : List Nat) (i : Nat) : List Nat := (bitsL (wat ws i)).map fun j => i * 64 + j
/-- the members from a word on -/
def restL (ws : List Nat) (i : Nat) : List Nat := ((List.range ws.length).drop i).flatMap (memW ws)
theorem restL_step {ws : List Nat} {i : Nat} (h : i < ws.length) : restL ws i = memW ws i ++ restL ws (i + 1) := by
  unfold restL
  rw [List.drop_eq_getElem_cons (by simpa using h), List.flatMap_cons, List.getElem_range]
theorem restL_end (ws : List Nat) : restL ws ws.length = [] := by
  unfold restL
  rw [List.drop_of_length_le (by simp)]; rfl
theorem filter_blocks (ws : List Nat) : ∀ m, (List.range m).flatMap (memW ws) = (List.range (64 * m)).filter (bitAt ws)
  | 0 => by simp
  | m + 1 => by
    rw [List.range_succ, List.flatMap_append, filter_blocks ws m, Nat.mul_succ, List.range_add, List.filter_append]
    congr 1
    simp only [List.flatMap_cons, List.flatMap_nil, List.append_nil, List.filter_map]
    unfold memW bitsL
    rw [Nat.mul_comm m 64]
    congr 1
    apply List.filter_congr
    intro j hj
    rw [List.mem_range] at hj
    simp only [Function.comp]
    unfold bitAt
    rw [show (64 * m + j) / 64 = m by omega, show (64 * m + j) % 64 = j by omega]; rfl
/-- the members of a set that may be -/
theorem restL_set {n : Nat} {ws : List Nat} (h : SOk n ws) : restL ws 0 = (List.range (2 ^ n)).filter (bitAt ws) := by
  unfold restL
  rw [List.drop_zero, filter_blocks, h.len]
  by_cases h6 : 6 ≤ n
  · rw [wordsN_big h6, ← pow_split h6]
  · rw [wordsN_small h6]
    have hl := pow_lt64 h6
    have e : 64 * 1 = 2 ^ n + (64 - 2 ^ n) := by omega
    rw [e, List.range_add, List.filter_append]
    have : ((List.range (64 - 2 ^ n)).map (2 ^ n + ·)).filter (bitAt ws) = [] := by
      rw [List.filter_eq_nil_iff]
      intro x hx
      rw [List.mem_map] at hx
      obtain ⟨j, hj, rfl⟩ := hx
      rw [List.mem_range] at hj
      rw [h.hi _ (by omega) (by omega)]
      simp
    rw [this, List.append_nil]
theorem bitsL_length (v : Nat) : ∀ k, ((List.range k).filter v.testBit).length = popN v k
  | 0 => by simp [popN]
  | k + 1 => by
    rw [List.range_succ, List.filter_append, List.length_append, bitsL_length v k, popN_add v k 1]
    congr 1
    rw [popN, popN, Nat.add_zero, List.filter_cons, Nat.testBit_eq_decide_div_mod_eq]
    rcases Nat.mod_two_eq_zero_or_one (v / 2 ^ k) with h | h <;> simp [h]
theorem memW_length (ws : List Nat) (j : Nat) : (memW ws j).length = popN (wat ws j) 64 := by
  unfold memW bitsL
  rw [List.length_map, bitsL_length]
theorem memW_sum (ws : List Nat) : ∀ l : List Nat, (l.flatMap (memW ws)).length = (l.map fun j => popN (wat ws j) 64).sum
  | [] => rfl
  | j :: l => by rw [List.flatMap_cons, List.length_append, memW_length, memW_sum ws l, List.map_cons, List.sum_cons]
theorem members_count {n : Nat} {ws : List Nat} (h : SOk n ws) : ((List.range (2 ^ n)).filter (bitAt ws)).length = ((List.range ws.length).map fun j => popN (wat ws j) 64).sum := by
  rw [← restL_set h]
  unfold restL
  rw [List.drop_zero, memW_sum]
end Go.Proofs.YtpbpjihdaghiaaaDoor
end

section
namespace Go.Proofs.YtpbpjihdaghiaaaDoor
open Go.RowKit Go.Sort
set_option linter.unusedSimpArgs false
set_option linter.unusedVariables false

/-- the table of the library -/
def DB (w : World) : Prop := Lib.TabIs Tryd.prog w "math/bits.deBruijn64tab" .u8 (Lib.deBruijn64tab.map Int.ofNat)
theorem DB.on {w w' : World} (h : DB w) (hb : Below w.heap.size w w') : DB w' := by
  unfold DB Lib.TabIs World.var? at *
  cases hg : Tryd.prog.globalNamed "math/bits.deBruijn64tab" with
  | none => simp [hg] at h
  | some g =>
    simp only [hg, Option.bind_some] at h ⊢
    have hlt : g < w.heap.size := by
      rcases Nat.lt_or_ge g w.heap.size with h' | h'
      · exact h'
      · rw [Array.getElem?_eq_none h'] at h; simp at h
    rw [hb.block g (by omega)]
    exact h
theorem DB.glob {w : World} (h : DB w) : 0 < w.heap.size := by
  have hg : Tryd.prog.globalNamed "math/bits.deBruijn64tab" = some 0 := by kernel_rfl
  unfold DB Lib.TabIs World.var? at h
  simp only [hg, Option.bind_some] at h
  rcases Nat.lt_or_ge 0 w.heap.size with h' | h'
  · exact h'
  · rw [Array.getElem?_eq_none h'] at h; simp at h
theorem DB.block {w w' : World} (h : DB w) (hb : w'.heap[0]? = w.heap[0]?) : DB w' := by
  have hg : Tryd.prog.globalNamed "math/bits.deBruijn64tab" = some 0 := by kernel_rfl
  unfold DB Lib.TabIs World.var? at *
  simp only [hg, Option.bind_some] at h ⊢
  rw [hb]; exact h
theorem DB.cell {w : World} (h : DB w) (i : Nat) (hi : i < 64) : w.cell? ⟨0, i, none⟩ = some (.int .u8 ((Lib.deBruijn64tab.getD i 0 : Nat) : Int)) := by
  have := Lib.TabIs.cell h (g := 0) (by kernel_rfl) i (by rw [List.length_map]; exact hi)
  rw [this]
  congr 2
  simp [List.getD, List.getElem?_map]
  cases Lib.deBruijn64tab[i]? <;> rfl
set_option maxHeartbeats 1000000 in
theorem tz_core (x k idx : Nat) (w : World) (hx0 : ((x : Int) == 0) = false)
    (key : IntKind.u64.wrap (bits BinOp.and IntKind.u64 (x : Int) (IntKind.u64.wrap (-(x : Int))) * 285870213051353865) / 288230376151711744 = (idx : Int))
    (hi : idx < 64) (hk : k < 64) (hcell : w.cell? ⟨0, idx, none⟩ = some (.int .u8 k)) :
    Calls Tryd.prog 56 #[.int .u64 (x : Nat)] w fun e w' => e = .returned (.int .i64 (k : Nat)) ∧ w = w' := by
  go_enter Tryd.func56, Tryd.ntmps56
  go_wp2_with (simp only [key])
  go_ret
  exact ⟨rfl, rfl⟩
theorem tz_any (x : Nat) (h0 : x ≠ 0) (hx : x < 18446744073709551616) (w : World) (hD : DB w) : Calls Tryd.prog 56 #[.int .u64 (x : Nat)] w fun e w' => e = .returned (.int .i64 (Lib.ctz 64 x : Nat)) ∧ w = w' := by
  obtain ⟨hlow, hk⟩ := Lib.lowest_bit 64 x h0 hx
  obtain ⟨hi, htab⟩ := Lib.deBruijn64_at _ hk
  have hcell := hD.cell _ hi
  rw [htab] at hcell
  exact tz_core x _ _ w (beq_eq_false_iff_ne.2 (fun e => h0 (by exact_mod_cast e))) (tz64_key x _ hx h0 hlow) hi hk hcell
set_option maxHeartbeats 1000000 in
theorem wclone_any (A : Option Addr) (n c : Nat) (ws : List Nat) (w : World) (hz : ws.length = n) (hn : n ≤ 34359738367) (hr : RowF U 0 w w.heap.size A ws) :
    Calls Tryd.prog 54 #[.slice A n c] w fun e w' => ∃ v, e = .returned v ∧ OwnF U 71 w' w.heap.size v ws ∧ Below w.heap.size w w' := by
  obtain ⟨i0, hi, hz0, hz1, hz2⟩ := info_parts info_u64
  have heq := fun (W : World) => Lib.run_eql_slice_nil (P := Tryd.prog) W 22 71 A n c 0 0 Tryd.underlying22
  rcases A with _ | ad
  · have hn0 : ws = [] := by
      cases ws with
      | nil => rfl
      | cons z r => obtain ⟨_, _, h, _⟩ := hr (by simp); cases h
    subst hn0
    go_enter Tryd.func54, Tryd.ntmps54
    go_wp2
    go_ret
    exact ⟨_, rfl, OwnF.nil_, Below.refl _ _⟩
  · have hsrc := Lib.hid ((hr.src hz).alloc (.cells #[] 71))
    have hown0 : OwnF U 71 (w.alloc (.cells #[] 71)) w.heap.size (.slice (some ⟨w.heap.size, 0, none⟩) 0 0) [] := World.ownsRow_lit w #[] 0 (Nat.le_refl _) (by unfold maxLen; omega) rfl
    have hown := Lib.hid hown0
    clear hown0 hz hr
    go_enter Tryd.func54, Tryd.ntmps54
    go_wp2_with (at_builtin; refine wp_appN (f := U) Tryd.underlying22 hi hz0 hz1 hz2 rfl (by omega) _ rfl _ _ rfl w.heap.size _ [] ws (some ad) n c (fun _ => rfl) hown.out hsrc.out (by simp) (by simp; omega) rfl rfl ?_; intro v1 w1 hown1 hb1 hs1 hg1 hv1)
    go_ret
    simp only [List.nil_append] at hown1
    exact ⟨_, rfl, hown1, ((Below.refl _ _).alloc (Nat.le_refl _) _).trans hb1⟩
end Go.Proofs.YtpbpjihdaghiaaaDoor
end
