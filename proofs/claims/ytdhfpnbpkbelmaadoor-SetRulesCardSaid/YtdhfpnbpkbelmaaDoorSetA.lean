/- Contracts: set.may, words, full. -/
import Derived.Test.YtdhfpnbpkbelmaaDoorOwn
import Derived.Test.YtdhfpnbpkbelmaaDoorSetP
import Derived.Test.YtdhfpnbpkbelmaaDoorBits
import Derived.Test.YtdhfpnbpkbelmaaDoorQuiet
import Derived.Test.YtdhfpnbpkbelmaaDoorFoot
import Derived.StillTailTactics
namespace Go.Proofs.YtdhfpnbpkbelmaaDoor
open Go.RowKit Go.Sort
set_option linter.unusedSimpArgs false
set_option linter.unusedVariables false

/-- a word as a value -/
def U (x : Nat) : Value := .int .u64 (x : Int)
def smayB (n : Int) : Bool := decide (0 ≤ n ∧ n ≤ 16)
theorem smay_any (n : Int) (w : World) : Calls Tryd.prog 67 #[.int .i64 n] w fun e w' => e = .returned (.bool (smayB n)) ∧ w = w' := by
  by_cases h1 : 0 ≤ n
  · by_cases h2 : n ≤ 16
    · have h : smayB n = true := decide_eq_true ⟨h1, h2⟩
      rw [h]
      clear h
      go_enter Tryd.func67, Tryd.ntmps67
      go_wp2
      go_ret
      exact ⟨rfl, rfl⟩
    · have h : smayB n = false := decide_eq_false (by omega)
      have hd : decide (n ≤ 16) = false := decide_eq_false h2
      rw [h]
      clear h
      go_enter Tryd.func67, Tryd.ntmps67
      go_wp2
      go_ret
      exact ⟨by first | rfl | rw [hd], rfl⟩
  · have h : smayB n = false := decide_eq_false (by omega)
    have hd : decide (0 ≤ n) = false := decide_eq_false h1
    rw [h]
    clear h
    go_enter Tryd.func67, Tryd.ntmps67
    go_wp2
    go_ret
    exact ⟨by first | rfl | rw [hd], rfl⟩
theorem pow_cast (n : Nat) : ((2 : Int) ^ n) = ((2 ^ n : Nat) : Int) := by simp
theorem pow16 {n : Nat} (hn : n ≤ 16) : 2 ^ n ≤ 65536 := Nat.pow_le_pow_right (by omega) (show n ≤ 16 from hn)
set_option maxHeartbeats 400000 in
theorem swords_any (n : Nat) (hn : n ≤ 16) (w : World) : Calls Tryd.prog 71 #[.int .i64 (n : Nat)] w fun e w' => e = .returned (.int .i64 (wordsN n : Nat)) ∧ w = w' := by
  have hN := pow16 hn
  have hp := wrap64_pow n (by omega)
  have hW := Lib.hid (show wordsN n = max 1 (2 ^ n / 64) from rfl)
  generalize 2 ^ n = N at *
  have hd : (N : Int).tdiv 64 = ((N / 64 : Nat) : Int) := by rw [Int.tdiv_eq_ediv_of_nonneg (by omega)]; omega
  have hw : wrap64 ((N / 64 : Nat) : Int) = ((N / 64 : Nat) : Int) := IntWalk.wrap64_in _ ⟨by omega, by omega⟩
  go_enter Tryd.func71, Tryd.ntmps71
  go_wp2
  all_goals
    go_ret
    exact ⟨ret_int (by have := hW.out; omega), rfl⟩
set_option maxHeartbeats 400000 in
theorem sfull_any (n : Nat) (hn : n ≤ 16) (w : World) : Calls Tryd.prog 69 #[.int .i64 (n : Nat)] w fun e w' => e = .returned (U (fullN n)) ∧ w = w' := by
  by_cases h6 : 6 ≤ n
  · have h : fullN n = 18446744073709551615 := by unfold fullN; rw [if_pos h6]
    rw [h]
    clear h
    go_enter Tryd.func69, Tryd.ntmps69
    go_wp2
    go_ret
    exact ⟨rfl, rfl⟩
  · have h6' : n = 0 ∨ n = 1 ∨ n = 2 ∨ n = 3 ∨ n = 4 ∨ n = 5 := by omega
    clear h6 hn
    rcases h6' with rfl | rfl | rfl | rfl | rfl | rfl
    all_goals
      go_enter Tryd.func69, Tryd.ntmps69
      go_wp2
      go_ret
      exact ⟨rfl, rfl⟩
theorem info_u64 : (Tryd.prog.info? 86).map (fun i => (i.zero, i.size, i.bytes)) = some (some (.int .u64 0), 1, 8) := by kernel_rfl
/-- a row behind a store into another block -/
theorem OwnF.set_below' {α : Type} {f : α → Value} {E : TypeId} {w : World} {base g n c : Nat} {xs : List α} (h : OwnF f E w base (.slice (some ⟨g, 0, none⟩) n c) xs) {a : Addr} (ha : a.block ≠ g) (u : Value) : OwnF f E (w.setCell a u) base (.slice (some ⟨g, 0, none⟩) n c) xs :=
  h.chg (F := [a.block]) ((Chg.refl _ _).setCell (.inl (by simp)) _) (fun k hk => by rw [mem_blk] at hk; simp [Value.ownBlock] at hk; subst hk; simpa using fun e => ha e.symm)
/-- a set's value -/
def setV (n : Nat) (b m : Nat) : Value := .agg #[.int .i64 (n : Nat), .slice (some ⟨b, 0, none⟩) m m]
set_option maxRecDepth 100000 in
set_option maxHeartbeats 1000000 in
theorem sblank_any (n : Nat) (hn : n ≤ 16) (w : World) : Calls Tryd.prog 62 #[.int .i64 (n : Nat)] w fun e w' => ∃ b, e = .returned (setV n b (wordsN n)) ∧ w.heap.size ≤ b ∧ OwnF U 86 w' w.heap.size (.slice (some ⟨b, 0, none⟩) (wordsN n) (wordsN n)) (List.replicate (wordsN n) 0) ∧ Below w.heap.size w w' := by
  obtain ⟨i0, hi, hz0, hz1, hz2⟩ := info_parts info_u64
  have hm := wordsN_le hn
  have hm1 := wordsN_pos n
  have hSW := Lib.hid (fun w => swords_any n hn w)
  generalize wordsN n = m at *
  unfold setV
  go_enter Tryd.func62, Tryd.ntmps62
  go_wp2_with fail
  refine (hSW.out _).mono ?_
  rintro e w' ⟨rfl, rfl⟩
  have HBK := Lib.hid (Blk.new w 24 #[.int .i64 0, .slice none 0 0])
  go_wp2_with (at_make; refine wp_make (f := U) (z := 0) Tryd.underlying22 hi hz0 hz1 hz2 rfl _ rfl _ _ rfl (m : Int) m rfl rfl rfl (by omega) (by unfold maxLen; omega) ?_; intro w1 hown1 hb1 hs1; have hK := HBK.out.chg (F := []) (chg_of_below hb1) (by simp); have n0 : w1.cell? ⟨w.heap.size, 0, none⟩ = some (.int .i64 0) := hK.cell 0; have n1 : w1.cell? ⟨w.heap.size, 1, none⟩ = some (.slice none 0 0) := hK.cell 1; have z0 := hK.frozen 0; have z1 := hK.frozen 1; have HO := Lib.hid hown1; have HB := Lib.hid hb1; clear hK hown1 hb1 hs1)
  refine bodyPost_ret (v := .agg #[.int .i64 (n : Nat), .slice (some ⟨w.heap.size + 1, 0, none⟩) m m]) ?_ rfl ⟨w.heap.size + 1, rfl, by omega, ?_, ?_⟩
  · simp [results, Tryd.results62, go_sem, *]
  · have h := HO.out
    rw [World.size_alloc] at h
    exact ((h.mono (by omega)).set_below' (by simp) _).set_below' (by simp) _
  · have h := HB.out
    rw [World.size_alloc] at h
    exact ((((Below.refl _ _).alloc (Nat.le_refl _) _).trans (h.mono (by omega))).setCell (Nat.le_refl _) _).setCell (Nat.le_refl _) _
end Go.Proofs.YtdhfpnbpkbelmaaDoor
