/- Plain: sets of assignments as words of 64 bits, and as tables. Contracts: set.may, words, full. Contract: set.Right. Contracts: set.not, Nothing, All. Contracts: set.Nothing, All. Contracts: set.Of, column, single, Single. -/
import Derived.Test.YtpjciaomhfeeeaaGreatDoorMc
import Derived.Test.YtpjciaomhfeeeaaGreatDoorMa
import Derived.StillTailTactics
section
namespace Go.Proofs.YtpjciaomhfeeeaaGreatDoor
set_option linter.unusedSimpArgs false
set_option linter.unusedVariables false

/-- how many words -/
def wordsN (n : Nat) : Nat := max 1 (2 ^ n / 64)
/-- the bits of a word that may be set -/
def fullN (n : Nat) : Nat := if 6 ≤ n then 18446744073709551615 else 2 ^ 2 ^ n - 1
/-- is an assignment in it? -/
def bitAt (ws : List Nat) (x : Nat) : Bool := (ws[x / 64]?.getD 0).testBit (x % 64)
/-- the table -/
def tabS (n : Nat) (ws : List Nat) : List Bool := (List.range (2 ^ n)).map (bitAt ws)
/-- a number of its bits -/
def ofBits (f : Nat → Bool) : Nat → Nat
  | 0 => 0
  | m + 1 => ofBits f m + (if f m then 2 ^ m else 0)
theorem ofBits_lt (f : Nat → Bool) : ∀ m, ofBits f m < 2 ^ m
  | 0 => by simp [ofBits]
  | m + 1 => by
    have := ofBits_lt f m
    rw [ofBits, Nat.pow_succ]
    split <;> omega
theorem testBit_ofBits (f : Nat → Bool) (m : Nat) : ∀ j, (ofBits f m).testBit j = (decide (j < m) && f j) := by
  induction m with
  | zero => intro j; simp [ofBits]
  | succ m ih =>
    intro j
    have hlt := ofBits_lt f m
    rw [ofBits]
    by_cases hf : f m = true
    · rw [if_pos hf, Nat.add_comm]
      rcases Nat.lt_trichotomy j m with h | h | h
      · rw [Nat.testBit_two_pow_add_gt h, ih]
        simp [h, show j < m + 1 by omega]
      · subst h
        rw [Nat.testBit_two_pow_add_eq, ih]
        simp [hf]
      · rw [Nat.testBit_lt_two_pow (Nat.lt_of_lt_of_le (show 2 ^ m + ofBits f m < 2 ^ (m + 1) by rw [Nat.pow_succ]; omega) (Nat.pow_le_pow_right (by omega) (by omega)))]
        simp [show ¬ j < m + 1 by omega]
    · rw [if_neg hf, Nat.add_zero, ih]
      rcases Nat.lt_trichotomy j m with h | h | h
      · simp [h, show j < m + 1 by omega]
      · subst h; simp [hf]
      · simp [show ¬ j < m by omega, show ¬ j < m + 1 by omega]
/-- the words of a table -/
def packT (t : List Bool) : List Nat := (List.range ((t.length + 63) / 64)).map fun k => ofBits (fun j => t[64 * k + j]?.getD false) 64
theorem packT_length (t : List Bool) : (packT t).length = (t.length + 63) / 64 := by simp [packT]
theorem bitAt_pack (t : List Bool) (x : Nat) : bitAt (packT t) x = t[x]?.getD false := by
  unfold bitAt packT
  by_cases hx : x / 64 < (t.length + 63) / 64
  · rw [List.getElem?_map, List.getElem?_range hx]
    simp only [Option.map_some, Option.getD_some]
    rw [testBit_ofBits, decide_eq_true (Nat.mod_lt _ (by omega)), Bool.true_and, Nat.div_add_mod]
  · rw [List.getElem?_eq_none (by simpa using hx), List.getElem?_eq_none (by omega)]
    simp
theorem packT_lt (t : List Bool) : ∀ v ∈ packT t, v < 18446744073709551616 := fun v hv => by
  unfold packT at hv
  rw [List.mem_map] at hv
  obtain ⟨k, _, rfl⟩ := hv
  exact ofBits_lt _ 64
/-- a set that may be -/
structure SOk (n : Nat) (ws : List Nat) : Prop where
  n16 : n ≤ 16
  len : ws.length = wordsN n
  lt : ∀ v ∈ ws, v < 18446744073709551616
  hi : ∀ x, 2 ^ n ≤ x → x < 64 → bitAt ws x = false
theorem pow_split {n : Nat} (h : 6 ≤ n) : 2 ^ n = 64 * 2 ^ (n - 6) := by
  obtain ⟨m, rfl⟩ := Nat.exists_eq_add_of_le h
  rw [Nat.add_sub_cancel_left, Nat.pow_add]
theorem wordsN_big {n : Nat} (h : 6 ≤ n) : wordsN n = 2 ^ (n - 6) := by
  unfold wordsN
  rw [pow_split h, Nat.mul_div_cancel_left _ (by omega)]
  have := Nat.one_le_two_pow (n := n - 6)
  omega
theorem pow_lt64 {n : Nat} (h : ¬ 6 ≤ n) : 2 ^ n ≤ 32 := Nat.pow_le_pow_right (by omega) (show n ≤ 5 by omega)
theorem wordsN_small {n : Nat} (h : ¬ 6 ≤ n) : wordsN n = 1 := by
  unfold wordsN
  have := pow_lt64 h
  omega
theorem wordsN_ceil (n : Nat) : wordsN n = (2 ^ n + 63) / 64 := by
  by_cases h : 6 ≤ n
  · rw [wordsN_big h, pow_split h]; omega
  · rw [wordsN_small h]
    have := pow_lt64 h
    have := Nat.one_le_two_pow (n := n)
    omega
theorem wordsN_pos (n : Nat) : 1 ≤ wordsN n := by unfold wordsN; omega
theorem wordsN_le {n : Nat} (h : n ≤ 16) : wordsN n ≤ 1024 := by
  have : 2 ^ n ≤ 2 ^ 16 := Nat.pow_le_pow_right (by omega) h
  unfold wordsN; omega
theorem tabS_length (n : Nat) (ws : List Nat) : (tabS n ws).length = 2 ^ n := by simp [tabS]
theorem tabS_get (n : Nat) (ws : List Nat) (x : Nat) : (tabS n ws)[x]?.getD false = (decide (x < 2 ^ n) && bitAt ws x) := by
  unfold tabS
  by_cases h : x < 2 ^ n
  · rw [List.getElem?_map, List.getElem?_range h]; simp [h]
  · rw [List.getElem?_eq_none (by simpa using h)]; simp [h]
theorem SOk.pack {n : Nat} (hn : n ≤ 16) {t : List Bool} (ht : t.length = 2 ^ n) : SOk n (packT t) :=
  ⟨hn, by rw [packT_length, ht, wordsN_ceil], packT_lt t, fun x hx _ => by rw [bitAt_pack, List.getElem?_eq_none (by omega)]; rfl⟩
/-- two sets with the same assignments are the same -/
theorem SOk.ext {n : Nat} {a b : List Nat} (ha : SOk n a) (hb : SOk n b) (h : ∀ x, x < 2 ^ n → bitAt a x = bitAt b x) : a = b := by
  have hall : ∀ x, x < 64 * wordsN n → bitAt a x = bitAt b x := fun x hx => by
    by_cases h1 : x < 2 ^ n
    · exact h x h1
    · by_cases h6 : 6 ≤ n
      · rw [wordsN_big h6, ← pow_split h6] at hx; omega
      · rw [wordsN_small h6] at hx
        rw [ha.hi x (by omega) (by omega), hb.hi x (by omega) (by omega)]
  apply List.ext_getElem (by rw [ha.len, hb.len])
  intro k h1 h2
  apply Nat.eq_of_testBit_eq
  intro j
  by_cases hj : j < 64
  · have := hall (64 * k + j) (by rw [ha.len] at h1; omega)
    unfold bitAt at this
    rw [show (64 * k + j) / 64 = k by omega, show (64 * k + j) % 64 = j by omega, List.getElem?_eq_getElem h1, List.getElem?_eq_getElem h2] at this
    exact this
  · rw [Nat.testBit_lt_two_pow (Nat.lt_of_lt_of_le (ha.lt _ (List.getElem_mem h1)) (show 18446744073709551616 ≤ 2 ^ j from (show 2 ^ 64 ≤ 2 ^ j from Nat.pow_le_pow_right (by omega) (by omega)))),
      Nat.testBit_lt_two_pow (Nat.lt_of_lt_of_le (hb.lt _ (List.getElem_mem h2)) (show 18446744073709551616 ≤ 2 ^ j from (show 2 ^ 64 ≤ 2 ^ j from Nat.pow_le_pow_right (by omega) (by omega))))]
theorem SOk.pack_tab {n : Nat} {ws : List Nat} (h : SOk n ws) : packT (tabS n ws) = ws :=
  (SOk.pack h.n16 (tabS_length n ws)).ext h fun x hx => by rw [bitAt_pack, tabS_get, decide_eq_true hx, Bool.true_and]
theorem tab_pack {n : Nat} {t : List Bool} (ht : t.length = 2 ^ n) : tabS n (packT t) = t := by
  apply List.ext_getElem (by rw [tabS_length, ht])
  intro x h1 h2
  have h3 := tabS_get n (packT t) x
  rw [List.getElem?_eq_getElem h1, bitAt_pack, List.getElem?_eq_getElem h2] at h3
  simp only [Option.getD_some] at h3
  rw [h3, decide_eq_true (by rw [tabS_length] at h1; exact h1), Bool.true_and]
/-- a set of its bits is that of a table -/
theorem SOk.eq_pack {n : Nat} {ws : List Nat} (h : SOk n ws) {t : List Bool} (ht : t.length = 2 ^ n) (hb : ∀ x, x < 2 ^ n → bitAt ws x = t[x]?.getD false) : ws = packT t :=
  h.ext (SOk.pack h.n16 ht) fun x hx => by rw [bitAt_pack, hb x hx]
theorem bitAt_map {f : Nat → Nat} {m k j : Nat} (hk : k < m) (hj : j < 64) : bitAt ((List.range m).map f) (64 * k + j) = (f k).testBit j := by
  unfold bitAt
  rw [show (64 * k + j) / 64 = k by omega, show (64 * k + j) % 64 = j by omega, List.getElem?_map, List.getElem?_range hk]
  rfl
theorem bitAt_range {f : Nat → Nat} {m x : Nat} (hx : x / 64 < m) : bitAt ((List.range m).map f) x = (f (x / 64)).testBit (x % 64) := by
  have := bitAt_map (f := f) (m := m) (k := x / 64) (j := x % 64) hx (Nat.mod_lt _ (by omega))
  rwa [Nat.div_add_mod] at this
theorem idx_lt {n x : Nat} (hx : x < 2 ^ n) : x / 64 < wordsN n := by
  rw [wordsN_ceil]; omega
/-- the word at a place -/
def wat (ws : List Nat) (k : Nat) : Nat := ws[k]?.getD 0
theorem wat_bit (ws : List Nat) (x : Nat) : (wat ws (x / 64)).testBit (x % 64) = bitAt ws x := rfl
theorem wat_lt {ws : List Nat} (h : ∀ v ∈ ws, v < 18446744073709551616) (k : Nat) : wat ws k < 18446744073709551616 := by
  unfold wat
  by_cases hk : k < ws.length
  · rw [List.getElem?_eq_getElem hk]; exact h _ (List.getElem_mem hk)
  · rw [List.getElem?_eq_none (by omega)]; simp
theorem range_wat {ws : List Nat} {m : Nat} (h : ws.length = m) : (List.range m).map (wat ws) = ws := by
  apply List.ext_getElem (by simp [h])
  intro i h1 h2
  simp [wat, List.getElem?_eq_getElem h2]
theorem fullN_lt (n : Nat) : fullN n < 18446744073709551616 := by
  unfold fullN
  split
  · omega
  · rename_i h
    have h1 := pow_lt64 h
    have : 2 ^ 2 ^ n ≤ 2 ^ 32 := Nat.pow_le_pow_right (by omega) h1
    omega
theorem fullN_bit (n j : Nat) (hj : j < 64) : (fullN n).testBit j = decide (j < 2 ^ n) := by
  unfold fullN
  split
  · rename_i h
    have : 2 ^ 6 ≤ 2 ^ n := Nat.pow_le_pow_right (by omega) h
    rw [decide_eq_true (by omega), show (18446744073709551615 : Nat) = 2 ^ 64 - 1 from rfl, Nat.testBit_two_pow_sub_one]
    simpa using hj
  · rw [Nat.testBit_two_pow_sub_one]
/-- a set made word by word -/
theorem SOk.made {n : Nat} (hn : n ≤ 16) {f : Nat → Nat} (h1 : ∀ k, k < wordsN n → f k < 18446744073709551616) (h2 : ∀ j, 2 ^ n ≤ j → j < 64 → (f 0).testBit j = false) : SOk n ((List.range (wordsN n)).map f) :=
  ⟨hn, by simp, fun v hv => by
    rw [List.mem_map] at hv
    obtain ⟨k, hk, rfl⟩ := hv
    exact h1 k (by simpa using hk), fun x hx hx2 => by
    have := bitAt_map (f := f) (m := wordsN n) (k := 0) (j := x) (wordsN_pos n) hx2
    rw [Nat.mul_zero, Nat.zero_add] at this
    rw [this]
    exact h2 x hx hx2⟩
/-- words so far -/
def filled (g : Nat → Nat) (m k : Nat) : List Nat := (List.range m).map fun i => if i < k then g i else 0
theorem filled_zero (g : Nat → Nat) (m : Nat) : filled g m 0 = List.replicate m 0 := by
  unfold filled
  apply List.ext_getElem (by simp)
  intro i h1 h2
  simp
theorem filled_all (g : Nat → Nat) (m : Nat) : filled g m m = (List.range m).map g := by
  unfold filled
  apply List.map_congr_left
  intro i hi
  rw [if_pos (by simpa using hi)]
theorem filled_set (g : Nat → Nat) (m k : Nat) (h : k < m) : (filled g m k).set k (g k) = filled g m (k + 1) := by
  unfold filled
  apply List.ext_getElem (by simp)
  intro i h1 h2
  simp only [List.getElem_set, List.getElem_map, List.getElem_range]
  by_cases he : k = i
  · subst he; simp
  · rw [if_neg he]
    by_cases hi : i < k
    · rw [if_pos hi, if_pos (by omega)]
    · rw [if_neg hi, if_neg (by omega)]
theorem filled_length (g : Nat → Nat) (m k : Nat) : (filled g m k).length = m := by simp [filled]
theorem filled_at (g : Nat → Nat) (m k i : Nat) (h : i < m) : (filled g m k)[i]? = some (if i < k then g i else 0) := by
  unfold filled
  rw [List.getElem?_map, List.getElem?_range h]
  rfl
end Go.Proofs.YtpjciaomhfeeeaaGreatDoor
end

section
namespace Go.Proofs.YtpjciaomhfeeeaaGreatDoor
open Go.RowKit Go.Sort
set_option linter.unusedSimpArgs false
set_option linter.unusedVariables false

/-- a word as a value -/
def U (x : Nat) : Value := .int .u64 (x : Int)
def smayB (n : Int) : Bool := decide (0 ≤ n ∧ n ≤ 16)
theorem smay_any (n : Int) (w : World) : Calls Tryz.prog 47 #[.int .i64 n] w fun e w' => e = .returned (.bool (smayB n)) ∧ w = w' := by
  by_cases h1 : 0 ≤ n
  · by_cases h2 : n ≤ 16
    · have h : smayB n = true := decide_eq_true ⟨h1, h2⟩
      rw [h]
      clear h
      go_enter Tryz.func47, Tryz.ntmps47
      go_wp2
      go_ret
      exact ⟨rfl, rfl⟩
    · have h : smayB n = false := decide_eq_false (by omega)
      have hd : decide (n ≤ 16) = false := decide_eq_false h2
      rw [h]
      clear h
      go_enter Tryz.func47, Tryz.ntmps47
      go_wp2
      go_ret
      exact ⟨by first | rfl | rw [hd], rfl⟩
  · have h : smayB n = false := decide_eq_false (by omega)
    have hd : decide (0 ≤ n) = false := decide_eq_false h1
    rw [h]
    clear h
    go_enter Tryz.func47, Tryz.ntmps47
    go_wp2
    go_ret
    exact ⟨by first | rfl | rw [hd], rfl⟩
theorem pow_cast (n : Nat) : ((2 : Int) ^ n) = ((2 ^ n : Nat) : Int) := by simp
theorem pow16 {n : Nat} (hn : n ≤ 16) : 2 ^ n ≤ 65536 := Nat.pow_le_pow_right (by omega) (show n ≤ 16 from hn)
set_option maxHeartbeats 400000 in
theorem swords_any (n : Nat) (hn : n ≤ 16) (w : World) : Calls Tryz.prog 48 #[.int .i64 (n : Nat)] w fun e w' => e = .returned (.int .i64 (wordsN n : Nat)) ∧ w = w' := by
  have hN := pow16 hn
  have hp := wrap64_pow n (by omega)
  have hW := Lib.hid (show wordsN n = max 1 (2 ^ n / 64) from rfl)
  generalize 2 ^ n = N at *
  have hd : (N : Int).tdiv 64 = ((N / 64 : Nat) : Int) := by rw [Int.tdiv_eq_ediv_of_nonneg (by omega)]; omega
  have hw : wrap64 ((N / 64 : Nat) : Int) = ((N / 64 : Nat) : Int) := IntWalk.wrap64_in _ ⟨by omega, by omega⟩
  go_enter Tryz.func48, Tryz.ntmps48
  go_wp2
  all_goals
    go_ret
    exact ⟨ret_int (by have := hW.out; omega), rfl⟩
set_option maxHeartbeats 400000 in
theorem sfull_any (n : Nat) (hn : n ≤ 16) (w : World) : Calls Tryz.prog 49 #[.int .i64 (n : Nat)] w fun e w' => e = .returned (U (fullN n)) ∧ w = w' := by
  by_cases h6 : 6 ≤ n
  · have h : fullN n = 18446744073709551615 := by unfold fullN; rw [if_pos h6]
    rw [h]
    clear h
    go_enter Tryz.func49, Tryz.ntmps49
    go_wp2
    go_ret
    exact ⟨rfl, rfl⟩
  · have h6' : n = 0 ∨ n = 1 ∨ n = 2 ∨ n = 3 ∨ n = 4 ∨ n = 5 := by omega
    clear h6 hn
    rcases h6' with rfl | rfl | rfl | rfl | rfl | rfl
    all_goals
      go_enter Tryz.func49, Tryz.ntmps49
      go_wp2
      go_ret
      exact ⟨rfl, rfl⟩
theorem info_u64 : (Tryz.prog.info? 132).map (fun i => (i.zero, i.size, i.bytes)) = some (some (.int .u64 0), 1, 8) := by kernel_rfl
/-- a row behind a store into another block -/
theorem OwnF.set_below' {α : Type} {f : α → Value} {E : TypeId} {w : World} {base g n c : Nat} {xs : List α} (h : OwnF f E w base (.slice (some ⟨g, 0, none⟩) n c) xs) {a : Addr} (ha : a.block ≠ g) (u : Value) : OwnF f E (w.setCell a u) base (.slice (some ⟨g, 0, none⟩) n c) xs :=
  h.chg (F := [a.block]) ((Chg.refl _ _).setCell (.inl (by simp)) _) (fun k hk => by rw [mem_blk] at hk; simp [Value.ownBlock] at hk; subst hk; simpa using fun e => ha e.symm)
/-- a set's value -/
def setV (n : Nat) (b m : Nat) : Value := .agg #[.int .i64 (n : Nat), .slice (some ⟨b, 0, none⟩) m m]
set_option maxRecDepth 100000 in
set_option maxHeartbeats 1000000 in
theorem sblank_any (n : Nat) (hn : n ≤ 16) (w : World) : Calls Tryz.prog 122 #[.int .i64 (n : Nat)] w fun e w' => ∃ b, e = .returned (setV n b (wordsN n)) ∧ w.heap.size ≤ b ∧ OwnF U 132 w' w.heap.size (.slice (some ⟨b, 0, none⟩) (wordsN n) (wordsN n)) (List.replicate (wordsN n) 0) ∧ Below w.heap.size w w' := by
  obtain ⟨i0, hi, hz0, hz1, hz2⟩ := info_parts info_u64
  have hm := wordsN_le hn
  have hm1 := wordsN_pos n
  have hSW := Lib.hid (fun w => swords_any n hn w)
  generalize wordsN n = m at *
  unfold setV
  go_enter Tryz.func122, Tryz.ntmps122
  go_wp2_with fail
  refine (hSW.out _).mono ?_
  rintro e w' ⟨rfl, rfl⟩
  have HBK := Lib.hid (Blk.new w 26 #[.int .i64 0, .slice none 0 0])
  go_wp2_with (at_make; refine wp_make (f := U) (z := 0) Tryz.underlying24 hi hz0 hz1 hz2 rfl _ rfl _ _ rfl (m : Int) m rfl rfl rfl (by omega) (by unfold maxLen; omega) ?_; intro w1 hown1 hb1 hs1; have hK := HBK.out.chg (F := []) (chg_of_below hb1) (by simp); have n0 : w1.cell? ⟨w.heap.size, 0, none⟩ = some (.int .i64 0) := hK.cell 0; have n1 : w1.cell? ⟨w.heap.size, 1, none⟩ = some (.slice none 0 0) := hK.cell 1; have z0 := hK.frozen 0; have z1 := hK.frozen 1; have HO := Lib.hid hown1; have HB := Lib.hid hb1; clear hK hown1 hb1 hs1)
  refine bodyPost_ret (v := .agg #[.int .i64 (n : Nat), .slice (some ⟨w.heap.size + 1, 0, none⟩) m m]) ?_ rfl ⟨w.heap.size + 1, rfl, by omega, ?_, ?_⟩
  · simp [results, Tryz.results122, go_sem, *]
  · have h := HO.out
    rw [World.size_alloc] at h
    exact ((h.mono (by omega)).set_below' (by simp) _).set_below' (by simp) _
  · have h := HB.out
    rw [World.size_alloc] at h
    exact ((((Below.refl _ _).alloc (Nat.le_refl _) _).trans (h.mono (by omega))).setCell (Nat.le_refl _) _).setCell (Nat.le_refl _) _
end Go.Proofs.YtpjciaomhfeeeaaGreatDoor
end

section
namespace Go.Proofs.YtpjciaomhfeeeaaGreatDoor
open Go.RowKit Go.Sort
set_option linter.unusedSimpArgs false
set_option linter.unusedVariables false

/-- a set as an argument -/
structure SetArg (w : World) (m : Int) (A : Option Addr) (len c : Nat) (ws : List Nat) : Prop where
  hlen : ws.length = len
  hcap : len ≤ c
  hmax : c ≤ maxLen
  row : RowF U 0 w w.heap.size A ws
  lt : ∀ v ∈ ws, v < 18446744073709551616
  wf : (Lit.int .i64 m).wf = true
theorem SetArg.on {w w' : World} {m : Int} {A : Option Addr} {len c : Nat} {ws : List Nat} (h : SetArg w m A len c ws) (hb : Below w.heap.size w w') : SetArg w' m A len c ws := ⟨h.hlen, h.hcap, h.hmax, h.row.on hb, h.lt, h.wf⟩
def setA (m : Int) (A : Option Addr) (len c : Nat) : Value := .agg #[.int .i64 m, .slice A len c]
/-- may a set be? -/
def srightB (m : Int) (ws : List Nat) : Bool := smayB m && decide (ws.length = wordsN m.toNat) && decide (wat ws 0 &&& (18446744073709551615 - fullN m.toNat) = 0)
theorem andNot_zero {a f : Nat} (ha : a < 18446744073709551616) (hf : f < 18446744073709551616) : a &&& (18446744073709551615 - f) = 0 ↔ ∀ j, j < 64 → f.testBit j = false → a.testBit j = false := by
  have hc : ∀ j, j < 64 → (18446744073709551615 - f).testBit j = !f.testBit j := fun j hj => by
    have h := Nat.testBit_two_pow_sub_succ (x := f) (n := 64) hf j
    rw [show 2 ^ 64 - (f + 1) = 18446744073709551615 - f by omega] at h
    rw [h, decide_eq_true hj, Bool.true_and]
  constructor
  · intro h j hj hfj
    have := congrArg (fun x => x.testBit j) h
    simp only [Nat.testBit_and, Nat.zero_testBit, hc j hj, hfj, Bool.not_false, Bool.and_true] at this
    exact this
  · intro h
    apply Nat.eq_of_testBit_eq
    intro j
    rw [Nat.testBit_and, Nat.zero_testBit]
    by_cases hj : j < 64
    · rw [hc j hj]
      cases hf2 : f.testBit j
      · rw [h j hj hf2]; rfl
      · simp
    · rw [Nat.testBit_lt_two_pow (Nat.lt_of_lt_of_le ha (show 18446744073709551616 ≤ 2 ^ j from (show 2 ^ 64 ≤ 2 ^ j from Nat.pow_le_pow_right (by omega) (by omega))))]
      rfl
theorem sright_iff {m : Int} {ws : List Nat} (hlt : ∀ v ∈ ws, v < 18446744073709551616) : srightB m ws = true ↔ 0 ≤ m ∧ SOk m.toNat ws := by
  unfold srightB smayB
  rw [Bool.and_eq_true, Bool.and_eq_true, decide_eq_true_eq, decide_eq_true_eq, decide_eq_true_eq]
  have hfb := fun j hj => fullN_bit m.toNat j hj
  have hb0 : ∀ j, j < 64 → bitAt ws j = (wat ws 0).testBit j := fun j hj => by
    unfold bitAt wat
    rw [show j / 64 = 0 by omega, Nat.mod_eq_of_lt hj]
  constructor
  · rintro ⟨⟨⟨h0, h1⟩, h2⟩, h3⟩
    rw [andNot_zero (wat_lt hlt 0) (fullN_lt _)] at h3
    exact ⟨h0, by omega, h2, hlt, fun x hx hx2 => by rw [hb0 x hx2]; exact h3 x hx2 (by rw [hfb x hx2]; exact decide_eq_false (by omega))⟩
  · rintro ⟨h0, hk⟩
    refine ⟨⟨⟨h0, by have := hk.n16; omega⟩, hk.len⟩, ?_⟩
    rw [andNot_zero (wat_lt hlt 0) (fullN_lt _)]
    intro j hj hf
    rw [hfb j hj, decide_eq_false_iff_not] at hf
    rw [← hb0 j hj]
    exact hk.hi j (by omega) hj
set_option maxRecDepth 100000 in
set_option maxHeartbeats 2000000 in
theorem sright_any (m : Int) (A : Option Addr) (len c : Nat) (ws : List Nat) (w : World) (h : SetArg w m A len c ws) : Calls Tryz.prog 40 #[setA m A len c] w fun e w' => e = .returned (.bool (srightB m ws)) ∧ Below w.heap.size w w' := by
  have hm := i64_of_wf h.wf
  have hlc : len ≤ maxLen := Nat.le_trans h.hcap h.hmax
  unfold maxLen at hlc
  unfold setA
  obtain ⟨W, hW⟩ : ∃ W, W = w.alloc (.cells #[.int .i64 m, .slice A len c] 26) := ⟨_, rfl⟩
  have hbW : Below w.heap.size w W := by rw [hW]; exact (Below.refl _ _).alloc (Nat.le_refl _) _
  have HBW : Hid (Blk W w.heap.size 26 #[.int .i64 m, .slice A len c]) := Lib.hid (by rw [hW]; exact Blk.new w _ _)
  have hrow := h.row.on hbW
  have HL := Lib.hid h.hlen
  have HLT := Lib.hid h.lt
  have c1 := regrown_calls (W := W) (fun W' hW' => (smay_any m W').mono fun _ _ ⟨he, hb⟩ => ⟨he, by rw [← hb]; exact hW'⟩)
  have HWW := Lib.hid hW
  have HbW := Lib.hid hbW
  have HROW := Lib.hid hrow
  clear h hbW hrow
  by_cases h1 : smayB m = true
  · rw [h1] at c1
    have h1' : 0 ≤ m ∧ m ≤ 16 := by simpa [smayB] using h1
    obtain ⟨n, rfl⟩ := Int.eq_ofNat_of_zero_le h1'.1
    have hn : n ≤ 16 := by omega
    have hd : srightB n ws = (decide (ws.length = wordsN n) && decide (wat ws 0 &&& (18446744073709551615 - fullN n) = 0)) := by unfold srightB; rw [h1, Bool.true_and]; simp only [Int.toNat_natCast]
    rw [hd]
    have hwN := wordsN_le hn
    have hwP := wordsN_pos n
    have c2 := regrown_calls (W := W) (fun W' hW' => (swords_any n hn W').mono fun _ _ ⟨he, hb⟩ => ⟨he, by rw [← hb]; exact hW'⟩)
    have c3 := regrown_calls (W := W) (fun W' hW' => (sfull_any n hn W').mono fun _ _ ⟨he, hb⟩ => ⟨he, by rw [← hb]; exact hW'⟩)
    have hfl := fullN_lt n
    have hwl := wat_lt HLT.out 0
    generalize fullN n = f at *
    generalize wordsN n = k at *
    unfold U at c3
    clear h1 h1' hd
    by_cases h2 : len = k
    · subst h2
      rw [HL.out, decide_eq_true rfl, Bool.true_and]
      obtain ⟨b, off, rfl, hb, hcell⟩ := HROW.out (by rw [HL.out]; omega)
      have h0 : W.cell? ⟨b, off, none⟩ = some (.int .u64 (wat ws 0 : Nat)) := hcell 0 (by rw [HL.out]; omega)
      have HAN := u64_andNot_nat (wat ws 0) f hwl hfl
      generalize wat ws 0 = v at *
      have hz : (((v &&& (18446744073709551615 - f) : Nat) : Int) == 0) = decide (v &&& (18446744073709551615 - f) = 0) := by
        rw [Bool.eq_iff_iff, beq_iff_eq, decide_eq_true_eq]; omega
      generalize v &&& (18446744073709551615 - f) = x at *
      generalize hq : decide (x = 0) = q at *
      have C := Lib.hid (And.intro c1 (And.intro c2 c3))
      have H0 := Lib.hid h0
      clear c1 c2 c3 hcell h0 hq
      go_enter Tryz.func40, Tryz.ntmps40
      go_wp2_with fail
      rw [← HWW.out]
      clear hW
      obtain ⟨c1, c2, c3⟩ := C.out
      have j0 : ∀ d os, (grow (redrawn W d) os).cell? ⟨w.heap.size, 0, none⟩ = some (.int .i64 (n : Nat)) := fun d os => cell_regrown (HBW.out.cell 0) d os
      have j1 : ∀ d os, (grow (redrawn W d) os).cell? ⟨w.heap.size, 1, none⟩ = some (.slice (some ⟨b, off, none⟩) len c) := fun d os => cell_regrown (HBW.out.cell 1) d os
      have j2 : ∀ d os, (grow (redrawn W d) os).cell? ⟨b, off, none⟩ = some (.int .u64 (v : Nat)) := fun d os => cell_regrown H0.out d os
      refine wp_region_quiet_below (by kernel_rfl) (by kernel_rfl) ?_
      repeat (first | go_big_quiet_step (first | with_reducible exact c1 _ _ | with_reducible exact c2 _ _ | with_reducible exact c3 _ _ | fail) | quiet_step (first | with_reducible exact c1 _ _ | with_reducible exact c2 _ _ | with_reducible exact c3 _ _ | fail))
      refine wpQuiet_nil ?_
      intro w2 hw'
      have hbel2 : Below W.heap.size W w2 := regrown_below hw'
      clear hw' j0 j1 j2 c1 c2 c3
      go_wp2_with fail
      go_ret
      exact ⟨rfl, HbW.out.trans (hbel2.mono HbW.out.size)⟩
    · have hd : decide (ws.length = k) = false := decide_eq_false (by rw [HL.out]; exact h2)
      have hne : ((len : Int) == (k : Int)) = false := by rw [beq_eq_false_iff_ne]; omega
      rw [hd, Bool.false_and]
      have C := Lib.hid (And.intro c1 c2)
      clear c1 c2 c3 h2 hd
      go_enter Tryz.func40, Tryz.ntmps40
      go_wp2_with fail
      rw [← HWW.out]
      clear hW
      obtain ⟨c1, c2⟩ := C.out
      have j0 : ∀ d os, (grow (redrawn W d) os).cell? ⟨w.heap.size, 0, none⟩ = some (.int .i64 (n : Nat)) := fun d os => cell_regrown (HBW.out.cell 0) d os
      have j1 : ∀ d os, (grow (redrawn W d) os).cell? ⟨w.heap.size, 1, none⟩ = some (.slice A len c) := fun d os => cell_regrown (HBW.out.cell 1) d os
      refine wp_region_quiet_below (by kernel_rfl) (by kernel_rfl) ?_
      repeat (first | go_big_quiet_step (first | with_reducible exact c1 _ _ | with_reducible exact c2 _ _ | fail) | quiet_step (first | with_reducible exact c1 _ _ | with_reducible exact c2 _ _ | fail))
      refine wpQuiet_nil ?_
      intro w2 hw'
      have hbel2 : Below W.heap.size W w2 := regrown_below hw'
      clear hw' j0 j1 c1 c2
      go_wp2_with fail
      go_ret
      exact ⟨rfl, HbW.out.trans (hbel2.mono HbW.out.size)⟩
  · have h1' : smayB m = false := by simpa using h1
    rw [h1'] at c1
    have hd : srightB m ws = false := by unfold srightB; rw [h1', Bool.false_and, Bool.false_and]
    rw [hd]
    have C := Lib.hid c1
    clear c1 h1 h1' hd
    go_enter Tryz.func40, Tryz.ntmps40
    go_wp2_with fail
    rw [← HWW.out]
    clear hW
    have c1 := C.out
    have j0 : ∀ d os, (grow (redrawn W d) os).cell? ⟨w.heap.size, 0, none⟩ = some (.int .i64 m) := fun d os => cell_regrown (HBW.out.cell 0) d os
    refine wp_region_quiet_below (by kernel_rfl) (by kernel_rfl) ?_
    repeat (first | go_big_quiet_step (first | with_reducible exact c1 _ _ | fail) | quiet_step (first | with_reducible exact c1 _ _ | fail))
    refine wpQuiet_nil ?_
    intro w2 hw'
    have hbel2 : Below W.heap.size W w2 := regrown_below hw'
    clear hw' j0 c1
    go_wp2_with fail
    go_ret
    exact ⟨rfl, HbW.out.trans (hbel2.mono HbW.out.size)⟩
end Go.Proofs.YtpjciaomhfeeeaaGreatDoor
end

section
namespace Go.Proofs.YtpjciaomhfeeeaaGreatDoor
open Go.RowKit Go.Sort
set_option linter.unusedSimpArgs false
set_option linter.unusedVariables false

/-- a set as a result: its words in new memory -/
def SetRes (w : World) (n : Nat) (ws : List Nat) (e : Ending) (w' : World) : Prop :=
  ∃ b, e = .returned (setV n b (wordsN n)) ∧ w.heap.size ≤ b ∧ OwnF U 132 w' w.heap.size (.slice (some ⟨b, 0, none⟩) (wordsN n) (wordsN n)) ws ∧ ws.length = wordsN n ∧ Below w.heap.size w w'
theorem not_u64 (v : Nat) (hv : v < 18446744073709551616) : bits .xor .u64 (if IntKind.u64.signed = true then -1 else IntKind.u64.max) (v : Int) = ((18446744073709551615 - v : Nat) : Int) := by
  rw [show (if IntKind.u64.signed = true then (-1 : Int) else IntKind.u64.max) = ((18446744073709551615 : Nat) : Int) from by decide, u64_xor_nat _ _ (by omega) hv]
  congr 1
  apply Nat.eq_of_testBit_eq
  intro j
  have h := Nat.testBit_two_pow_sub_succ (x := v) (n := 64) hv j
  rw [show 2 ^ 64 - (v + 1) = 18446744073709551615 - v by omega] at h
  rw [h, Nat.testBit_xor, show (18446744073709551615 : Nat) = 2 ^ 64 - 1 from rfl, Nat.testBit_two_pow_sub_one]
  by_cases hj : j < 64
  · rw [decide_eq_true hj]; simp
  · rw [decide_eq_false hj, Nat.testBit_lt_two_pow (Nat.lt_of_lt_of_le hv (show 18446744073709551616 ≤ 2 ^ j from (show 2 ^ 64 ≤ 2 ^ j from Nat.pow_le_pow_right (by omega) (by omega))))]; rfl
theorem Blk.store {w : World} {g : Nat} {t : TypeId} {cs : Array Value} (h : Blk w g t cs) {b : Nat} (hb : g ≠ b) (k : Nat) (u : Value) : Blk (w.setCell ⟨b, k, none⟩ u) g t cs := h.far (p := ⟨b, k, none⟩) hb u
set_option maxRecDepth 100000 in
set_option maxHeartbeats 4000000 in
theorem snot_any (n : Nat) (hn : n ≤ 16) (A : Option Addr) (c : Nat) (ws : List Nat) (w : World) (h : SetArg w n A (wordsN n) c ws) :
    Calls Tryz.prog 180 #[setA n A (wordsN n) c] w (SetRes w n ((List.range (wordsN n)).map fun k => (18446744073709551615 - wat ws k) &&& fullN n)) := by
  have hm := wordsN_le hn
  have hm1 := wordsN_pos n
  have hc1 := h.hcap
  have hc2 := h.hmax
  unfold maxLen at hc2
  obtain ⟨b0, off, rfl, hb0, hcell⟩ := h.row (by rw [h.hlen]; omega)
  have HBL := Lib.hid (fun W => sblank_any n hn W)
  have HFU := Lib.hid (fun W => sfull_any n hn W)
  have HLEN := Lib.hid h.hlen
  have HLT := Lib.hid h.lt
  have HCELL : Hid (∀ j, j < ws.length → w.cell? ⟨b0, off + j, none⟩ = some (U (wat ws j))) := Lib.hid hcell
  have HFL := Lib.hid (fullN_lt n)
  unfold SetRes setV setA at *
  generalize fullN n = f at *
  generalize wordsN n = m at *
  obtain ⟨W, hW⟩ : ∃ W, W = (w.alloc (.cells #[.int .i64 (n : Nat), .slice (some ⟨b0, off, none⟩) m c] 26)).alloc (.cells #[.int .i64 0, .slice none 0 0] 26) := ⟨_, rfl⟩
  have hbW : Below w.heap.size w W := by rw [hW]; exact ((Below.refl _ _).alloc (Nat.le_refl _) _).alloc (by simp) _
  have HB0 : Hid (Blk W w.heap.size 26 #[.int .i64 (n : Nat), .slice (some ⟨b0, off, none⟩) m c]) := Lib.hid (by rw [hW]; exact (Blk.new w _ _).alloc _)
  have HB1 : Hid (Blk W (w.heap.size + 1) 26 #[.int .i64 0, .slice none 0 0]) := Lib.hid (by
    rw [hW]
    have := Blk.new (w.alloc (.cells #[.int .i64 (n : Nat), .slice (some ⟨b0, off, none⟩) m c] 26)) 26 #[.int .i64 0, .slice none 0 0]
    rwa [World.size_alloc] at this)
  have hWs : W.heap.size = w.heap.size + 2 := by rw [hW]; simp
  have HWW := Lib.hid hW
  have HbW := Lib.hid hbW
  have HWS := Lib.hid hWs
  clear h hbW hcell hWs
  go_enter Tryz.func180, Tryz.ntmps180
  go_wp2_with fail
  rw [← HWW.out]
  clear hW
  have k0 : W.cell? ⟨w.heap.size, 0, none⟩ = some (.int .i64 (n : Nat)) := HB0.out.cell 0
  go_wp2_with fail
  refine (HBL.out _).mono ?_
  rintro e w1 ⟨b, rfl, hb, hown, hb1⟩
  clear k0
  obtain ⟨V, hV⟩ : ∃ V, V = w1.alloc (.cells #[.int .i64 (n : Nat), .slice (some ⟨b, 0, none⟩) m m] 26) := ⟨_, rfl⟩
  have hbV : Below W.heap.size W V := by rw [hV]; exact hb1.alloc hb1.size _
  have hA := HB0.out.chg (F := []) (chg_of_below hbV) (by simp)
  have hR := HB1.out.chg (F := []) (chg_of_below hbV) (by simp)
  have hO : Blk V w1.heap.size 26 #[.int .i64 (n : Nat), .slice (some ⟨b, 0, none⟩) m m] := by rw [hV]; exact Blk.new w1 _ _
  have hown' : OwnF U 132 V w.heap.size (.slice (some ⟨b, 0, none⟩) m m) (filled (fun k => (18446744073709551615 - wat ws k) &&& f) m 0) := by
    rw [filled_zero, hV]
    exact (hown.mono (by have := HWS.out; omega)).alloc _
  have hblt : b < w1.heap.size := (hown.lt b rfl).2
  have hbV' : Below w.heap.size w V := HbW.out.trans (hbV.mono HbW.out.size)
  have HVV := Lib.hid hV
  have HNE : Hid (w.heap.size + 2 ≤ b ∧ b < w1.heap.size) := Lib.hid ⟨by have := HWS.out; omega, hblt⟩
  have ka : w1.cell? ⟨w.heap.size, 1, none⟩ = some (.slice (some ⟨b0, off, none⟩) m c) := (HB0.out.chg (F := []) (chg_of_below hb1) (by simp)).cell 1
  have hl1 : w.heap.size < w1.heap.size := by have := HWS.out; omega
  have S := Lib.hid (And.intro hA (And.intro hR (And.intro hO (And.intro hown' hbV'))))
  clear hbV hA hR hO hown hown' hblt hbV' hb1 hb
  clear hV
  go_wp2_with fail
  rw [← HVV.out]
  clear ka hl1
  go_loopw [12] (fun i wr => ∃ k : Nat, k ≤ m ∧ i = .int .i64 k ∧ Blk wr w.heap.size 26 #[.int .i64 (n : Nat), .slice (some ⟨b0, off, none⟩) m c] ∧ Blk wr (w.heap.size + 1) 26 #[.int .i64 0, .slice none 0 0] ∧ Blk wr w1.heap.size 26 #[.int .i64 (n : Nat), .slice (some ⟨b, 0, none⟩) m m] ∧
    OwnF U 132 wr w.heap.size (.slice (some ⟨b, 0, none⟩) m m) (filled (fun k => (18446744073709551615 - wat ws k) &&& f) m k) ∧ Below w.heap.size w wr) (fun i _ => m - (intOf i).toNat)
  case atStart => exact ⟨0, Nat.zero_le _, rfl, S.out.1, S.out.2.1, S.out.2.2.1, S.out.2.2.2.1, S.out.2.2.2.2⟩
  case round =>
    obtain ⟨k, hk, rfl, hA, hR, hO, hown, hbw⟩ := hrel
    have R := Lib.hid (And.intro hA (And.intro hR (And.intro hO (And.intro hown hbw))))
    by_cases hlt : k < m
    · have hv : wr.cell? ⟨b0, off + k, none⟩ = some (.int .u64 (wat ws k : Nat)) := (hbw.cell (p := ⟨b0, off + k, none⟩) hb0).trans (HCELL.out k (by rw [HLEN.out]; exact hlt))
      have kO : wr.cell? ⟨w1.heap.size, 1, none⟩ = some (.slice (some ⟨b, 0, none⟩) m m) := hO.cell 1
      have kA : wr.cell? ⟨w.heap.size, 0, none⟩ = some (.int .i64 (n : Nat)) := hA.cell 0
      have hat := hown.at_ k (by rw [filled_length]; exact hlt)
      rw [filled_at _ _ _ _ hlt] at hat
      have kc : wr.cell? ⟨b, k, none⟩ = some (U (if k < k then (18446744073709551615 - wat ws k) &&& f else 0)) := hat.1
      have kz : wr.frozen? ⟨b, k, none⟩ = false := hat.2
      have hwl := wat_lt HLT.out k
      clear hA hR hO hown hbw hat
      go_wp2_with fail
      go_still_tail 10, (by kernel_rfl)
      still_call ((HFU.out _).mono fun _ _ ⟨a, b⟩ => ⟨a, b.symm⟩)
      unfold U
      repeat still_step
      refine wpStill_nil ?_
      go_wp2_with fail
      rw [not_u64 _ hwl, u64_and_nat _ _ (by omega) HFL.out]
      go_roundw
      case rel =>
        obtain ⟨hA, hR, hO, hown, hbw⟩ := R.out
        have hst := hown.set_ k ((18446744073709551615 - wat ws k) &&& f)
        rw [filled_set _ _ _ hlt] at hst
        exact ⟨k + 1, by omega, by go_num, hA.store (by have := HNE.out; omega) k _, hR.store (by have := HNE.out; omega) k _, hO.store (by have := HNE.out; omega) k _, hst, (hbw.setCell (p := ⟨b, k, none⟩) (by have := HNE.out; simp only; omega) _).drew⟩
      case measure => simp [intOf]; omega
    · obtain rfl : k = m := by omega
      have kO0 : wr.cell? ⟨w1.heap.size, 0, none⟩ = some (.int .i64 (n : Nat)) := hO.cell 0
      have kO1 : wr.cell? ⟨w1.heap.size, 1, none⟩ = some (.slice (some ⟨b, 0, none⟩) k k) := hO.cell 1
      have kR0 : wr.cell? ⟨w.heap.size + 1, 0, none⟩ = some (.int .i64 0) := hR.cell 0
      have kR1 : wr.cell? ⟨w.heap.size + 1, 1, none⟩ = some (.slice none 0 0) := hR.cell 1
      have z0 := hR.frozen 0
      have z1 := hR.frozen 1
      clear hA hR hO hown hbw
      go_wp2_with fail
      refine bodyPost_ret (v := .agg #[.int .i64 (n : Nat), .slice (some ⟨b, 0, none⟩) k k]) ?_ rfl ⟨b, rfl, by have := HNE.out; omega, ?_, by simp, ?_⟩
      · simp [results, Tryz.results180, go_sem, *]
      · obtain ⟨hA, hR, hO, hown, hbw⟩ := R.out
        rw [filled_all] at hown
        exact (hown.set_below' (by have := HNE.out; simp only; omega) _).set_below' (by have := HNE.out; simp only; omega) _
      · obtain ⟨hA, hR, hO, hown, hbw⟩ := R.out
        exact (hbw.setCell (by simp only; omega) _).setCell (by simp only; omega) _
end Go.Proofs.YtpjciaomhfeeeaaGreatDoor
end

section
namespace Go.Proofs.YtpjciaomhfeeeaaGreatDoor
open Go.RowKit Go.Sort
set_option linter.unusedSimpArgs false
set_option linter.unusedVariables false

/-- a set and no error -/
def SetRes2 (w : World) (n : Nat) (ws : List Nat) (e : Ending) (w' : World) : Prop :=
  ∃ b, e = .returned (.tuple #[setV n b (wordsN n), .int .u8 0]) ∧ w.heap.size ≤ b ∧ OwnF U 132 w' w.heap.size (.slice (some ⟨b, 0, none⟩) (wordsN n) (wordsN n)) ws ∧ ws.length = wordsN n ∧ Below w.heap.size w w'
/-- no set, an error -/
def SetErr (w : World) (code : Int) (e : Ending) (w' : World) : Prop := e = .returned (.tuple #[.agg #[.int .i64 0, .slice none 0 0], .int .u8 code]) ∧ Below w.heap.size w w'
theorem own_arg {w : World} {base n b m : Nat} {ws : List Nat} (h : OwnF U 132 w base (.slice (some ⟨b, 0, none⟩) m m) ws) (hl : ws.length = m) (hlt : ∀ v ∈ ws, v < 18446744073709551616) (hn : n ≤ 16) (hm : m ≤ 1024) : SetArg w n (some ⟨b, 0, none⟩) m m ws :=
  ⟨hl, Nat.le_refl _, by unfold maxLen; omega, h.rows, hlt, WalkArith.wf_i64 (by omega)⟩
set_option maxRecDepth 100000 in
set_option maxHeartbeats 2000000 in
theorem snothing_any (n : Nat) (hn : n ≤ 16) (w : World) : Calls Tryz.prog 176 #[.int .i64 (n : Nat)] w (SetRes2 w n (List.replicate (wordsN n) 0)) := by
  have hm := wordsN_le hn
  have HBL := Lib.hid (fun W => sblank_any n hn W)
  have hma := fun W => smay_any (n : Int) W
  rw [show smayB (n : Int) = true from decide_eq_true (by omega)] at hma
  have HMA := Lib.hid hma
  unfold SetRes2 setV at *
  generalize wordsN n = m at *
  clear hma
  have HBK := Lib.hid (Blk.new w 26 #[.int .i64 0, .slice none 0 0])
  have HB0 := Lib.hid ((Below.refl w.heap.size w).alloc (Nat.le_refl _) (.cells #[.int .i64 0, .slice none 0 0] 26))
  go_enter Tryz.func176, Tryz.ntmps176
  go_wp2_with fail
  refine (HMA.out _).mono ?_
  rintro e w' ⟨rfl, rfl⟩
  go_wp2_with fail
  refine (HBL.out _).mono ?_
  rintro e w1 ⟨b, rfl, hb, hown, hb1⟩
  have hK := HBK.out.onB hb1
  have n0 : w1.cell? ⟨w.heap.size, 0, none⟩ = some (.int .i64 0) := hK.cell 0
  have n1 : w1.cell? ⟨w.heap.size, 1, none⟩ = some (.slice none 0 0) := hK.cell 1
  have z0 := hK.frozen 0
  have z1 := hK.frozen 1
  rw [World.size_alloc] at hb
  have HO := Lib.hid hown
  have HB1 := Lib.hid (HB0.out.trans (hb1.mono HB0.out.size))
  have HB := Lib.hid hb
  clear hK hown hb1 hb
  go_wp2_with fail
  refine bodyPost_ret (v := .tuple #[.agg #[.int .i64 (n : Nat), .slice (some ⟨b, 0, none⟩) m m], .int .u8 0]) ?_ rfl ⟨b, rfl, by have := HB.out; omega, ?_, by simp, ?_⟩
  · simp [results, Tryz.results176, go_sem, *]
  · have hb := HB.out
    exact ((HO.out.mono (by rw [World.size_alloc]; omega)).set_below' (by simp only; omega) _).set_below' (by simp only; omega) _
  · exact (HB1.out.setCell (Nat.le_refl _) _).setCell (Nat.le_refl _) _
set_option maxRecDepth 100000 in
set_option maxHeartbeats 2000000 in
theorem snothing_no (n : Int) (hn : ¬ (0 ≤ n ∧ n ≤ 16)) (w : World) : Calls Tryz.prog 176 #[.int .i64 n] w (SetErr w 3) := by
  have hma := fun W => smay_any n W
  rw [show smayB n = false from decide_eq_false hn] at hma
  have HMA := Lib.hid hma
  unfold SetErr
  clear hma hn
  go_enter Tryz.func176, Tryz.ntmps176
  go_wp2_with fail
  refine (HMA.out _).mono ?_
  rintro e w' ⟨rfl, rfl⟩
  go_wp2_with fail
  refine bodyPost_ret (v := .tuple #[.agg #[.int .i64 0, .slice none 0 0], .int .u8 3]) ?_ rfl ⟨rfl, ?_⟩
  · simp [results, Tryz.results176, go_sem, *]
  · first | exact (Below.refl _ _).alloc (Nat.le_refl _) _ | exact (((Below.refl _ _).alloc (Nat.le_refl _) _).setCell (Nat.le_refl _) _).setCell (Nat.le_refl _) _
/-- the words of the set with all -/
theorem all_words (n : Nat) : ((List.range (wordsN n)).map fun k => (18446744073709551615 - wat (List.replicate (wordsN n) 0) k) &&& fullN n) = List.replicate (wordsN n) (fullN n) := by
  apply List.ext_getElem (by simp)
  intro i h1 h2
  have h3 : i < wordsN n := by simpa using h2
  simp only [List.getElem_map, List.getElem_range, List.getElem_replicate]
  have : wat (List.replicate (wordsN n) 0) i = 0 := by unfold wat; rw [List.getElem?_replicate, if_pos h3]; rfl
  rw [this, Nat.sub_zero, Nat.and_comm]
  have hf := fullN_lt n
  rw [show (18446744073709551615 : Nat) = 2 ^ 64 - 1 from rfl, Nat.and_two_pow_sub_one_eq_mod]
  exact Nat.mod_eq_of_lt hf
set_option maxRecDepth 100000 in
set_option maxHeartbeats 2000000 in
theorem sall_any (n : Nat) (hn : n ≤ 16) (w : World) : Calls Tryz.prog 177 #[.int .i64 (n : Nat)] w (SetRes2 w n (List.replicate (wordsN n) (fullN n))) := by
  have hm := wordsN_le hn
  have HBL := Lib.hid (fun W => sblank_any n hn W)
  have hma := fun W => smay_any (n : Int) W
  rw [show smayB (n : Int) = true from decide_eq_true (by omega)] at hma
  have hno := fun b W (h : OwnF U 132 W w.heap.size (.slice (some ⟨b, 0, none⟩) (wordsN n) (wordsN n)) (List.replicate (wordsN n) 0)) => snot_any n hn (some ⟨b, 0, none⟩) (wordsN n) (List.replicate (wordsN n) 0) W (own_arg h (by simp) (by simp +contextual) hn hm)
  rw [all_words] at hno
  have HMA := Lib.hid hma
  have HNO := Lib.hid hno
  unfold SetRes2 SetRes setV setA at *
  generalize wordsN n = m at *
  generalize fullN n = f at *
  clear hma hno
  have HBK := Lib.hid (Blk.new w 26 #[.int .i64 0, .slice none 0 0])
  have HB0 := Lib.hid ((Below.refl w.heap.size w).alloc (Nat.le_refl _) (.cells #[.int .i64 0, .slice none 0 0] 26))
  go_enter Tryz.func177, Tryz.ntmps177
  go_wp2_with fail
  refine (HMA.out _).mono ?_
  rintro e w' ⟨rfl, rfl⟩
  go_wp2_with fail
  refine (HBL.out _).mono ?_
  rintro e w1 ⟨b, rfl, hb, hown, hb1⟩
  have HO := Lib.hid hown
  have HB1 := Lib.hid hb1
  clear hown hb1 hb
  go_wp2_with fail
  refine (HNO.out b _ (HO.out.mono HB0.out.size)).mono ?_
  rintro e w2 ⟨b2, rfl, hb2, hown2, hl2, hbb2⟩
  have hbb := HB1.out.trans (hbb2.mono HB1.out.size)
  have hK := HBK.out.onB hbb
  have n0 : w2.cell? ⟨w.heap.size, 0, none⟩ = some (.int .i64 0) := hK.cell 0
  have n1 : w2.cell? ⟨w.heap.size, 1, none⟩ = some (.slice none 0 0) := hK.cell 1
  have z0 := hK.frozen 0
  have z1 := hK.frozen 1
  have hs := HB1.out.size
  rw [World.size_alloc] at hs
  have HO2 := Lib.hid hown2
  have HB2 := Lib.hid (HB0.out.trans (hbb.mono HB0.out.size))
  have HB := Lib.hid (show w.heap.size + 1 ≤ b2 by omega)
  clear hK hown2 hbb2 hbb hb2 hs hl2
  go_wp2_with fail
  refine bodyPost_ret (v := .tuple #[.agg #[.int .i64 (n : Nat), .slice (some ⟨b2, 0, none⟩) m m], .int .u8 0]) ?_ rfl ⟨b2, rfl, by have := HB.out; omega, ?_, by simp, ?_⟩
  · simp [results, Tryz.results177, go_sem, *]
  · have hb := HB.out
    have hs := HB1.out.size
    rw [World.size_alloc] at hs
    exact ((HO2.out.mono (by omega)).set_below' (by simp only; omega) _).set_below' (by simp only; omega) _
  · exact (HB2.out.setCell (Nat.le_refl _) _).setCell (Nat.le_refl _) _
set_option maxRecDepth 100000 in
set_option maxHeartbeats 2000000 in
theorem sall_no (n : Int) (hn : ¬ (0 ≤ n ∧ n ≤ 16)) (w : World) : Calls Tryz.prog 177 #[.int .i64 n] w (SetErr w 3) := by
  have hma := fun W => smay_any n W
  rw [show smayB n = false from decide_eq_false hn] at hma
  have HMA := Lib.hid hma
  unfold SetErr
  clear hma hn
  go_enter Tryz.func177, Tryz.ntmps177
  go_wp2_with fail
  refine (HMA.out _).mono ?_
  rintro e w' ⟨rfl, rfl⟩
  go_wp2_with fail
  refine bodyPost_ret (v := .tuple #[.agg #[.int .i64 0, .slice none 0 0], .int .u8 3]) ?_ rfl ⟨rfl, ?_⟩
  · simp [results, Tryz.results177, go_sem, *]
  · first | exact (Below.refl _ _).alloc (Nat.le_refl _) _ | exact (((Below.refl _ _).alloc (Nat.le_refl _) _).setCell (Nat.le_refl _) _).setCell (Nat.le_refl _) _
end Go.Proofs.YtpjciaomhfeeeaaGreatDoor
end

section
namespace Go.Proofs.YtpjciaomhfeeeaaGreatDoor
open Go.RowKit Go.Sort
set_option linter.unusedSimpArgs false
set_option linter.unusedVariables false

/-- a list of ints as an argument -/
structure IntsArg (w : World) (A : Option Addr) (len c : Nat) (l : List Int) : Prop where
  hlen : l.length = len
  hcap : len ≤ c
  hmax : c ≤ maxLen
  row : RowF (Value.int .i64) 0 w w.heap.size A l
  wf : ∀ x ∈ l, (Lit.int .i64 x).wf = true
theorem IntsArg.on {w w' : World} {A : Option Addr} {len c : Nat} {l : List Int} (h : IntsArg w A len c l) (hb : Below w.heap.size w w') : IntsArg w' A len c l := ⟨h.hlen, h.hcap, h.hmax, h.row.on hb, h.wf⟩
/-- one assignment more -/
def putBit (ws : List Nat) (x : Nat) : List Nat := ws.set (x / 64) (wat ws (x / 64) ||| 2 ^ (x % 64))
def ofL (m : Nat) (l : List Nat) : List Nat := l.foldl putBit (List.replicate m 0)
theorem putBit_length (ws : List Nat) (x : Nat) : (putBit ws x).length = ws.length := by simp [putBit]
theorem ofL_length (m : Nat) (l : List Nat) : (ofL m l).length = m := by
  unfold ofL
  suffices h : ∀ (l ws : List Nat), (l.foldl putBit ws).length = ws.length by rw [h]; simp
  intro l
  induction l with
  | nil => intro ws; rfl
  | cons x r ih => intro ws; rw [List.foldl_cons, ih, putBit_length]
theorem putBit_bit {ws : List Nat} {x : Nat} (hx : x / 64 < ws.length) (y : Nat) : bitAt (putBit ws x) y = (bitAt ws y || decide (y = x)) := by
  unfold bitAt putBit
  by_cases h : y / 64 = x / 64
  · rw [h, List.getElem?_set_self hx, Option.getD_some, Nat.testBit_or, Nat.testBit_two_pow]
    unfold wat
    congr 1
    rw [decide_eq_decide]
    omega
  · rw [List.getElem?_set_ne (fun e => h e.symm), decide_eq_false (p := y = x) (fun e => h (by rw [e])), Bool.or_false]
theorem ofL_snoc (m : Nat) (l : List Nat) (x : Nat) : ofL m (l ++ [x]) = putBit (ofL m l) x := by unfold ofL; rw [List.foldl_append]; rfl
theorem foldPut_bit {m : Nat} : ∀ (l ws : List Nat), ws.length = m → (∀ x ∈ l, x / 64 < m) → ∀ y, bitAt (l.foldl putBit ws) y = (bitAt ws y || decide (y ∈ l))
  | [], ws, _, _, y => by simp
  | x :: r, ws, hw, h, y => by
    rw [List.foldl_cons, foldPut_bit r _ (by rw [putBit_length]; exact hw) (fun z hz => h z (List.mem_cons_of_mem _ hz)), putBit_bit (by rw [hw]; exact h x (List.mem_cons_self ..)), Bool.or_assoc]
    congr 1
    rw [Bool.eq_iff_iff]
    simp
theorem ofL_bit (m : Nat) (l : List Nat) (h : ∀ x ∈ l, x / 64 < m) (y : Nat) : bitAt (ofL m l) y = decide (y ∈ l) := by
  unfold ofL
  rw [foldPut_bit l _ (by simp) h]
  unfold bitAt
  rw [List.getElem?_replicate]
  split <;> simp
theorem foldPut_lt : ∀ (l ws : List Nat), (∀ v ∈ ws, v < 18446744073709551616) → ∀ v ∈ l.foldl putBit ws, v < 18446744073709551616
  | [], ws, h, v, hv => h v hv
  | x :: r, ws, h, v, hv => foldPut_lt r (putBit ws x) (fun u hu => by
    unfold putBit at hu
    rcases List.mem_or_eq_of_mem_set hu with h1 | rfl
    · exact h u h1
    · have h1 : wat ws (x / 64) < 2 ^ 64 := wat_lt h _
      exact Nat.or_lt_two_pow h1 (Nat.pow_lt_pow_right (by omega) (Nat.mod_lt _ (by omega)))) v hv
theorem ofL_lt (m : Nat) (l : List Nat) : ∀ v ∈ ofL m l, v < 18446744073709551616 := foldPut_lt l _ (by simp +contextual)
theorem ofL_ok {n : Nat} (hn : n ≤ 16) {l : List Nat} (hl : ∀ x ∈ l, x < 2 ^ n) : SOk n (ofL (wordsN n) l) :=
  ⟨hn, ofL_length _ _, ofL_lt _ _, fun x hx hx2 => by
    rw [ofL_bit _ _ (fun y hy => idx_lt (hl y hy)), decide_eq_false]
    intro hm
    have := hl x hm
    omega⟩
/-- may all be in? -/
def allIn (n : Nat) (l : List Int) : Prop := ∀ x ∈ l, 0 ≤ x ∧ x < (2 ^ n : Nat)
theorem u64_pow (r : Nat) (hr : r < 64) : IntKind.u64.wrap ((2 : Int) ^ r) = ((2 ^ r : Nat) : Int) := by
  have hp64 : (2 : Nat) ^ r < 2 ^ 64 := Nat.pow_lt_pow_right (by decide) hr
  have h2 : ((2 : Int) ^ r) = ((2 ^ r : Nat) : Int) := by simp
  rw [h2, IntKind.wrap_u64]
  clear h2
  generalize (2 : Nat) ^ r = p at *
  omega
def OfPost (n : Nat) (l : List Int) (w : World) (e : Ending) (w' : World) : Prop := (allIn n l ∧ SetRes2 w n (ofL (wordsN n) (l.map Int.toNat)) e w') ∨ (¬ allIn n l ∧ SetErr w 1 e w')
end Go.Proofs.YtpjciaomhfeeeaaGreatDoor
end
