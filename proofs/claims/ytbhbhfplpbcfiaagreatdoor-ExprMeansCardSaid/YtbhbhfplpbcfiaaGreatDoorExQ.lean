/- Contract: an expression's Set. Its table for more variables. -/
import Derived.Test.YtbhbhfplpbcfiaaGreatDoorExW
import Derived.Test.YtbhbhfplpbcfiaaGreatDoorExX
namespace Go.Proofs.YtbhbhfplpbcfiaaGreatDoor
open Go.RowKit Go.Sort
set_option linter.unusedSimpArgs false
set_option linter.unusedVariables false

theorem putV_modN {a k m : Nat} (b : Bool) (hk : k < m) : putV a k b.toNat % 2 ^ m = putV (a % 2 ^ m) k b.toNat := by
  apply Nat.eq_of_testBit_eq
  intro j
  rw [Nat.testBit_mod_two_pow, putV_bit, putV_bit, Nat.testBit_mod_two_pow]
  by_cases h : j = k
  · subst h; simp [hk]
  · rw [if_neg h, if_neg h]
theorem lt_of_bit {x m k : Nat} (h : x < 2 ^ m) (hk : x.testBit k = true) : k < m := by
  rcases Nat.lt_or_ge k m with h1 | h1
  · exact h1
  · rw [Nat.testBit_lt_two_pow (Nat.lt_of_lt_of_le h (Nat.pow_le_pow_right (by omega) h1))] at hk
    cases hk
theorem quant_more (o mask : Nat) (m n : Nat) (hmn : m ≤ n) (hmask : mask < 2 ^ m) (T T' : List Bool) (hT : T.length = 2 ^ n) (hT' : T'.length = 2 ^ m) (h : ∀ a, a < 2 ^ n → tat T a = tat T' (a % 2 ^ m)) :
    ∀ k, k ≤ n → ∀ a, a < 2 ^ n → tat (quantT o mask T k) a = tat (quantT o mask T' (min k m)) (a % 2 ^ m)
  | 0, _, a, ha => by simpa [quantT] using h a ha
  | k + 1, hk, a, ha => by
    have hm2 : a % 2 ^ m < 2 ^ m := Nat.mod_lt _ (Nat.two_pow_pos m)
    have ih := quant_more o mask m n hmn hmask T T' hT hT' h k (by omega)
    rw [quantT]
    by_cases hb : mask.testBit k = true
    · have hkm := lt_of_bit hmask hb
      rw [if_pos hb, show min (k + 1) m = k + 1 by omega, quantT, if_pos hb]
      rw [show min k m = k by omega] at ih
      rw [tat_op (by rw [withT_length, quantT_length, hT]; exact ha), tat_op (by rw [withT_length, quantT_length, hT']; exact hm2)]
      rw [tat_with (by rw [quantT_length, hT]; exact ha), tat_with (by rw [quantT_length, hT]; exact ha), tat_with (by rw [quantT_length, hT']; exact hm2), tat_with (by rw [quantT_length, hT']; exact hm2)]
      have p0 := putV_modN (a := a) false hkm
      have p1 := putV_modN (a := a) true hkm
      have l0 : putV a k false.toNat < 2 ^ n := putV_lt false ha (by omega)
      have l1 : putV a k true.toNat < 2 ^ n := putV_lt true ha (by omega)
      have i0 := ih _ l0
      have i1 := ih _ l1
      rw [p0] at i0
      rw [p1] at i1
      simp only [Bool.toNat_false, Bool.toNat_true] at i0 i1
      rw [i0, i1]
    · rw [if_neg hb, ih a ha]
      rcases Nat.lt_or_ge k m with hkm | hkm
      · rw [show min k m = k by omega, show min (k + 1) m = k + 1 by omega, quantT, if_neg hb]
      · rw [show min k m = m by omega, show min (k + 1) m = m by omega]
theorem or_lt_left {a b m : Nat} (h : a ||| b < 2 ^ m) : a < 2 ^ m ∧ b < 2 ^ m := ⟨Nat.lt_of_le_of_lt Nat.left_le_or h, Nat.lt_of_le_of_lt Nat.right_le_or h⟩
/-- the table for more variables says the same -/
theorem tabE_more {m n : Nat} (hmn : m ≤ n) : ∀ (x : Ex), x.varsN < 2 ^ m → ∀ a, a < 2 ^ n → tat (x.tabE n) a = tat (x.tabE m) (a % 2 ^ m)
  | .const b, _, a, ha => by
    have hm2 : a % 2 ^ m < 2 ^ m := Nat.mod_lt _ (Nat.two_pow_pos m)
    cases b <;> simp [Ex.tabE, tat, List.getElem?_replicate, ha, hm2]
  | .var v, h, a, ha => by
    have hm2 : a % 2 ^ m < 2 ^ m := Nat.mod_lt _ (Nat.two_pow_pos m)
    have hv : v < m := (Nat.pow_lt_pow_iff_right (by omega)).1 h
    simp only [Ex.tabE, tat, List.getElem?_map, List.getElem?_range ha, List.getElem?_range hm2, Option.map_some, Option.getD_some]
    rw [Nat.testBit_mod_two_pow]
    simp [hv]
  | .not x, h, a, ha => by
    have hm2 : a % 2 ^ m < 2 ^ m := Nat.mod_lt _ (Nat.two_pow_pos m)
    rw [Ex.tabE, Ex.tabE, tat_op (by rw [tabE_length]; exact ha), tat_op (by rw [tabE_length]; exact hm2), tabE_more hmn x h a ha]
  | .pair op x y, h, a, ha => by
    have hm2 : a % 2 ^ m < 2 ^ m := Nat.mod_lt _ (Nat.two_pow_pos m)
    have h2 := or_lt_left (show x.varsN ||| y.varsN < 2 ^ m from h)
    rw [Ex.tabE, Ex.tabE, tat_op (by rw [tabE_length]; exact ha), tat_op (by rw [tabE_length]; exact hm2), tabE_more hmn x h2.1 a ha, tabE_more hmn y h2.2 a ha]
  | .bound each l x, h, a, ha => by
    have h2 := or_lt_left (show x.varsN ||| maskL l < 2 ^ m from h)
    rw [Ex.tabE, Ex.tabE, quant_more _ _ m n hmn h2.2 _ _ (tabE_length n x) (tabE_length m x) (fun a ha => tabE_more hmn x h2.1 a ha) n (Nat.le_refl _) a ha, show min n m = m by omega]
/-- what holds is read in any table of enough variables -/
theorem holds_tab (x : Ex) (hs : x.Small) {n : Nat} (hv : x.varsN < 2 ^ n) (y : Int) : x.holdsI y = tat (x.tabE n) (y % ((2 ^ n : Nat) : Int)).toNat := by
  have hvl := vars_lt x hs
  have h1 : x.own ≤ n := (bitLen_iff hvl).2 hv
  have h2 : x.varsN < 2 ^ x.own := lt_bitLen hvl
  have hp : (0 : Int) < ((2 ^ n : Nat) : Int) := by have := Nat.two_pow_pos n; omega
  have hp2 : (0 : Int) < ((2 ^ x.own : Nat) : Int) := by have := Nat.two_pow_pos x.own; omega
  have hm0 := Int.emod_nonneg y (show ((2 ^ n : Nat) : Int) ≠ 0 by omega)
  have hm1 := Int.emod_lt_of_pos y hp
  have hm2 := Int.emod_nonneg y (show ((2 ^ x.own : Nat) : Int) ≠ 0 by omega)
  rw [tabE_more h1 x h2 _ (by omega)]
  unfold Ex.holdsI
  congr 1
  have hd : ((2 ^ x.own : Nat) : Int) ∣ ((2 ^ n : Nat) : Int) := by
    rw [Int.natCast_dvd_natCast]
    exact Nat.pow_dvd_pow 2 h1
  have := Int.emod_emod_of_dvd y hd
  rw [← this]
  obtain ⟨k, hk⟩ := Int.eq_ofNat_of_zero_le hm0
  rw [hk, ← Int.natCast_emod]
  rfl
set_option maxRecDepth 100000 in
set_option maxHeartbeats 8000000 in
theorem exprSet_bad (g : Nat) (x : Ex) (n : Int) (w : World) (h : ExprIs w g x) (hs : x.Small) (hn : -9223372036854775808 ≤ n ∧ n ≤ 9223372036854775807) (hbad : n < 0 ∨ 16 < n ∨ (0 ≤ n ∧ n ≤ 16 ∧ ¬ x.varsN < 2 ^ n.toNat)) :
    Calls Tryz.prog 15 #[.pointer (some ⟨g, 0, none⟩), .int .i64 n] w fun e w' => e = .returned (.tuple #[.agg #[.int .i64 0, .slice none 0 0], .int .u8 3]) ∧ Below w.heap.size w w' := by
  obtain ⟨W, hW⟩ : ∃ W, W = w.alloc set0 := ⟨_, rfl⟩
  have hbw : Below w.heap.size w W := by rw [hW]; exact (Below.refl _ _).alloc (Nat.le_refl _) _
  have hblk : Blk W w.heap.size 38 #[.int .i64 0, .slice none 0 0] := by rw [hW]; exact Blk.new _ _ _
  have hvl := vars_lt x hs
  have hbl := bitLen16 hvl
  have HV := Lib.hid (exprVars_any g x W (h.on hbw) hs)
  have HL := Lib.hid (fun W => Tryz.bits_Len16 (x.varsN : Nat) W (by omega) (by omega))
  have hq : (0 ≤ n ∧ n ≤ 16 ∧ ¬ x.varsN < 2 ^ n.toNat) → n < (Lib.bitLen x.varsN : Nat) := fun ⟨h0, h1, h2⟩ => by
    have := (bitLen_iff (n := n.toNat) hvl)
    omega
  have hq2 : n < 0 ∨ 16 < n ∨ (0 ≤ n ∧ n ≤ 16 ∧ n < (Lib.bitLen x.varsN : Nat)) := by
    rcases hbad with h | h | h
    · exact .inl h
    · exact .inr (.inl h)
    · exact .inr (.inr ⟨h.1, h.2.1, hq h⟩)
  rw [show ((x.varsN : Nat) : Int).toNat = x.varsN from rfl] at HL
  generalize Lib.bitLen x.varsN = bl at *
  generalize x.varsN = vn at *
  have HH := Lib.hid (And.intro hblk hbw)
  have HWW := Lib.hid hW
  have hg : ¬ (n < 0 ∧ 16 < n) := by omega
  clear h hs hq hbad hblk hbw hvl hg
  have hne : ¬ w.heap.size = W.heap.size := by have := HH.out.1.lt; omega
  rcases hq2 with h | h | ⟨h0, h1, h2⟩
  · have c0 : W.cell? ⟨w.heap.size, 0, none⟩ = some (.int .i64 0) := HH.out.1.cell 0
    have c1 : W.cell? ⟨w.heap.size, 1, none⟩ = some (.slice none 0 0) := HH.out.1.cell 1
    have f0 := HH.out.1.frozen 0
    have f1 := HH.out.1.frozen 1
    have FIN := Lib.hid ((HH.out.2.setCell (p := ⟨w.heap.size, 0, none⟩) (Nat.le_refl w.heap.size) (.int .i64 0)).setCell (p := ⟨w.heap.size, 1, none⟩) (Nat.le_refl w.heap.size) (.slice none 0 0))
    go_enter Tryz.func15, Tryz.ntmps15
    go_wp2_with fail
    refine bodyPost_ret (v := .tuple #[.agg #[.int .i64 0, .slice none 0 0], .int .u8 3]) (by simp [results, Tryz.results15, go_sem, *]) rfl ⟨rfl, ?_⟩
    repeat (first | exact HH.out.2 | exact Below.refl _ _ | refine Below.setCell ?_ (Nat.le_refl _) _ | refine Below.alloc ?_ (by simp) _)
  · have c0 : W.cell? ⟨w.heap.size, 0, none⟩ = some (.int .i64 0) := HH.out.1.cell 0
    have c1 : W.cell? ⟨w.heap.size, 1, none⟩ = some (.slice none 0 0) := HH.out.1.cell 1
    have f0 := HH.out.1.frozen 0
    have f1 := HH.out.1.frozen 1
    have h3 : ¬ n < 0 := by omega
    go_enter Tryz.func15, Tryz.ntmps15
    go_wp2_with fail
    refine bodyPost_ret (v := .tuple #[.agg #[.int .i64 0, .slice none 0 0], .int .u8 3]) (by simp [results, Tryz.results15, go_sem, *]) rfl ⟨rfl, ?_⟩
    repeat (first | exact HH.out.2 | exact Below.refl _ _ | refine Below.setCell ?_ (Nat.le_refl _) _ | refine Below.alloc ?_ (by simp) _)
  · have h3 : ¬ n < 0 := by omega
    have h4 : ¬ 16 < n := by omega
    go_enter Tryz.func15, Tryz.ntmps15
    go_wp2_with fail
    rw [← HWW.out]
    clear hW
    refine HV.out.mono ?_
    rintro e w1 ⟨rfl, hb1⟩
    have hB1 := HH.out.1.onB hb1
    have hk1 := hB1.lt
    have c0 : w1.cell? ⟨w.heap.size, 0, none⟩ = some (.int .i64 0) := hB1.cell 0
    have c1 : w1.cell? ⟨w.heap.size, 1, none⟩ = some (.slice none 0 0) := hB1.cell 1
    have f0 := hB1.frozen 0
    have f1 := hB1.frozen 1
    have HB := Lib.hid (HH.out.2.trans (hb1.mono HH.out.2.size))
    clear hB1 hb1
    go_wp2_with fail
    refine (HL.out _).mono ?_
    rintro e w2 ⟨rfl, rfl⟩
    go_wp2_with fail
    refine bodyPost_ret (v := .tuple #[.agg #[.int .i64 0, .slice none 0 0], .int .u8 3]) (by simp [results, Tryz.results15, go_sem, *]) rfl ⟨rfl, ?_⟩
    exact (HB.out.setCell (p := ⟨w.heap.size, 0, none⟩) (Nat.le_refl w.heap.size) _).setCell (p := ⟨w.heap.size, 1, none⟩) (Nat.le_refl w.heap.size) _
set_option maxRecDepth 100000 in
set_option maxHeartbeats 8000000 in
theorem exprSet_ok (g : Nat) (x : Ex) (n : Nat) (w : World) (h : ExprIs w g x) (hs : x.Small) (hn : n ≤ 16) (hv : x.varsN < 2 ^ n) :
    Calls Tryz.prog 15 #[.pointer (some ⟨g, 0, none⟩), .int .i64 (n : Nat)] w fun e w' => ∃ A l c, e = .returned (.tuple #[.agg #[.int .i64 (n : Nat), .slice A l c], .int .u8 0]) ∧ SetArg w' n A l c (packT (x.tabE n)) ∧ Below w.heap.size w w' := by
  obtain ⟨W, hW⟩ : ∃ W, W = w.alloc set0 := ⟨_, rfl⟩
  have hbw : Below w.heap.size w W := by rw [hW]; exact (Below.refl _ _).alloc (Nat.le_refl _) _
  have hblk : Blk W w.heap.size 38 #[.int .i64 0, .slice none 0 0] := by rw [hW]; exact Blk.new _ _ _
  have hvl := vars_lt x hs
  have hbl := bitLen16 hvl
  obtain ⟨v, hb, he⟩ := h
  have HG := Lib.hid (fun W' (hW' : Below w.heap.size w W') => (hb.onB hW').cell 0)
  have HV := Lib.hid (exprVars_any g x W (ExprIs.on ⟨v, hb, he⟩ hbw) hs)
  have HL := Lib.hid (fun W => Tryz.bits_Len16 (x.varsN : Nat) W (by omega) (by omega))
  have h2 : (Lib.bitLen x.varsN : Int) ≤ (n : Int) := by
    have := (bitLen_iff (n := n) hvl).2 hv
    omega
  have HT := Lib.hid (fun W' (hW' : Below w.heap.size w W') => table_all x v W' n hn hs hv (he.on hW'))
  have HM1 := fun n W => meth_table he n W
  have HC1 := fun W => call_table x v.2 (.int .i64 (n : Nat)) W
  rw [show ((x.varsN : Nat) : Int).toNat = x.varsN from rfl] at HL
  generalize Lib.bitLen x.varsN = bl at *
  generalize x.varsN = vn at *
  have HH := Lib.hid (And.intro hblk hbw)
  have HWW := Lib.hid hW
  have hgw := hb.lt
  have h3 : ¬ (n : Int) < 0 := by omega
  have h4 : ¬ (16 : Int) < (n : Int) := by omega
  have h5 : ¬ (n : Int) < (bl : Int) := by omega
  have hne : ¬ w.heap.size = g := by omega
  clear hs hblk hbw hvl he hb hv h2
  go_enter Tryz.func15, Tryz.ntmps15
  go_wp2_with fail
  rw [← HWW.out]
  clear hW
  refine HV.out.mono ?_
  rintro e w1 ⟨rfl, hb1⟩
  have HB1 := Lib.hid (HH.out.2.trans (hb1.mono HH.out.2.size))
  have HK1 := Lib.hid (HH.out.1.onB hb1)
  clear hb1
  have g0 := HG.out w1 HB1.out
  go_wp2_with fail
  refine (HL.out _).mono ?_
  rintro e w2 ⟨rfl, rfl⟩
  have hgw1 : g < w2.heap.size := by have := HB1.out.size; omega
  go_wp2_with fail
  refine (HT.out _ HB1.out).mono ?_
  rintro e w3 ⟨A, l, c, rfl, ha, hb3⟩
  have hB3 := HK1.out.onB hb3
  have hk3 := hB3.lt
  have c0 : w3.cell? ⟨w.heap.size, 0, none⟩ = some (.int .i64 0) := hB3.cell 0
  have c1 : w3.cell? ⟨w.heap.size, 1, none⟩ = some (.slice none 0 0) := hB3.cell 1
  have f0 := hB3.frozen 0
  have f1 := hB3.frozen 1
  have hne3 : ¬ w.heap.size = w3.heap.size := by omega
  have FIN := Lib.hid (fun o => set_end (o := o) (Nat.le_refl _) hB3 ha (HB1.out.trans (hb3.mono HB1.out.size)))
  have FIN0 : Hid (SetArg ((w3.setCell ⟨w.heap.size, 0, none⟩ (.int .i64 (n : Nat))).setCell ⟨w.heap.size, 1, none⟩ (.slice A l c)) n A l c (packT (x.tabE n)) ∧ Below w.heap.size w ((w3.setCell ⟨w.heap.size, 0, none⟩ (.int .i64 (n : Nat))).setCell ⟨w.heap.size, 1, none⟩ (.slice A l c))) := Lib.hid
    ⟨ha.chgK hB3 (((Chg.refl _ _).setCell (.inl (by simp)) _).setCell (.inl (by simp)) _), ((HB1.out.trans (hb3.mono HB1.out.size)).setCell (Nat.le_refl _) _).setCell (Nat.le_refl _) _⟩
  clear hB3 ha hb3
  go_wp2_with fail
  refine bodyPost_ret (v := .tuple #[.agg #[.int .i64 (n : Nat), .slice A l c], .int .u8 0]) (by simp [results, Tryz.results15, go_sem, *]) rfl ⟨A, l, c, rfl, ?_⟩
  first | exact FIN0.out | (obtain ⟨A', l', c', q1, q2, q3⟩ := FIN.out _; injection q1 with q1; injection q1 with q1; simp at q1; obtain ⟨rfl, rfl, rfl⟩ := q1; exact ⟨q2, q3⟩)
end Go.Proofs.YtbhbhfplpbcfiaaGreatDoor
