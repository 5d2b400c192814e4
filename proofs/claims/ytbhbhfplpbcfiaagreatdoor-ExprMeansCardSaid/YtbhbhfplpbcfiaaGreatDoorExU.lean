/- Contracts: the table of a quantifier; of any expression. -/
import Derived.Test.YtbhbhfplpbcfiaaGreatDoorExT
import Derived.Test.YtbhbhfplpbcfiaaGreatDoorExN
namespace Go.Proofs.YtbhbhfplpbcfiaaGreatDoor
open Go.RowKit Go.Sort
set_option linter.unusedSimpArgs false
set_option linter.unusedVariables false

set_option maxRecDepth 100000 in
set_option maxHeartbeats 8000000 in
theorem table_bound (each : Bool) (l : List Nat) (x : Ex) (hx : TableC x) : TableC (.bound each l x) := by
  rintro v w n hn hs hv ⟨A, len, c, y, rfl, ho, hob, h⟩
  have hs : (∀ v ∈ l, v ≤ 15) ∧ x.Small := hs
  have hvx : x.varsN < 2 ^ n := Nat.lt_of_le_of_lt (Nat.left_le_or) hv
  have hvl : maskL l < 2 ^ n := Nat.lt_of_le_of_lt (Nat.right_le_or) hv
  obtain ⟨W, hW⟩ : ∃ W, W = (w.alloc (.cells #[.bool each, .slice A len c, ifV y] 186)).alloc set0 := ⟨_, rfl⟩
  have hbw : Below w.heap.size w W := by rw [hW]; exact ((Below.refl _ _).alloc (Nat.le_refl _) _).alloc (by simp) _
  have hblk : Blk W (w.heap.size + 1) 38 #[.int .i64 0, .slice none 0 0] := by
    rw [hW]
    have := Blk.new (w.alloc (.cells #[.bool each, .slice A len c, ifV y] 186)) 38 #[.int .i64 0, .slice none 0 0]
    rw [World.size_alloc] at this
    exact this
  have hblk0 : Blk W w.heap.size 186 #[.bool each, .slice A len c, ifV y] := by rw [hW]; exact (Blk.new _ _ _).alloc _
  have p2 : W.cell? ⟨w.heap.size, 2, none⟩ = some (ifV y) := hblk0.cell 2
  have HC := Lib.hid (hx y W n hn hs.2 hvx (h.on hbw))
  have HM1 := fun n W => meth_table h n W
  have HC1 := fun W => call_table x y.2 (.int .i64 (n : Nat)) W
  have hlt : (x.tabE n).length = 2 ^ n := tabE_length n x
  have HLT := Lib.hid hlt
  have HO := Lib.hid (And.intro (ho.below hbw) hs.1)
  have HH := Lib.hid (And.intro hblk (And.intro hbw hblk0))
  have HWW := Lib.hid hW
  clear hx h hbw hblk hblk0 hv hs hlt hvx ho hob
  show Calls Tryz.prog 230 _ w _
  go_enter Tryz.func230, Tryz.ntmps230
  go_wp2_with fail
  rw [← HWW.out]
  clear hW
  refine HC.out.mono ?_
  rintro e w1 ⟨A1, l1, c1, rfl, ha, hb⟩
  have hB1 := HH.out.1.onB hb
  have hb0 := HH.out.2.2.onB hb
  have hbw1 := HH.out.2.1.trans (hb.mono HH.out.2.1.size)
  obtain ⟨W1, hW1⟩ : ∃ W1, W1 = w1.alloc (setO n A1 l1 c1) := ⟨_, rfl⟩
  have hbw2 : Below w.heap.size w W1 := by rw [hW1]; exact hbw1.alloc hbw1.size _
  have hB2 : Blk W1 (w.heap.size + 1) 38 #[.int .i64 0, .slice none 0 0] := by rw [hW1]; exact hB1.alloc _
  have hB3 : Blk W1 w.heap.size 186 #[.bool each, .slice A len c, ifV y] := by rw [hW1]; exact hb0.alloc _
  have hB5 : Blk W1 w1.heap.size 38 #[.int .i64 (n : Nat), .slice A1 l1 c1] := by rw [hW1]; exact Blk.new _ _ _
  have ha1 : SetArg W1 n A1 l1 c1 (packT (x.tabE n)) := by rw [hW1]; exact ha.alloc _
  have hO1 : OwnI W1 0 (.slice A len c) (l.map fun (k : Nat) => (k : Int)) := by rw [hW1]; exact (HO.out.1.below hb).alloc _
  have HMK := Lib.hid (fun W' (hW' : Below W1.heap.size W1 W') => mask_any each l A len c (ifV y) W' (hO1.below hW') HO.out.2 rfl)
  have H2 := Lib.hid (And.intro hbw2 (And.intro hB2 (And.intro hB5 ha1)))
  have hs1 := hbw1.size
  have hlt1 := hB1.lt
  have q0 : W1.cell? ⟨w.heap.size, 0, none⟩ = some (.bool each) := hB3.cell 0
  have q1 : W1.cell? ⟨w.heap.size, 1, none⟩ = some (.slice A len c) := hB3.cell 1
  have q2 : W1.cell? ⟨w.heap.size, 2, none⟩ = some (ifV y) := hB3.cell 2
  have k0 : W1.cell? ⟨w1.heap.size, 0, none⟩ = some (.int .i64 (n : Nat)) := hB5.cell 0
  have k1 : W1.cell? ⟨w1.heap.size, 1, none⟩ = some (.slice A1 l1 c1) := hB5.cell 1
  have HWW1 := Lib.hid hW1
  clear ha hb hB1 hb0 hbw1 hbw2 hB2 hB3 hB5 hW1 ha1 hO1 p2
  have e1 : w1.alloc (.cells #[.int .i64 (n : Nat), .slice A1 l1 c1] 38) = W1 := HWW1.out.symm
  cases each
  · go_wp2_with fail
    go_region_with (first
      | ((with_reducible show Calls _ 235 _ _ _); refine (HMK.out _ (by with_reducible (first | exact (Below.refl _ _).drew | exact Below.refl _ _))).mono ?_; rintro e wm ⟨rfl, hbm⟩; have hBm := H2.out.2.2.1.onB (show Below W1.heap.size W1 wm from ((Below.refl W1.heap.size W1).drew).trans hbm); have m0 : wm.cell? ⟨w1.heap.size, 0, none⟩ = some (.int .i64 (n : Nat)) := hBm.cell 0; have m1 : wm.cell? ⟨w1.heap.size, 1, none⟩ = some (.slice A1 l1 c1) := hBm.cell 1; have hM : Hid (Below W1.heap.size W1 wm) := Lib.hid (((Below.refl W1.heap.size W1).drew).trans hbm); clear hbm hBm)
      | ((with_reducible show Calls _ 238 _ _ _); refine (exists_ok n (maskL l) hvl hn A1 l1 c1 _ HLT.out _ (H2.out.2.2.2.on hM.out)).mono ?_; rintro e w2 ⟨A2, l2, c2, rfl, ha, hb⟩; have hB6 := (H2.out.2.2.1.onB hM.out).onB hb; have d0 : w2.cell? ⟨w1.heap.size, 0, none⟩ = some (.int .i64 (n : Nat)) := hB6.cell 0; have d1 : w2.cell? ⟨w1.heap.size, 1, none⟩ = some (.slice A1 l1 c1) := hB6.cell 1; have e0 := hB6.frozen 0; have e1 := hB6.frozen 1; have HE := Lib.hid (And.intro ha (And.intro hb hB6)); clear ha hb hB6)
      | fail)
    all_goals
      have hbk := (H2.out.2.1.onB hM.out).onB HE.out.2.1
      have c0 : w2.cell? ⟨w.heap.size + 1, 0, none⟩ = some (.int .i64 0) := hbk.cell 0
      have c1' : w2.cell? ⟨w.heap.size + 1, 1, none⟩ = some (.slice none 0 0) := hbk.cell 1
      have f0 := hbk.frozen 0
      have f1 := hbk.frozen 1
      have hne : ¬ w.heap.size + 1 = w1.heap.size := by omega
      have hne2 : ¬ w1.heap.size = w.heap.size + 1 := by omega
      have hl1 := hbk.lt
      have hl2 := HE.out.2.2.lt
      have hb1 := H2.out.1.trans (hM.out.mono H2.out.1.size)
      have FIN := Lib.hid (set_end2 (k := w.heap.size + 1) (by omega) hs1 (by omega) hbk HE.out.2.2 HE.out.1 (hb1.trans (HE.out.2.1.mono hb1.size)))
      clear hbk hb1
      go_wp2_with fail
      refine bodyPost_ret (v := .agg #[.int .i64 (n : Nat), .slice A2 l2 c2]) ?_ rfl FIN.out
      simp [results, Tryz.results230, go_sem, *]
  · go_wp2_with fail
    go_region_with (first
      | ((with_reducible show Calls _ 235 _ _ _); refine (HMK.out _ (by with_reducible (first | exact (Below.refl _ _).drew | exact Below.refl _ _))).mono ?_; rintro e wm ⟨rfl, hbm⟩; have hBm := H2.out.2.2.1.onB (show Below W1.heap.size W1 wm from ((Below.refl W1.heap.size W1).drew).trans hbm); have m0 : wm.cell? ⟨w1.heap.size, 0, none⟩ = some (.int .i64 (n : Nat)) := hBm.cell 0; have m1 : wm.cell? ⟨w1.heap.size, 1, none⟩ = some (.slice A1 l1 c1) := hBm.cell 1; have hM : Hid (Below W1.heap.size W1 wm) := Lib.hid (((Below.refl W1.heap.size W1).drew).trans hbm); clear hbm hBm)
      | ((with_reducible show Calls _ 237 _ _ _); refine (forall_ok n (maskL l) hvl hn A1 l1 c1 _ HLT.out _ (H2.out.2.2.2.on hM.out)).mono ?_; rintro e w2 ⟨A2, l2, c2, rfl, ha, hb⟩; have hB6 := (H2.out.2.2.1.onB hM.out).onB hb; have d0 : w2.cell? ⟨w1.heap.size, 0, none⟩ = some (.int .i64 (n : Nat)) := hB6.cell 0; have d1 : w2.cell? ⟨w1.heap.size, 1, none⟩ = some (.slice A1 l1 c1) := hB6.cell 1; have e0 := hB6.frozen 0; have e1 := hB6.frozen 1; have HE := Lib.hid (And.intro ha (And.intro hb hB6)); clear ha hb hB6)
      | fail)
    all_goals
      have hbk := (H2.out.2.1.onB hM.out).onB HE.out.2.1
      have c0 : w2.cell? ⟨w.heap.size + 1, 0, none⟩ = some (.int .i64 0) := hbk.cell 0
      have c1' : w2.cell? ⟨w.heap.size + 1, 1, none⟩ = some (.slice none 0 0) := hbk.cell 1
      have f0 := hbk.frozen 0
      have f1 := hbk.frozen 1
      have hne : ¬ w.heap.size + 1 = w1.heap.size := by omega
      have hne2 : ¬ w1.heap.size = w.heap.size + 1 := by omega
      have hl1 := hbk.lt
      have hl2 := HE.out.2.2.lt
      have hb1 := H2.out.1.trans (hM.out.mono H2.out.1.size)
      have FIN := Lib.hid (set_end2 (k := w.heap.size + 1) (by omega) hs1 (by omega) hbk HE.out.2.2 HE.out.1 (hb1.trans (HE.out.2.1.mono hb1.size)))
      clear hbk hb1
      go_wp2_with fail
      refine bodyPost_ret (v := .agg #[.int .i64 (n : Nat), .slice A2 l2 c2]) ?_ rfl FIN.out
      simp [results, Tryz.results230, go_sem, *]
/-- the table of any expression -/
theorem table_all : ∀ (x : Ex), TableC x
  | .const b => table_const b
  | .var n => table_var n
  | .not x => table_not x (table_all x)
  | .pair op a b => table_pair op a b (table_all a) (table_all b)
  | .bound each l x => table_bound each l x (table_all x)
end Go.Proofs.YtbhbhfplpbcfiaaGreatDoor
