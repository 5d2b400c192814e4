/- Contract: report.Told. -/
import Derived.Test.YtnlhibhamechcaaGreatDoorMp
import Derived.Test.YtnlhibhamechcaaGreatDoorToldL1
import Derived.Test.YtnlhibhamechcaaGreatDoorToldL2
import Derived.Test.YtnlhibhamechcaaGreatDoorToldL3
import Derived.Test.YtnlhibhamechcaaGreatDoorToldL4
namespace Go.Proofs.YtnlhibhamechcaaGreatDoor
open Go Go.RowKit
set_option linter.unusedSimpArgs false
set_option linter.unusedVariables false

/-- the line of a step: what was told of it -/
def wordsT (kn e : Nat) (h n bits : Int) (yes : Bool) : List UInt8 :=
  if e ≠ 0 then errName e else if kn ≤ 16 ∨ kn = 29 then [104, 97, 110, 100, 108, 101] ++ 32 :: Lib.itoa h
  else if (18 ≤ kn ∧ kn ≤ 20) ∨ (22 ≤ kn ∧ kn ≤ 24) then [110, 117, 109] ++ 32 :: Lib.itoa n
  else if kn = 25 then [98, 105, 116, 115] ++ 32 :: Lib.itoa bits
  else if 26 ≤ kn ∧ kn ≤ 28 then (if yes then [121, 101, 115] else [110, 111]) else [111, 107]
def toldT (x : List UInt8) (kn e : Nat) (h n bits : Int) (yes : Bool) : List UInt8 := x ++ ([32, 45, 62, 32] ++ wordsT kn e h n bits yes ++ [10])
theorem told_any (b kn e : Nat) (sf sa sb sc sv skk : Int) (so : Bool) (h n : Int) (bits : Nat) (yes : Bool) (hs : (⟨kn, sf, sa, sb, sc, sv, skk, so⟩ : Stp).Wf) (he : e ≤ 255) (hh : (Lit.int .i64 h).wf = true) (hn : (Lit.int .i64 n).wf = true) (hbits : bits ≤ 65535)
    (w0 w : World) (hP : Pow w0) (hA : Asc w0) (hb : Below w0.heap.size w0 w) (hg : IsPage w0.heap.size b (Lib.byteCells []) false w) :
    Calls Tryz.prog 9 #[.pointer (some ⟨b, 0, none⟩), .agg #[.int .u8 (kn : Nat), .int .u8 sf, .int .i64 sa, .int .i64 sb, .int .i64 sc, .int .i64 sv, .int .u16 skk, .bool so], .agg #[.int .u8 (e : Nat), .int .i64 h, .int .i64 n, .int .u16 (bits : Nat), .bool yes]] w fun x w' => x = .returned (.tuple #[]) ∧ (IsPage w0.heap.size b (Lib.byteCells (toldT (⟨kn, sf, sa, sb, sc, sv, skk, so⟩ : Stp).text kn e h n bits yes)) false w' ∧ Below w0.heap.size w0 w') := by
  unfold toldT
  rcases Nat.eq_zero_or_pos e with rfl | h1
  · rcases (show kn ≤ 16 ∨ kn = 17 ∨ kn = 18 ∨ kn = 19 ∨ kn = 20 ∨ kn = 21 ∨ kn = 22 ∨ kn = 23 ∨ kn = 24 ∨ kn = 25 ∨ kn = 26 ∨ kn = 27 ∨ kn = 28 ∨ kn = 29 ∨ 30 ≤ kn by omega) with hq | rfl | rfl | rfl | rfl | rfl | rfl | rfl | rfl | rfl | rfl | rfl | rfl | rfl | hq
    · rw [show wordsT kn 0 h n bits yes = [104, 97, 110, 100, 108, 101] ++ 32 :: Lib.itoa h by simp [wordsT, hq]]
      exact told_handleA b kn 0 sf sa sb sc sv skk so h n bits yes hs (by omega) hh hn hbits hq w0 w hP hA hb hg
    · exact told_17 b 0 sf sa sb sc sv skk so h n bits yes hs (by omega) hh hn hbits w0 w hP hA hb hg
    · exact told_18 b 0 sf sa sb sc sv skk so h n bits yes hs (by omega) hh hn hbits w0 w hP hA hb hg
    · exact told_19 b 0 sf sa sb sc sv skk so h n bits yes hs (by omega) hh hn hbits w0 w hP hA hb hg
    · exact told_20 b 0 sf sa sb sc sv skk so h n bits yes hs (by omega) hh hn hbits w0 w hP hA hb hg
    · exact told_21 b 0 sf sa sb sc sv skk so h n bits yes hs (by omega) hh hn hbits w0 w hP hA hb hg
    · exact told_22 b 0 sf sa sb sc sv skk so h n bits yes hs (by omega) hh hn hbits w0 w hP hA hb hg
    · exact told_23 b 0 sf sa sb sc sv skk so h n bits yes hs (by omega) hh hn hbits w0 w hP hA hb hg
    · exact told_24 b 0 sf sa sb sc sv skk so h n bits yes hs (by omega) hh hn hbits w0 w hP hA hb hg
    · exact told_25 b 0 sf sa sb sc sv skk so h n bits yes hs (by omega) hh hn hbits w0 w hP hA hb hg
    · cases yes
      · exact told_26n b 0 sf sa sb sc sv skk so h n bits false hs (by omega) hh hn hbits w0 w hP hA hb hg
      · exact told_26y b 0 sf sa sb sc sv skk so h n bits true hs (by omega) hh hn hbits w0 w hP hA hb hg
    · cases yes
      · exact told_27n b 0 sf sa sb sc sv skk so h n bits false hs (by omega) hh hn hbits w0 w hP hA hb hg
      · exact told_27y b 0 sf sa sb sc sv skk so h n bits true hs (by omega) hh hn hbits w0 w hP hA hb hg
    · cases yes
      · exact told_28n b 0 sf sa sb sc sv skk so h n bits false hs (by omega) hh hn hbits w0 w hP hA hb hg
      · exact told_28y b 0 sf sa sb sc sv skk so h n bits true hs (by omega) hh hn hbits w0 w hP hA hb hg
    · exact told_29 b 0 sf sa sb sc sv skk so h n bits yes hs (by omega) hh hn hbits w0 w hP hA hb hg
    · rw [show wordsT kn 0 h n bits yes = [111, 107] by
        unfold wordsT
        rw [if_neg (by omega), if_neg (by omega), if_neg (by omega), if_neg (by omega), if_neg (by omega)]]
      exact told_okC b kn 0 sf sa sb sc sv skk so h n bits yes hs (by omega) hh hn hbits hq w0 w hP hA hb hg
  · rw [show wordsT kn e h n bits yes = errName e by unfold wordsT; rw [if_pos (by omega)]]
    exact told_err b kn e sf sa sb sc sv skk so h n bits yes hs he hh hn hbits h1 w0 w hP hA hb hg
set_option maxRecDepth 100000 in
set_option maxHeartbeats 4000000 in
theorem repTold_any (kn e : Nat) (sf sa sb sc sv skk : Int) (so : Bool) (h n : Int) (bits : Nat) (yes : Bool) (hs : (⟨kn, sf, sa, sb, sc, sv, skk, so⟩ : Stp).Wf) (he : e ≤ 255) (hh : (Lit.int .i64 h).wf = true) (hn : (Lit.int .i64 n).wf = true) (hbits : bits ≤ 65535)
    (w : World) (hP : Pow w) (hA : Asc w) :
    Calls Tryz.prog 5 #[.agg #[.int .u8 (kn : Nat), .int .u8 sf, .int .i64 sa, .int .i64 sb, .int .i64 sc, .int .i64 sv, .int .u16 skk, .bool so], .agg #[.int .u8 (e : Nat), .int .i64 h, .int .i64 n, .int .u16 (bits : Nat), .bool yes]] w fun x w' => x = .returned (txt (toldT (⟨kn, sf, sa, sb, sc, sv, skk, so⟩ : Stp).text kn e h n bits yes)) ∧ Below w.heap.size w w' := by
  obtain ⟨W, hW⟩ : ∃ W, W = ((w.alloc (.cells #[.int .u8 (kn : Nat), .int .u8 sf, .int .i64 sa, .int .i64 sb, .int .i64 sc, .int .i64 sv, .int .u16 skk, .bool so] 26)).alloc (.cells #[.int .u8 (e : Nat), .int .i64 h, .int .i64 n, .int .u16 (bits : Nat), .bool yes] 30)).alloc (.cells #[.pointer none, .slice none 0 0, .bool false] 44) := ⟨_, rfl⟩
  obtain ⟨W1, hW1⟩ : ∃ W1, W1 = (w.alloc (.cells #[.int .u8 (kn : Nat), .int .u8 sf, .int .i64 sa, .int .i64 sb, .int .i64 sc, .int .i64 sv, .int .u16 skk, .bool so] 26)).alloc (.cells #[.int .u8 (e : Nat), .int .i64 h, .int .i64 n, .int .u16 (bits : Nat), .bool yes] 30) := ⟨_, rfl⟩
  have hb1 : Below w.heap.size w W1 := by rw [hW1]; exact ((Below.refl _ _).alloc (Nat.le_refl _) _).alloc (by simp) _
  have hs1 : W1.heap.size = w.heap.size + 1 + 1 := by rw [hW1]; simp
  have hWW : W = W1.alloc (.cells #[.pointer none, .slice none 0 0, .bool false] 44) := by rw [hW, hW1]
  have hb : Below W1.heap.size W1 W := by rw [hWW]; exact (Below.refl _ _).alloc (Nat.le_refl _) _
  have b1 : Blk W w.heap.size 26 #[.int .u8 (kn : Nat), .int .u8 sf, .int .i64 sa, .int .i64 sb, .int .i64 sc, .int .i64 sv, .int .u16 skk, .bool so] := by rw [hW]; exact ((Blk.new w _ _).alloc _).alloc _
  have b2 : Blk W (w.heap.size + 1) 30 #[.int .u8 (e : Nat), .int .i64 h, .int .i64 n, .int .u16 (bits : Nat), .bool yes] := by
    rw [hWW, hW1]
    have := (Blk.new (w.alloc (.cells #[.int .u8 (kn : Nat), .int .u8 sf, .int .i64 sa, .int .i64 sb, .int .i64 sc, .int .i64 sv, .int .u16 skk, .bool so] 26)) 30 #[.int .u8 (e : Nat), .int .i64 h, .int .i64 n, .int .u16 (bits : Nat), .bool yes]).alloc (.cells #[.pointer none, .slice none 0 0, .bool false] 44)
    rwa [World.size_alloc] at this
  have hpg : IsPage W1.heap.size W1.heap.size (Lib.byteCells []) false W := by rw [hWW]; exact IsPage.fresh W1
  have HR := told_any W1.heap.size kn e sf sa sb sc sv skk so h n bits yes hs he hh hn hbits W1 W (hP.on hb1) (hA.on hb1) hb hpg
  rw [hs1] at HR
  obtain ⟨x, hx⟩ : ∃ x, x = toldT (⟨kn, sf, sa, sb, sc, sv, skk, so⟩ : Stp).text kn e h n bits yes := ⟨_, rfl⟩
  have hx0 : x ≠ [] := by rw [hx]; simp [toldT]
  rw [← hx] at HR ⊢
  have HS := Lib.hid (fun W h => pString_any (w.heap.size + 1 + 1) (w.heap.size + 1 + 1) x W false h hx0)
  have HRR := Lib.hid HR
  have HWN := Lib.hid hW
  have HBB := Lib.hid hb1
  have HS1 := Lib.hid hs1
  unfold txt
  have j0 := b1.cell 0
  have j1 := b1.cell 1
  have j2 := b1.cell 2
  have j3 := b1.cell 3
  have j4 := b1.cell 4
  have j5 := b1.cell 5
  have j6 := b1.cell 6
  have j7 := b1.cell 7
  have i0 := b2.cell 0
  have i1 := b2.cell 1
  have i2 := b2.cell 2
  have i3 := b2.cell 3
  have i4 := b2.cell 4
  clear HR hx hx0 hb1 hs1 hWW hb b1 b2 hpg hP hA hs hh hn hW1
  go_enter Tryz.func5, Tryz.ntmps5
  go_wp2_with fail
  rw [← HWN.out]
  clear hW
  try go_wp2_with fail
  refine HRR.out.mono ?_
  rintro r w1 ⟨rfl, hg, hbt⟩
  have HG := Lib.hid hg
  have HBT := Lib.hid hbt
  clear hg hbt j0 j1 j2 j3 j4 j5 j6 j7 i0 i1 i2 i3 i4
  go_wp2_with fail
  refine (HS.out _ HG.out).mono ?_
  rintro r w2 ⟨rfl, hb2⟩
  go_wp2_with fail
  go_ret
  exact ⟨rfl, HBB.out.trans ((HBT.out.trans hb2).mono (by omega))⟩
end Go.Proofs.YtnlhibhamechcaaGreatDoor
