/- The line of a step, the program's: one class. -/
import Derived.Test.YtnlhibhamechcaaGreatDoorToldA
namespace Go.Proofs.YtnlhibhamechcaaGreatDoor
open Go Go.RowKit
set_option linter.unusedSimpArgs false
set_option linter.unusedVariables false

set_option maxRecDepth 100000 in
set_option maxHeartbeats 16000000 in
theorem told_29 (b e : Nat) (sf sa sb sc sv skk : Int) (so : Bool) (h n : Int) (bits : Nat) (yes : Bool) (hs : (⟨29, sf, sa, sb, sc, sv, skk, so⟩ : Stp).Wf) (he : e ≤ 255) (hh : (Lit.int .i64 h).wf = true) (hn : (Lit.int .i64 n).wf = true) (hbits : bits ≤ 65535)
     (w0 w : World) (hP : Pow w0) (hA : Asc w0) (hb : Below w0.heap.size w0 w) (hg : IsPage w0.heap.size b (Lib.byteCells []) false w) :
    Calls Tryz.prog 9 #[.pointer (some ⟨b, 0, none⟩), .agg #[.int .u8 29, .int .u8 sf, .int .i64 sa, .int .i64 sb, .int .i64 sc, .int .i64 sv, .int .u16 skk, .bool so], .agg #[.int .u8 0, .int .i64 h, .int .i64 n, .int .u16 (bits : Nat), .bool yes]] w fun x w' => x = .returned (.tuple #[]) ∧ (IsPage w0.heap.size b (Lib.byteCells ((⟨29, sf, sa, sb, sc, sv, skk, so⟩ : Stp).text ++ ([32, 45, 62, 32] ++ [104, 97, 110, 100, 108, 101] ++ 32 :: Lib.itoa h ++ [10]))) false w' ∧ Below w0.heap.size w0 w') := by
  obtain ⟨W, hW⟩ : ∃ W, W = (w.alloc (.cells #[.int .u8 29, .int .u8 sf, .int .i64 sa, .int .i64 sb, .int .i64 sc, .int .i64 sv, .int .u16 skk, .bool so] 26)).alloc (.cells #[.int .u8 0, .int .i64 h, .int .i64 n, .int .u16 (bits : Nat), .bool yes] 30) := ⟨_, rfl⟩
  have hbW : Below w.heap.size w W := by rw [hW]; exact ((Below.refl _ _).alloc (Nat.le_refl _) _).alloc (by simp) _
  have b1 : Blk W w.heap.size 26 #[.int .u8 29, .int .u8 sf, .int .i64 sa, .int .i64 sb, .int .i64 sc, .int .i64 sv, .int .u16 skk, .bool so] := by rw [hW]; exact (Blk.new w _ _).alloc _
  have b2 : Blk W (w.heap.size + 1) 30 #[.int .u8 0, .int .i64 h, .int .i64 n, .int .u16 (bits : Nat), .bool yes] := by
    rw [hW]
    have := Blk.new (w.alloc (.cells #[.int .u8 29, .int .u8 sf, .int .i64 sa, .int .i64 sb, .int .i64 sc, .int .i64 sv, .int .u16 skk, .bool so] 26)) 30 #[.int .u8 0, .int .i64 h, .int .i64 n, .int .u16 (bits : Nat), .bool yes]
    rwa [World.size_alloc] at this
  have hbl := hg.lt
  have hBB := hg.ge
  have HX := Lib.hid (fun W' hP hA => stext_any ⟨29, sf, sa, sb, sc, sv, skk, so⟩ hs W' hP hA)
  have hxl := text_len _ hs
  obtain ⟨x, hx⟩ : ∃ x, x = (⟨29, sf, sa, sb, sc, sv, skk, so⟩ : Stp).text := ⟨_, rfl⟩
  rw [← hx] at HX hxl
  have HXE := Lib.hid hx
  simp only [Stp.cells] at HX
  unfold txt at HX
  have HG0 := Lib.hid (hg.on hbW)
  have HB0 := Lib.hid (hb.trans (hbW.mono hb.size))
  have HP0 := Lib.hid hP
  have HA0 := Lib.hid hA
  have B1 := Lib.hid b1
  have B2 := Lib.hid b2
  have HWW := Lib.hid hW
  have HHH := Lib.hid (And.intro hh hn)
  have HWS : Hid (Below w.heap.size w W) := Lib.hid hbW
  have qh := itoa_len h hh
  have qn := itoa_len n hn
  have qb := itoa_len (bits : Int) (bits_wf hbits)
  clear hbW b1 b2 hx hg hP hA hh hn hb
  go_enter Tryz.func9, Tryz.ntmps9
  go_wp2_with fail
  rw [← HWW.out]
  clear hW
  have j0 := B1.out.cell 0
  have j1 := B1.out.cell 1
  have j2 := B1.out.cell 2
  have j3 := B1.out.cell 3
  have j4 := B1.out.cell 4
  have j5 := B1.out.cell 5
  have j6 := B1.out.cell 6
  have j7 := B1.out.cell 7
  go_wp2_with fail
  refine (HX.out _ (HP0.out.on HB0.out) (HA0.out.on HB0.out)).mono ?_
  rintro r w1 ⟨rfl, hb1⟩
  have HG1 := Lib.hid (HG0.out.on hb1)
  have HB1 := Lib.hid (HB0.out.trans (hb1.mono HB0.out.size))
  have HO1 : Hid (Oth b W w1) := Lib.hid (Oth.on hb1)
  clear hb1 j0 j1 j2 j3 j4 j5 j6 j7
  go_wp2_with fail
  refine (pword_any _ b [] x false _ HG1.out (by simp <;> omega) HB1.out.size).mono ?_
  rintro r w2 ⟨rfl, hg2, hb2, ho2⟩
  obtain ⟨l2, hl2⟩ : ∃ l2, l2 = [] ++ sep false ++ x := ⟨_, rfl⟩
  rw [← hl2] at hg2
  have ql2 : l2.length ≤ 300 := by rw [hl2]; simp [sep] <;> omega
  have HG2 := Lib.hid hg2
  have HL2 := Lib.hid hl2
  have HB2 := Lib.hid (HB1.out.trans hb2)
  have HO2 := Lib.hid (Lib.OthersKept.trans HO1.out ho2)
  clear hg2 hl2 hb2 ho2
  go_wp2_with fail
  refine (pword_any _ b l2 [45, 62] true _ HG2.out (by simp <;> omega) HB2.out.size).mono ?_
  rintro r w3 ⟨rfl, hg3, hb3, ho3⟩
  obtain ⟨l3, hl3⟩ : ∃ l3, l3 = l2 ++ sep true ++ [45, 62] := ⟨_, rfl⟩
  rw [← hl3] at hg3
  have ql3 : l3.length ≤ 400 := by rw [hl3]; simp [sep] <;> omega
  have HG3 := Lib.hid hg3
  have HL3 := Lib.hid hl3
  have HB3 := Lib.hid (HB2.out.trans hb3)
  have HO3 := Lib.hid (Lib.OthersKept.trans HO2.out ho3)
  clear hg3 hl3 hb3 ho3
  have n1 : w.heap.size ≠ b := by omega
  have n2 : w.heap.size + 1 ≠ b := by omega
  have c0 := (B1.out.oth HO3.out n1 (by decide)).cell 0
  have d0 := (B2.out.oth HO3.out n2 (by decide)).cell 0
  have d1 := (B2.out.oth HO3.out n2 (by decide)).cell 1
  have d2 := (B2.out.oth HO3.out n2 (by decide)).cell 2
  have d3 := (B2.out.oth HO3.out n2 (by decide)).cell 3
  have d4 := (B2.out.oth HO3.out n2 (by decide)).cell 4
  clear n1 n2
  go_wp2_with fail
  clear c0 d0 d1 d2 d3 d4
  refine (pword_any _ b l3 [104, 97, 110, 100, 108, 101] true _ HG3.out (by simp <;> omega) HB3.out.size).mono ?_
  rintro r w4 ⟨rfl, hg4, hb4, ho4⟩
  obtain ⟨l4, hl4⟩ : ∃ l4, l4 = l3 ++ sep true ++ [104, 97, 110, 100, 108, 101] := ⟨_, rfl⟩
  rw [← hl4] at hg4
  have ql4 : l4.length ≤ 500 := by rw [hl4]; simp [sep] <;> omega
  have HG4 := Lib.hid hg4
  have HL4 := Lib.hid hl4
  have HB4 := Lib.hid (HB3.out.trans hb4)
  have HO4 := Lib.hid (Lib.OthersKept.trans HO3.out ho4)
  clear hg4 hl4 hb4 ho4
  have n1 : w.heap.size ≠ b := by omega
  have n2 : w.heap.size + 1 ≠ b := by omega
  have c0 := (B1.out.oth HO4.out n1 (by decide)).cell 0
  have d0 := (B2.out.oth HO4.out n2 (by decide)).cell 0
  have d1 := (B2.out.oth HO4.out n2 (by decide)).cell 1
  have d2 := (B2.out.oth HO4.out n2 (by decide)).cell 2
  have d3 := (B2.out.oth HO4.out n2 (by decide)).cell 3
  have d4 := (B2.out.oth HO4.out n2 (by decide)).cell 4
  clear n1 n2
  go_wp2_with fail
  clear c0 d0 d1 d2 d3 d4
  refine (pnum_any _ b l4 h HHH.out.1 true _ (HP0.out.on HB4.out) HG4.out (by omega) HB4.out.size).mono ?_
  rintro r w5 ⟨rfl, hg5, hb5, ho5⟩
  obtain ⟨l5, hl5⟩ : ∃ l5, l5 = l4 ++ sep true ++ Lib.itoa h := ⟨_, rfl⟩
  rw [← hl5] at hg5
  have ql5 : l5.length ≤ 600 := by rw [hl5]; simp [sep] <;> omega
  have HG5 := Lib.hid hg5
  have HL5 := Lib.hid hl5
  have HB5 := Lib.hid (HB4.out.trans hb5)
  have HO5 := Lib.hid (Lib.OthersKept.trans HO4.out ho5)
  clear hg5 hl5 hb5 ho5
  have n1 : w.heap.size ≠ b := by omega
  have n2 : w.heap.size + 1 ≠ b := by omega
  have c0 := (B1.out.oth HO5.out n1 (by decide)).cell 0
  have d0 := (B2.out.oth HO5.out n2 (by decide)).cell 0
  have d1 := (B2.out.oth HO5.out n2 (by decide)).cell 1
  have d2 := (B2.out.oth HO5.out n2 (by decide)).cell 2
  have d3 := (B2.out.oth HO5.out n2 (by decide)).cell 3
  have d4 := (B2.out.oth HO5.out n2 (by decide)).cell 4
  clear n1 n2
  go_wp2_with fail
  clear c0 d0 d1 d2 d3 d4
  refine (pend_any _ b l5 true _ HG5.out (by omega) HB5.out.size).mono ?_
  rintro r w6 ⟨rfl, hg6, hb6, ho6⟩
  obtain ⟨l6, hl6⟩ : ∃ l6, l6 = l5 ++ [10] := ⟨_, rfl⟩
  rw [← hl6] at hg6
  have ql6 : l6.length ≤ 800 := by rw [hl6]; simp [sep] <;> omega
  have HG6 := Lib.hid hg6
  have HL6 := Lib.hid hl6
  have HB6 := Lib.hid (HB5.out.trans hb6)
  have HO6 := Lib.hid (Lib.OthersKept.trans HO5.out ho6)
  clear hg6 hl6 hb6 ho6
  go_wp2_with fail
  go_end0
  refine ⟨rfl, ?_, HB6.out⟩
  have heq : (⟨29, sf, sa, sb, sc, sv, skk, so⟩ : Stp).text ++ ([32, 45, 62, 32] ++ [104, 97, 110, 100, 108, 101] ++ 32 :: Lib.itoa h ++ [10]) = l6 := by
    rw [← HXE.out, HL6.out, HL5.out, HL4.out, HL3.out, HL2.out]
    simp [sep]
  have hfin : IsPage w0.heap.size b (Lib.byteCells ((⟨29, sf, sa, sb, sc, sv, skk, so⟩ : Stp).text ++ ([32, 45, 62, 32] ++ [104, 97, 110, 100, 108, 101] ++ 32 :: Lib.itoa h ++ [10]))) false w6 := by
    rw [heq]
    exact HG6.out
  simpa using hfin
set_option maxRecDepth 100000 in
set_option maxHeartbeats 16000000 in
theorem told_25 (b e : Nat) (sf sa sb sc sv skk : Int) (so : Bool) (h n : Int) (bits : Nat) (yes : Bool) (hs : (⟨25, sf, sa, sb, sc, sv, skk, so⟩ : Stp).Wf) (he : e ≤ 255) (hh : (Lit.int .i64 h).wf = true) (hn : (Lit.int .i64 n).wf = true) (hbits : bits ≤ 65535)
     (w0 w : World) (hP : Pow w0) (hA : Asc w0) (hb : Below w0.heap.size w0 w) (hg : IsPage w0.heap.size b (Lib.byteCells []) false w) :
    Calls Tryz.prog 9 #[.pointer (some ⟨b, 0, none⟩), .agg #[.int .u8 25, .int .u8 sf, .int .i64 sa, .int .i64 sb, .int .i64 sc, .int .i64 sv, .int .u16 skk, .bool so], .agg #[.int .u8 0, .int .i64 h, .int .i64 n, .int .u16 (bits : Nat), .bool yes]] w fun x w' => x = .returned (.tuple #[]) ∧ (IsPage w0.heap.size b (Lib.byteCells ((⟨25, sf, sa, sb, sc, sv, skk, so⟩ : Stp).text ++ ([32, 45, 62, 32] ++ [98, 105, 116, 115] ++ 32 :: Lib.itoa (bits : Int) ++ [10]))) false w' ∧ Below w0.heap.size w0 w') := by
  obtain ⟨W, hW⟩ : ∃ W, W = (w.alloc (.cells #[.int .u8 25, .int .u8 sf, .int .i64 sa, .int .i64 sb, .int .i64 sc, .int .i64 sv, .int .u16 skk, .bool so] 26)).alloc (.cells #[.int .u8 0, .int .i64 h, .int .i64 n, .int .u16 (bits : Nat), .bool yes] 30) := ⟨_, rfl⟩
  have hbW : Below w.heap.size w W := by rw [hW]; exact ((Below.refl _ _).alloc (Nat.le_refl _) _).alloc (by simp) _
  have b1 : Blk W w.heap.size 26 #[.int .u8 25, .int .u8 sf, .int .i64 sa, .int .i64 sb, .int .i64 sc, .int .i64 sv, .int .u16 skk, .bool so] := by rw [hW]; exact (Blk.new w _ _).alloc _
  have b2 : Blk W (w.heap.size + 1) 30 #[.int .u8 0, .int .i64 h, .int .i64 n, .int .u16 (bits : Nat), .bool yes] := by
    rw [hW]
    have := Blk.new (w.alloc (.cells #[.int .u8 25, .int .u8 sf, .int .i64 sa, .int .i64 sb, .int .i64 sc, .int .i64 sv, .int .u16 skk, .bool so] 26)) 30 #[.int .u8 0, .int .i64 h, .int .i64 n, .int .u16 (bits : Nat), .bool yes]
    rwa [World.size_alloc] at this
  have hbl := hg.lt
  have hBB := hg.ge
  have HX := Lib.hid (fun W' hP hA => stext_any ⟨25, sf, sa, sb, sc, sv, skk, so⟩ hs W' hP hA)
  have hxl := text_len _ hs
  obtain ⟨x, hx⟩ : ∃ x, x = (⟨25, sf, sa, sb, sc, sv, skk, so⟩ : Stp).text := ⟨_, rfl⟩
  rw [← hx] at HX hxl
  have HXE := Lib.hid hx
  simp only [Stp.cells] at HX
  unfold txt at HX
  have HG0 := Lib.hid (hg.on hbW)
  have HB0 := Lib.hid (hb.trans (hbW.mono hb.size))
  have HP0 := Lib.hid hP
  have HA0 := Lib.hid hA
  have B1 := Lib.hid b1
  have B2 := Lib.hid b2
  have HWW := Lib.hid hW
  have HHH := Lib.hid (And.intro hh hn)
  have HWS : Hid (Below w.heap.size w W) := Lib.hid hbW
  have qh := itoa_len h hh
  have qn := itoa_len n hn
  have qb := itoa_len (bits : Int) (bits_wf hbits)
  clear hbW b1 b2 hx hg hP hA hh hn hb
  go_enter Tryz.func9, Tryz.ntmps9
  go_wp2_with fail
  rw [← HWW.out]
  clear hW
  have j0 := B1.out.cell 0
  have j1 := B1.out.cell 1
  have j2 := B1.out.cell 2
  have j3 := B1.out.cell 3
  have j4 := B1.out.cell 4
  have j5 := B1.out.cell 5
  have j6 := B1.out.cell 6
  have j7 := B1.out.cell 7
  go_wp2_with fail
  refine (HX.out _ (HP0.out.on HB0.out) (HA0.out.on HB0.out)).mono ?_
  rintro r w1 ⟨rfl, hb1⟩
  have HG1 := Lib.hid (HG0.out.on hb1)
  have HB1 := Lib.hid (HB0.out.trans (hb1.mono HB0.out.size))
  have HO1 : Hid (Oth b W w1) := Lib.hid (Oth.on hb1)
  clear hb1 j0 j1 j2 j3 j4 j5 j6 j7
  go_wp2_with fail
  refine (pword_any _ b [] x false _ HG1.out (by simp <;> omega) HB1.out.size).mono ?_
  rintro r w2 ⟨rfl, hg2, hb2, ho2⟩
  obtain ⟨l2, hl2⟩ : ∃ l2, l2 = [] ++ sep false ++ x := ⟨_, rfl⟩
  rw [← hl2] at hg2
  have ql2 : l2.length ≤ 300 := by rw [hl2]; simp [sep] <;> omega
  have HG2 := Lib.hid hg2
  have HL2 := Lib.hid hl2
  have HB2 := Lib.hid (HB1.out.trans hb2)
  have HO2 := Lib.hid (Lib.OthersKept.trans HO1.out ho2)
  clear hg2 hl2 hb2 ho2
  go_wp2_with fail
  refine (pword_any _ b l2 [45, 62] true _ HG2.out (by simp <;> omega) HB2.out.size).mono ?_
  rintro r w3 ⟨rfl, hg3, hb3, ho3⟩
  obtain ⟨l3, hl3⟩ : ∃ l3, l3 = l2 ++ sep true ++ [45, 62] := ⟨_, rfl⟩
  rw [← hl3] at hg3
  have ql3 : l3.length ≤ 400 := by rw [hl3]; simp [sep] <;> omega
  have HG3 := Lib.hid hg3
  have HL3 := Lib.hid hl3
  have HB3 := Lib.hid (HB2.out.trans hb3)
  have HO3 := Lib.hid (Lib.OthersKept.trans HO2.out ho3)
  clear hg3 hl3 hb3 ho3
  have n1 : w.heap.size ≠ b := by omega
  have n2 : w.heap.size + 1 ≠ b := by omega
  have c0 := (B1.out.oth HO3.out n1 (by decide)).cell 0
  have d0 := (B2.out.oth HO3.out n2 (by decide)).cell 0
  have d1 := (B2.out.oth HO3.out n2 (by decide)).cell 1
  have d2 := (B2.out.oth HO3.out n2 (by decide)).cell 2
  have d3 := (B2.out.oth HO3.out n2 (by decide)).cell 3
  have d4 := (B2.out.oth HO3.out n2 (by decide)).cell 4
  clear n1 n2
  go_wp2_with fail
  clear c0 d0 d1 d2 d3 d4
  refine (pword_any _ b l3 [98, 105, 116, 115] true _ HG3.out (by simp <;> omega) HB3.out.size).mono ?_
  rintro r w4 ⟨rfl, hg4, hb4, ho4⟩
  obtain ⟨l4, hl4⟩ : ∃ l4, l4 = l3 ++ sep true ++ [98, 105, 116, 115] := ⟨_, rfl⟩
  rw [← hl4] at hg4
  have ql4 : l4.length ≤ 500 := by rw [hl4]; simp [sep] <;> omega
  have HG4 := Lib.hid hg4
  have HL4 := Lib.hid hl4
  have HB4 := Lib.hid (HB3.out.trans hb4)
  have HO4 := Lib.hid (Lib.OthersKept.trans HO3.out ho4)
  clear hg4 hl4 hb4 ho4
  have n1 : w.heap.size ≠ b := by omega
  have n2 : w.heap.size + 1 ≠ b := by omega
  have c0 := (B1.out.oth HO4.out n1 (by decide)).cell 0
  have d0 := (B2.out.oth HO4.out n2 (by decide)).cell 0
  have d1 := (B2.out.oth HO4.out n2 (by decide)).cell 1
  have d2 := (B2.out.oth HO4.out n2 (by decide)).cell 2
  have d3 := (B2.out.oth HO4.out n2 (by decide)).cell 3
  have d4 := (B2.out.oth HO4.out n2 (by decide)).cell 4
  clear n1 n2
  go_wp2_with fail
  clear c0 d0 d1 d2 d3 d4
  refine (pnum_any _ b l4 (bits : Int) (bits_wf hbits) true _ (HP0.out.on HB4.out) HG4.out (by omega) HB4.out.size).mono ?_
  rintro r w5 ⟨rfl, hg5, hb5, ho5⟩
  obtain ⟨l5, hl5⟩ : ∃ l5, l5 = l4 ++ sep true ++ Lib.itoa (bits : Int) := ⟨_, rfl⟩
  rw [← hl5] at hg5
  have ql5 : l5.length ≤ 600 := by rw [hl5]; simp [sep] <;> omega
  have HG5 := Lib.hid hg5
  have HL5 := Lib.hid hl5
  have HB5 := Lib.hid (HB4.out.trans hb5)
  have HO5 := Lib.hid (Lib.OthersKept.trans HO4.out ho5)
  clear hg5 hl5 hb5 ho5
  have n1 : w.heap.size ≠ b := by omega
  have n2 : w.heap.size + 1 ≠ b := by omega
  have c0 := (B1.out.oth HO5.out n1 (by decide)).cell 0
  have d0 := (B2.out.oth HO5.out n2 (by decide)).cell 0
  have d1 := (B2.out.oth HO5.out n2 (by decide)).cell 1
  have d2 := (B2.out.oth HO5.out n2 (by decide)).cell 2
  have d3 := (B2.out.oth HO5.out n2 (by decide)).cell 3
  have d4 := (B2.out.oth HO5.out n2 (by decide)).cell 4
  clear n1 n2
  go_wp2_with fail
  clear c0 d0 d1 d2 d3 d4
  refine (pend_any _ b l5 true _ HG5.out (by omega) HB5.out.size).mono ?_
  rintro r w6 ⟨rfl, hg6, hb6, ho6⟩
  obtain ⟨l6, hl6⟩ : ∃ l6, l6 = l5 ++ [10] := ⟨_, rfl⟩
  rw [← hl6] at hg6
  have ql6 : l6.length ≤ 800 := by rw [hl6]; simp [sep] <;> omega
  have HG6 := Lib.hid hg6
  have HL6 := Lib.hid hl6
  have HB6 := Lib.hid (HB5.out.trans hb6)
  have HO6 := Lib.hid (Lib.OthersKept.trans HO5.out ho6)
  clear hg6 hl6 hb6 ho6
  go_wp2_with fail
  go_end0
  refine ⟨rfl, ?_, HB6.out⟩
  have heq : (⟨25, sf, sa, sb, sc, sv, skk, so⟩ : Stp).text ++ ([32, 45, 62, 32] ++ [98, 105, 116, 115] ++ 32 :: Lib.itoa (bits : Int) ++ [10]) = l6 := by
    rw [← HXE.out, HL6.out, HL5.out, HL4.out, HL3.out, HL2.out]
    simp [sep]
  have hfin : IsPage w0.heap.size b (Lib.byteCells ((⟨25, sf, sa, sb, sc, sv, skk, so⟩ : Stp).text ++ ([32, 45, 62, 32] ++ [98, 105, 116, 115] ++ 32 :: Lib.itoa (bits : Int) ++ [10]))) false w6 := by
    rw [heq]
    exact HG6.out
  simpa using hfin
set_option maxRecDepth 100000 in
set_option maxHeartbeats 16000000 in
theorem told_17 (b e : Nat) (sf sa sb sc sv skk : Int) (so : Bool) (h n : Int) (bits : Nat) (yes : Bool) (hs : (⟨17, sf, sa, sb, sc, sv, skk, so⟩ : Stp).Wf) (he : e ≤ 255) (hh : (Lit.int .i64 h).wf = true) (hn : (Lit.int .i64 n).wf = true) (hbits : bits ≤ 65535)
     (w0 w : World) (hP : Pow w0) (hA : Asc w0) (hb : Below w0.heap.size w0 w) (hg : IsPage w0.heap.size b (Lib.byteCells []) false w) :
    Calls Tryz.prog 9 #[.pointer (some ⟨b, 0, none⟩), .agg #[.int .u8 17, .int .u8 sf, .int .i64 sa, .int .i64 sb, .int .i64 sc, .int .i64 sv, .int .u16 skk, .bool so], .agg #[.int .u8 0, .int .i64 h, .int .i64 n, .int .u16 (bits : Nat), .bool yes]] w fun x w' => x = .returned (.tuple #[]) ∧ (IsPage w0.heap.size b (Lib.byteCells ((⟨17, sf, sa, sb, sc, sv, skk, so⟩ : Stp).text ++ ([32, 45, 62, 32] ++ [111, 107] ++ [10]))) false w' ∧ Below w0.heap.size w0 w') := by
  obtain ⟨W, hW⟩ : ∃ W, W = (w.alloc (.cells #[.int .u8 17, .int .u8 sf, .int .i64 sa, .int .i64 sb, .int .i64 sc, .int .i64 sv, .int .u16 skk, .bool so] 26)).alloc (.cells #[.int .u8 0, .int .i64 h, .int .i64 n, .int .u16 (bits : Nat), .bool yes] 30) := ⟨_, rfl⟩
  have hbW : Below w.heap.size w W := by rw [hW]; exact ((Below.refl _ _).alloc (Nat.le_refl _) _).alloc (by simp) _
  have b1 : Blk W w.heap.size 26 #[.int .u8 17, .int .u8 sf, .int .i64 sa, .int .i64 sb, .int .i64 sc, .int .i64 sv, .int .u16 skk, .bool so] := by rw [hW]; exact (Blk.new w _ _).alloc _
  have b2 : Blk W (w.heap.size + 1) 30 #[.int .u8 0, .int .i64 h, .int .i64 n, .int .u16 (bits : Nat), .bool yes] := by
    rw [hW]
    have := Blk.new (w.alloc (.cells #[.int .u8 17, .int .u8 sf, .int .i64 sa, .int .i64 sb, .int .i64 sc, .int .i64 sv, .int .u16 skk, .bool so] 26)) 30 #[.int .u8 0, .int .i64 h, .int .i64 n, .int .u16 (bits : Nat), .bool yes]
    rwa [World.size_alloc] at this
  have hbl := hg.lt
  have hBB := hg.ge
  have HX := Lib.hid (fun W' hP hA => stext_any ⟨17, sf, sa, sb, sc, sv, skk, so⟩ hs W' hP hA)
  have hxl := text_len _ hs
  obtain ⟨x, hx⟩ : ∃ x, x = (⟨17, sf, sa, sb, sc, sv, skk, so⟩ : Stp).text := ⟨_, rfl⟩
  rw [← hx] at HX hxl
  have HXE := Lib.hid hx
  simp only [Stp.cells] at HX
  unfold txt at HX
  have HG0 := Lib.hid (hg.on hbW)
  have HB0 := Lib.hid (hb.trans (hbW.mono hb.size))
  have HP0 := Lib.hid hP
  have HA0 := Lib.hid hA
  have B1 := Lib.hid b1
  have B2 := Lib.hid b2
  have HWW := Lib.hid hW
  have HHH := Lib.hid (And.intro hh hn)
  have HWS : Hid (Below w.heap.size w W) := Lib.hid hbW
  have qh := itoa_len h hh
  have qn := itoa_len n hn
  have qb := itoa_len (bits : Int) (bits_wf hbits)
  clear hbW b1 b2 hx hg hP hA hh hn hb
  go_enter Tryz.func9, Tryz.ntmps9
  go_wp2_with fail
  rw [← HWW.out]
  clear hW
  have j0 := B1.out.cell 0
  have j1 := B1.out.cell 1
  have j2 := B1.out.cell 2
  have j3 := B1.out.cell 3
  have j4 := B1.out.cell 4
  have j5 := B1.out.cell 5
  have j6 := B1.out.cell 6
  have j7 := B1.out.cell 7
  go_wp2_with fail
  refine (HX.out _ (HP0.out.on HB0.out) (HA0.out.on HB0.out)).mono ?_
  rintro r w1 ⟨rfl, hb1⟩
  have HG1 := Lib.hid (HG0.out.on hb1)
  have HB1 := Lib.hid (HB0.out.trans (hb1.mono HB0.out.size))
  have HO1 : Hid (Oth b W w1) := Lib.hid (Oth.on hb1)
  clear hb1 j0 j1 j2 j3 j4 j5 j6 j7
  go_wp2_with fail
  refine (pword_any _ b [] x false _ HG1.out (by simp <;> omega) HB1.out.size).mono ?_
  rintro r w2 ⟨rfl, hg2, hb2, ho2⟩
  obtain ⟨l2, hl2⟩ : ∃ l2, l2 = [] ++ sep false ++ x := ⟨_, rfl⟩
  rw [← hl2] at hg2
  have ql2 : l2.length ≤ 300 := by rw [hl2]; simp [sep] <;> omega
  have HG2 := Lib.hid hg2
  have HL2 := Lib.hid hl2
  have HB2 := Lib.hid (HB1.out.trans hb2)
  have HO2 := Lib.hid (Lib.OthersKept.trans HO1.out ho2)
  clear hg2 hl2 hb2 ho2
  go_wp2_with fail
  refine (pword_any _ b l2 [45, 62] true _ HG2.out (by simp <;> omega) HB2.out.size).mono ?_
  rintro r w3 ⟨rfl, hg3, hb3, ho3⟩
  obtain ⟨l3, hl3⟩ : ∃ l3, l3 = l2 ++ sep true ++ [45, 62] := ⟨_, rfl⟩
  rw [← hl3] at hg3
  have ql3 : l3.length ≤ 400 := by rw [hl3]; simp [sep] <;> omega
  have HG3 := Lib.hid hg3
  have HL3 := Lib.hid hl3
  have HB3 := Lib.hid (HB2.out.trans hb3)
  have HO3 := Lib.hid (Lib.OthersKept.trans HO2.out ho3)
  clear hg3 hl3 hb3 ho3
  have n1 : w.heap.size ≠ b := by omega
  have n2 : w.heap.size + 1 ≠ b := by omega
  have c0 := (B1.out.oth HO3.out n1 (by decide)).cell 0
  have d0 := (B2.out.oth HO3.out n2 (by decide)).cell 0
  have d1 := (B2.out.oth HO3.out n2 (by decide)).cell 1
  have d2 := (B2.out.oth HO3.out n2 (by decide)).cell 2
  have d3 := (B2.out.oth HO3.out n2 (by decide)).cell 3
  have d4 := (B2.out.oth HO3.out n2 (by decide)).cell 4
  clear n1 n2
  go_wp2_with fail
  clear c0 d0 d1 d2 d3 d4
  refine (pword_any _ b l3 [111, 107] true _ HG3.out (by simp <;> omega) HB3.out.size).mono ?_
  rintro r w4 ⟨rfl, hg4, hb4, ho4⟩
  obtain ⟨l4, hl4⟩ : ∃ l4, l4 = l3 ++ sep true ++ [111, 107] := ⟨_, rfl⟩
  rw [← hl4] at hg4
  have ql4 : l4.length ≤ 500 := by rw [hl4]; simp [sep] <;> omega
  have HG4 := Lib.hid hg4
  have HL4 := Lib.hid hl4
  have HB4 := Lib.hid (HB3.out.trans hb4)
  have HO4 := Lib.hid (Lib.OthersKept.trans HO3.out ho4)
  clear hg4 hl4 hb4 ho4
  have n1 : w.heap.size ≠ b := by omega
  have n2 : w.heap.size + 1 ≠ b := by omega
  have c0 := (B1.out.oth HO4.out n1 (by decide)).cell 0
  have d0 := (B2.out.oth HO4.out n2 (by decide)).cell 0
  have d1 := (B2.out.oth HO4.out n2 (by decide)).cell 1
  have d2 := (B2.out.oth HO4.out n2 (by decide)).cell 2
  have d3 := (B2.out.oth HO4.out n2 (by decide)).cell 3
  have d4 := (B2.out.oth HO4.out n2 (by decide)).cell 4
  clear n1 n2
  go_wp2_with fail
  clear c0 d0 d1 d2 d3 d4
  refine (pend_any _ b l4 true _ HG4.out (by omega) HB4.out.size).mono ?_
  rintro r w5 ⟨rfl, hg5, hb5, ho5⟩
  obtain ⟨l5, hl5⟩ : ∃ l5, l5 = l4 ++ [10] := ⟨_, rfl⟩
  rw [← hl5] at hg5
  have ql5 : l5.length ≤ 700 := by rw [hl5]; simp [sep] <;> omega
  have HG5 := Lib.hid hg5
  have HL5 := Lib.hid hl5
  have HB5 := Lib.hid (HB4.out.trans hb5)
  have HO5 := Lib.hid (Lib.OthersKept.trans HO4.out ho5)
  clear hg5 hl5 hb5 ho5
  go_wp2_with fail
  go_end0
  refine ⟨rfl, ?_, HB5.out⟩
  have heq : (⟨17, sf, sa, sb, sc, sv, skk, so⟩ : Stp).text ++ ([32, 45, 62, 32] ++ [111, 107] ++ [10]) = l5 := by
    rw [← HXE.out, HL5.out, HL4.out, HL3.out, HL2.out]
    simp [sep]
  have hfin : IsPage w0.heap.size b (Lib.byteCells ((⟨17, sf, sa, sb, sc, sv, skk, so⟩ : Stp).text ++ ([32, 45, 62, 32] ++ [111, 107] ++ [10]))) false w5 := by
    rw [heq]
    exact HG5.out
  simpa using hfin
set_option maxRecDepth 100000 in
set_option maxHeartbeats 16000000 in
theorem told_21 (b e : Nat) (sf sa sb sc sv skk : Int) (so : Bool) (h n : Int) (bits : Nat) (yes : Bool) (hs : (⟨21, sf, sa, sb, sc, sv, skk, so⟩ : Stp).Wf) (he : e ≤ 255) (hh : (Lit.int .i64 h).wf = true) (hn : (Lit.int .i64 n).wf = true) (hbits : bits ≤ 65535)
     (w0 w : World) (hP : Pow w0) (hA : Asc w0) (hb : Below w0.heap.size w0 w) (hg : IsPage w0.heap.size b (Lib.byteCells []) false w) :
    Calls Tryz.prog 9 #[.pointer (some ⟨b, 0, none⟩), .agg #[.int .u8 21, .int .u8 sf, .int .i64 sa, .int .i64 sb, .int .i64 sc, .int .i64 sv, .int .u16 skk, .bool so], .agg #[.int .u8 0, .int .i64 h, .int .i64 n, .int .u16 (bits : Nat), .bool yes]] w fun x w' => x = .returned (.tuple #[]) ∧ (IsPage w0.heap.size b (Lib.byteCells ((⟨21, sf, sa, sb, sc, sv, skk, so⟩ : Stp).text ++ ([32, 45, 62, 32] ++ [111, 107] ++ [10]))) false w' ∧ Below w0.heap.size w0 w') := by
  obtain ⟨W, hW⟩ : ∃ W, W = (w.alloc (.cells #[.int .u8 21, .int .u8 sf, .int .i64 sa, .int .i64 sb, .int .i64 sc, .int .i64 sv, .int .u16 skk, .bool so] 26)).alloc (.cells #[.int .u8 0, .int .i64 h, .int .i64 n, .int .u16 (bits : Nat), .bool yes] 30) := ⟨_, rfl⟩
  have hbW : Below w.heap.size w W := by rw [hW]; exact ((Below.refl _ _).alloc (Nat.le_refl _) _).alloc (by simp) _
  have b1 : Blk W w.heap.size 26 #[.int .u8 21, .int .u8 sf, .int .i64 sa, .int .i64 sb, .int .i64 sc, .int .i64 sv, .int .u16 skk, .bool so] := by rw [hW]; exact (Blk.new w _ _).alloc _
  have b2 : Blk W (w.heap.size + 1) 30 #[.int .u8 0, .int .i64 h, .int .i64 n, .int .u16 (bits : Nat), .bool yes] := by
    rw [hW]
    have := Blk.new (w.alloc (.cells #[.int .u8 21, .int .u8 sf, .int .i64 sa, .int .i64 sb, .int .i64 sc, .int .i64 sv, .int .u16 skk, .bool so] 26)) 30 #[.int .u8 0, .int .i64 h, .int .i64 n, .int .u16 (bits : Nat), .bool yes]
    rwa [World.size_alloc] at this
  have hbl := hg.lt
  have hBB := hg.ge
  have HX := Lib.hid (fun W' hP hA => stext_any ⟨21, sf, sa, sb, sc, sv, skk, so⟩ hs W' hP hA)
  have hxl := text_len _ hs
  obtain ⟨x, hx⟩ : ∃ x, x = (⟨21, sf, sa, sb, sc, sv, skk, so⟩ : Stp).text := ⟨_, rfl⟩
  rw [← hx] at HX hxl
  have HXE := Lib.hid hx
  simp only [Stp.cells] at HX
  unfold txt at HX
  have HG0 := Lib.hid (hg.on hbW)
  have HB0 := Lib.hid (hb.trans (hbW.mono hb.size))
  have HP0 := Lib.hid hP
  have HA0 := Lib.hid hA
  have B1 := Lib.hid b1
  have B2 := Lib.hid b2
  have HWW := Lib.hid hW
  have HHH := Lib.hid (And.intro hh hn)
  have HWS : Hid (Below w.heap.size w W) := Lib.hid hbW
  have qh := itoa_len h hh
  have qn := itoa_len n hn
  have qb := itoa_len (bits : Int) (bits_wf hbits)
  clear hbW b1 b2 hx hg hP hA hh hn hb
  go_enter Tryz.func9, Tryz.ntmps9
  go_wp2_with fail
  rw [← HWW.out]
  clear hW
  have j0 := B1.out.cell 0
  have j1 := B1.out.cell 1
  have j2 := B1.out.cell 2
  have j3 := B1.out.cell 3
  have j4 := B1.out.cell 4
  have j5 := B1.out.cell 5
  have j6 := B1.out.cell 6
  have j7 := B1.out.cell 7
  go_wp2_with fail
  refine (HX.out _ (HP0.out.on HB0.out) (HA0.out.on HB0.out)).mono ?_
  rintro r w1 ⟨rfl, hb1⟩
  have HG1 := Lib.hid (HG0.out.on hb1)
  have HB1 := Lib.hid (HB0.out.trans (hb1.mono HB0.out.size))
  have HO1 : Hid (Oth b W w1) := Lib.hid (Oth.on hb1)
  clear hb1 j0 j1 j2 j3 j4 j5 j6 j7
  go_wp2_with fail
  refine (pword_any _ b [] x false _ HG1.out (by simp <;> omega) HB1.out.size).mono ?_
  rintro r w2 ⟨rfl, hg2, hb2, ho2⟩
  obtain ⟨l2, hl2⟩ : ∃ l2, l2 = [] ++ sep false ++ x := ⟨_, rfl⟩
  rw [← hl2] at hg2
  have ql2 : l2.length ≤ 300 := by rw [hl2]; simp [sep] <;> omega
  have HG2 := Lib.hid hg2
  have HL2 := Lib.hid hl2
  have HB2 := Lib.hid (HB1.out.trans hb2)
  have HO2 := Lib.hid (Lib.OthersKept.trans HO1.out ho2)
  clear hg2 hl2 hb2 ho2
  go_wp2_with fail
  refine (pword_any _ b l2 [45, 62] true _ HG2.out (by simp <;> omega) HB2.out.size).mono ?_
  rintro r w3 ⟨rfl, hg3, hb3, ho3⟩
  obtain ⟨l3, hl3⟩ : ∃ l3, l3 = l2 ++ sep true ++ [45, 62] := ⟨_, rfl⟩
  rw [← hl3] at hg3
  have ql3 : l3.length ≤ 400 := by rw [hl3]; simp [sep] <;> omega
  have HG3 := Lib.hid hg3
  have HL3 := Lib.hid hl3
  have HB3 := Lib.hid (HB2.out.trans hb3)
  have HO3 := Lib.hid (Lib.OthersKept.trans HO2.out ho3)
  clear hg3 hl3 hb3 ho3
  have n1 : w.heap.size ≠ b := by omega
  have n2 : w.heap.size + 1 ≠ b := by omega
  have c0 := (B1.out.oth HO3.out n1 (by decide)).cell 0
  have d0 := (B2.out.oth HO3.out n2 (by decide)).cell 0
  have d1 := (B2.out.oth HO3.out n2 (by decide)).cell 1
  have d2 := (B2.out.oth HO3.out n2 (by decide)).cell 2
  have d3 := (B2.out.oth HO3.out n2 (by decide)).cell 3
  have d4 := (B2.out.oth HO3.out n2 (by decide)).cell 4
  clear n1 n2
  go_wp2_with fail
  clear c0 d0 d1 d2 d3 d4
  refine (pword_any _ b l3 [111, 107] true _ HG3.out (by simp <;> omega) HB3.out.size).mono ?_
  rintro r w4 ⟨rfl, hg4, hb4, ho4⟩
  obtain ⟨l4, hl4⟩ : ∃ l4, l4 = l3 ++ sep true ++ [111, 107] := ⟨_, rfl⟩
  rw [← hl4] at hg4
  have ql4 : l4.length ≤ 500 := by rw [hl4]; simp [sep] <;> omega
  have HG4 := Lib.hid hg4
  have HL4 := Lib.hid hl4
  have HB4 := Lib.hid (HB3.out.trans hb4)
  have HO4 := Lib.hid (Lib.OthersKept.trans HO3.out ho4)
  clear hg4 hl4 hb4 ho4
  have n1 : w.heap.size ≠ b := by omega
  have n2 : w.heap.size + 1 ≠ b := by omega
  have c0 := (B1.out.oth HO4.out n1 (by decide)).cell 0
  have d0 := (B2.out.oth HO4.out n2 (by decide)).cell 0
  have d1 := (B2.out.oth HO4.out n2 (by decide)).cell 1
  have d2 := (B2.out.oth HO4.out n2 (by decide)).cell 2
  have d3 := (B2.out.oth HO4.out n2 (by decide)).cell 3
  have d4 := (B2.out.oth HO4.out n2 (by decide)).cell 4
  clear n1 n2
  go_wp2_with fail
  clear c0 d0 d1 d2 d3 d4
  refine (pend_any _ b l4 true _ HG4.out (by omega) HB4.out.size).mono ?_
  rintro r w5 ⟨rfl, hg5, hb5, ho5⟩
  obtain ⟨l5, hl5⟩ : ∃ l5, l5 = l4 ++ [10] := ⟨_, rfl⟩
  rw [← hl5] at hg5
  have ql5 : l5.length ≤ 700 := by rw [hl5]; simp [sep] <;> omega
  have HG5 := Lib.hid hg5
  have HL5 := Lib.hid hl5
  have HB5 := Lib.hid (HB4.out.trans hb5)
  have HO5 := Lib.hid (Lib.OthersKept.trans HO4.out ho5)
  clear hg5 hl5 hb5 ho5
  go_wp2_with fail
  go_end0
  refine ⟨rfl, ?_, HB5.out⟩
  have heq : (⟨21, sf, sa, sb, sc, sv, skk, so⟩ : Stp).text ++ ([32, 45, 62, 32] ++ [111, 107] ++ [10]) = l5 := by
    rw [← HXE.out, HL5.out, HL4.out, HL3.out, HL2.out]
    simp [sep]
  have hfin : IsPage w0.heap.size b (Lib.byteCells ((⟨21, sf, sa, sb, sc, sv, skk, so⟩ : Stp).text ++ ([32, 45, 62, 32] ++ [111, 107] ++ [10]))) false w5 := by
    rw [heq]
    exact HG5.out
  simpa using hfin
end Go.Proofs.YtnlhibhamechcaaGreatDoor
