/- The line of a step, the document's: e. -/
import Derived.Test.YtnlhibhamechcaaGreatDoorRpTold
import Derived.Test.YtnlhibhamechcaaGreatDoorRfNum
namespace Go.Proofs.YtnlhibhamechcaaGreatDoor
open Go Go.RowKit
set_option linter.unusedSimpArgs false
set_option linter.unusedVariables false

set_option maxRecDepth 100000 in
set_option maxHeartbeats 16000000 in
theorem rtold_e1 (kn e : Nat) (sf sa sb sc sv skk : Int) (so : Bool) (h n : Int) (bits : Nat) (yes : Bool) (hs : (⟨kn, sf, sa, sb, sc, sv, skk, so⟩ : Stp).Wf) (hh : (Lit.int .i64 h).wf = true) (hn : (Lit.int .i64 n).wf = true) (hbits : bits ≤ 65535)  (w : World) :
    Calls Tryz.prog 6 #[.agg #[.int .u8 (kn : Nat), .int .u8 sf, .int .i64 sa, .int .i64 sb, .int .i64 sc, .int .i64 sv, .int .u16 skk, .bool so], .agg #[.int .i64 1, .int .i64 h, .int .i64 n, .int .i64 (bits : Nat), .bool yes]] w fun x w' => x = .returned (txt (toldT (⟨kn, sf, sa, sb, sc, sv, skk, so⟩ : Stp).text kn 1 h n bits yes)) ∧ Below w.heap.size w w' := by
  obtain ⟨W, hW⟩ : ∃ W, W = ((w.alloc (.cells #[.int .u8 (kn : Nat), .int .u8 sf, .int .i64 sa, .int .i64 sb, .int .i64 sc, .int .i64 sv, .int .u16 skk, .bool so] 24)).alloc (.cells #[.int .i64 1, .int .i64 h, .int .i64 n, .int .i64 (bits : Nat), .bool yes] 33)).alloc (.cells #[.string { data := #[111, 107] }, .string { data := #[97, 114, 103] }, .string { data := #[110, 105, 108] }, .string { data := #[118, 97, 114] }, .string { data := #[115, 104, 97, 112, 101] }, .string { data := #[104, 97, 110, 100, 108, 101] }, .string { data := #[102, 117, 108, 108] }, .string { data := #[98, 121, 116, 101, 115] }, .string { data := #[111, 114, 100, 101, 114] }, .string { data := #[114, 111, 111, 109] }, .string { data := #[116, 101, 120, 116] }, .string { data := #[110, 111, 110, 101] }, .string { data := #[108, 97, 114, 103, 101] }] 9) := ⟨_, rfl⟩
  have hbW : Below w.heap.size w W := by rw [hW]; exact (((Below.refl _ _).alloc (Nat.le_refl _) _).alloc (by simp) _).alloc (by simp; omega) _
  have b1 : Blk W w.heap.size 24 #[.int .u8 (kn : Nat), .int .u8 sf, .int .i64 sa, .int .i64 sb, .int .i64 sc, .int .i64 sv, .int .u16 skk, .bool so] := by rw [hW]; exact ((Blk.new w _ _).alloc _).alloc _
  have b2 : Blk W (w.heap.size + 1) 33 #[.int .i64 1, .int .i64 h, .int .i64 n, .int .i64 (bits : Nat), .bool yes] := by
    rw [hW]
    have := (Blk.new (w.alloc (.cells #[.int .u8 (kn : Nat), .int .u8 sf, .int .i64 sa, .int .i64 sb, .int .i64 sc, .int .i64 sv, .int .u16 skk, .bool so] 24)) 33 #[.int .i64 1, .int .i64 h, .int .i64 n, .int .i64 (bits : Nat), .bool yes]).alloc (.cells #[.string { data := #[111, 107] }, .string { data := #[97, 114, 103] }, .string { data := #[110, 105, 108] }, .string { data := #[118, 97, 114] }, .string { data := #[115, 104, 97, 112, 101] }, .string { data := #[104, 97, 110, 100, 108, 101] }, .string { data := #[102, 117, 108, 108] }, .string { data := #[98, 121, 116, 101, 115] }, .string { data := #[111, 114, 100, 101, 114] }, .string { data := #[114, 111, 111, 109] }, .string { data := #[116, 101, 120, 116] }, .string { data := #[110, 111, 110, 101] }, .string { data := #[108, 97, 114, 103, 101] }] 9)
    rwa [World.size_alloc] at this
  have b3 : Blk W (w.heap.size + 1 + 1) 9 #[.string { data := #[111, 107] }, .string { data := #[97, 114, 103] }, .string { data := #[110, 105, 108] }, .string { data := #[118, 97, 114] }, .string { data := #[115, 104, 97, 112, 101] }, .string { data := #[104, 97, 110, 100, 108, 101] }, .string { data := #[102, 117, 108, 108] }, .string { data := #[98, 121, 116, 101, 115] }, .string { data := #[111, 114, 100, 101, 114] }, .string { data := #[114, 111, 111, 109] }, .string { data := #[116, 101, 120, 116] }, .string { data := #[110, 111, 110, 101] }, .string { data := #[108, 97, 114, 103, 101] }] := by
    rw [hW]
    have := Blk.new ((w.alloc (.cells #[.int .u8 (kn : Nat), .int .u8 sf, .int .i64 sa, .int .i64 sb, .int .i64 sc, .int .i64 sv, .int .u16 skk, .bool so] 24)).alloc (.cells #[.int .i64 1, .int .i64 h, .int .i64 n, .int .i64 (bits : Nat), .bool yes] 33)) 9 #[.string { data := #[111, 107] }, .string { data := #[97, 114, 103] }, .string { data := #[110, 105, 108] }, .string { data := #[118, 97, 114] }, .string { data := #[115, 104, 97, 112, 101] }, .string { data := #[104, 97, 110, 100, 108, 101] }, .string { data := #[102, 117, 108, 108] }, .string { data := #[98, 121, 116, 101, 115] }, .string { data := #[111, 114, 100, 101, 114] }, .string { data := #[114, 111, 111, 109] }, .string { data := #[116, 101, 120, 116] }, .string { data := #[110, 111, 110, 101] }, .string { data := #[108, 97, 114, 103, 101] }]
    rwa [World.size_alloc, World.size_alloc] at this
  have HX := Lib.hid (rtext_any (⟨kn, sf, sa, sb, sc, sv, skk, so⟩ : Stp) hs W)
  have hxl := text_len _ hs
  obtain ⟨hk8, _⟩ := hs
  simp only at hk8
  unfold toldT
  obtain ⟨x, hx⟩ : ∃ x, x = (⟨kn, sf, sa, sb, sc, sv, skk, so⟩ : Stp).text := ⟨_, rfl⟩
  rw [← hx] at HX hxl ⊢
  simp only [Stp.cells] at HX
  have HH := Lib.hid (rnum_any h hh)
  have HN := Lib.hid (rnum_any n hn)
  have HB := Lib.hid (rnum_any (bits : Int) (bits_wf hbits))
  have qh := itoa_len h hh
  have qn := itoa_len n hn
  have qb := itoa_len (bits : Int) (bits_wf hbits)
  have HWT : Hid (wordsT kn 1 h n bits yes = [97, 114, 103]) := Lib.hid (by unfold wordsT; rw [if_pos (by omega)]; rfl)
  generalize Lib.itoa h = xh at *
  generalize Lib.itoa n = xn at *
  generalize Lib.itoa (bits : Int) = xb at *
  unfold txt at *
  have HWW := Lib.hid hW
  have HbW := Lib.hid hbW
  have B1 := Lib.hid b1
  have B2 := Lib.hid b2
  have B3 := Lib.hid b3
  rw [HWT.out]
  clear hx hh hn hbits hbW b1 b2 b3 HWT
  cases yes
  all_goals
    go_enter Tryz.func6, Tryz.ntmps6
    go_wp2_with fail
    rw [← HWW.out]
    refine HX.out.mono ?_
    rintro r w1 ⟨rfl, hb1⟩
    have c0 := (B1.out.onB hb1).cell 0
    have d0 := (B2.out.onB hb1).cell 0
    have d1 := (B2.out.onB hb1).cell 1
    have d2 := (B2.out.onB hb1).cell 2
    have d3 := (B2.out.onB hb1).cell 3
    have d4 := (B2.out.onB hb1).cell 4
    have e0 := (B3.out.onB hb1).cell 1
    have HB1 := Lib.hid (HbW.out.trans (hb1.mono HbW.out.size))
    clear hb1
    go_wp2_with fail
    go_ret
    refine ⟨?_, HB1.out⟩
    show Ending.returned (.string _) = .returned (.string _)
    congr 2
    apply ByteArray.ext
    simp [ByteArray.data_append]
set_option maxRecDepth 100000 in
set_option maxHeartbeats 16000000 in
theorem rtold_e2 (kn e : Nat) (sf sa sb sc sv skk : Int) (so : Bool) (h n : Int) (bits : Nat) (yes : Bool) (hs : (⟨kn, sf, sa, sb, sc, sv, skk, so⟩ : Stp).Wf) (hh : (Lit.int .i64 h).wf = true) (hn : (Lit.int .i64 n).wf = true) (hbits : bits ≤ 65535)  (w : World) :
    Calls Tryz.prog 6 #[.agg #[.int .u8 (kn : Nat), .int .u8 sf, .int .i64 sa, .int .i64 sb, .int .i64 sc, .int .i64 sv, .int .u16 skk, .bool so], .agg #[.int .i64 2, .int .i64 h, .int .i64 n, .int .i64 (bits : Nat), .bool yes]] w fun x w' => x = .returned (txt (toldT (⟨kn, sf, sa, sb, sc, sv, skk, so⟩ : Stp).text kn 2 h n bits yes)) ∧ Below w.heap.size w w' := by
  obtain ⟨W, hW⟩ : ∃ W, W = ((w.alloc (.cells #[.int .u8 (kn : Nat), .int .u8 sf, .int .i64 sa, .int .i64 sb, .int .i64 sc, .int .i64 sv, .int .u16 skk, .bool so] 24)).alloc (.cells #[.int .i64 2, .int .i64 h, .int .i64 n, .int .i64 (bits : Nat), .bool yes] 33)).alloc (.cells #[.string { data := #[111, 107] }, .string { data := #[97, 114, 103] }, .string { data := #[110, 105, 108] }, .string { data := #[118, 97, 114] }, .string { data := #[115, 104, 97, 112, 101] }, .string { data := #[104, 97, 110, 100, 108, 101] }, .string { data := #[102, 117, 108, 108] }, .string { data := #[98, 121, 116, 101, 115] }, .string { data := #[111, 114, 100, 101, 114] }, .string { data := #[114, 111, 111, 109] }, .string { data := #[116, 101, 120, 116] }, .string { data := #[110, 111, 110, 101] }, .string { data := #[108, 97, 114, 103, 101] }] 9) := ⟨_, rfl⟩
  have hbW : Below w.heap.size w W := by rw [hW]; exact (((Below.refl _ _).alloc (Nat.le_refl _) _).alloc (by simp) _).alloc (by simp; omega) _
  have b1 : Blk W w.heap.size 24 #[.int .u8 (kn : Nat), .int .u8 sf, .int .i64 sa, .int .i64 sb, .int .i64 sc, .int .i64 sv, .int .u16 skk, .bool so] := by rw [hW]; exact ((Blk.new w _ _).alloc _).alloc _
  have b2 : Blk W (w.heap.size + 1) 33 #[.int .i64 2, .int .i64 h, .int .i64 n, .int .i64 (bits : Nat), .bool yes] := by
    rw [hW]
    have := (Blk.new (w.alloc (.cells #[.int .u8 (kn : Nat), .int .u8 sf, .int .i64 sa, .int .i64 sb, .int .i64 sc, .int .i64 sv, .int .u16 skk, .bool so] 24)) 33 #[.int .i64 2, .int .i64 h, .int .i64 n, .int .i64 (bits : Nat), .bool yes]).alloc (.cells #[.string { data := #[111, 107] }, .string { data := #[97, 114, 103] }, .string { data := #[110, 105, 108] }, .string { data := #[118, 97, 114] }, .string { data := #[115, 104, 97, 112, 101] }, .string { data := #[104, 97, 110, 100, 108, 101] }, .string { data := #[102, 117, 108, 108] }, .string { data := #[98, 121, 116, 101, 115] }, .string { data := #[111, 114, 100, 101, 114] }, .string { data := #[114, 111, 111, 109] }, .string { data := #[116, 101, 120, 116] }, .string { data := #[110, 111, 110, 101] }, .string { data := #[108, 97, 114, 103, 101] }] 9)
    rwa [World.size_alloc] at this
  have b3 : Blk W (w.heap.size + 1 + 1) 9 #[.string { data := #[111, 107] }, .string { data := #[97, 114, 103] }, .string { data := #[110, 105, 108] }, .string { data := #[118, 97, 114] }, .string { data := #[115, 104, 97, 112, 101] }, .string { data := #[104, 97, 110, 100, 108, 101] }, .string { data := #[102, 117, 108, 108] }, .string { data := #[98, 121, 116, 101, 115] }, .string { data := #[111, 114, 100, 101, 114] }, .string { data := #[114, 111, 111, 109] }, .string { data := #[116, 101, 120, 116] }, .string { data := #[110, 111, 110, 101] }, .string { data := #[108, 97, 114, 103, 101] }] := by
    rw [hW]
    have := Blk.new ((w.alloc (.cells #[.int .u8 (kn : Nat), .int .u8 sf, .int .i64 sa, .int .i64 sb, .int .i64 sc, .int .i64 sv, .int .u16 skk, .bool so] 24)).alloc (.cells #[.int .i64 2, .int .i64 h, .int .i64 n, .int .i64 (bits : Nat), .bool yes] 33)) 9 #[.string { data := #[111, 107] }, .string { data := #[97, 114, 103] }, .string { data := #[110, 105, 108] }, .string { data := #[118, 97, 114] }, .string { data := #[115, 104, 97, 112, 101] }, .string { data := #[104, 97, 110, 100, 108, 101] }, .string { data := #[102, 117, 108, 108] }, .string { data := #[98, 121, 116, 101, 115] }, .string { data := #[111, 114, 100, 101, 114] }, .string { data := #[114, 111, 111, 109] }, .string { data := #[116, 101, 120, 116] }, .string { data := #[110, 111, 110, 101] }, .string { data := #[108, 97, 114, 103, 101] }]
    rwa [World.size_alloc, World.size_alloc] at this
  have HX := Lib.hid (rtext_any (⟨kn, sf, sa, sb, sc, sv, skk, so⟩ : Stp) hs W)
  have hxl := text_len _ hs
  obtain ⟨hk8, _⟩ := hs
  simp only at hk8
  unfold toldT
  obtain ⟨x, hx⟩ : ∃ x, x = (⟨kn, sf, sa, sb, sc, sv, skk, so⟩ : Stp).text := ⟨_, rfl⟩
  rw [← hx] at HX hxl ⊢
  simp only [Stp.cells] at HX
  have HH := Lib.hid (rnum_any h hh)
  have HN := Lib.hid (rnum_any n hn)
  have HB := Lib.hid (rnum_any (bits : Int) (bits_wf hbits))
  have qh := itoa_len h hh
  have qn := itoa_len n hn
  have qb := itoa_len (bits : Int) (bits_wf hbits)
  have HWT : Hid (wordsT kn 2 h n bits yes = [110, 105, 108]) := Lib.hid (by unfold wordsT; rw [if_pos (by omega)]; rfl)
  generalize Lib.itoa h = xh at *
  generalize Lib.itoa n = xn at *
  generalize Lib.itoa (bits : Int) = xb at *
  unfold txt at *
  have HWW := Lib.hid hW
  have HbW := Lib.hid hbW
  have B1 := Lib.hid b1
  have B2 := Lib.hid b2
  have B3 := Lib.hid b3
  rw [HWT.out]
  clear hx hh hn hbits hbW b1 b2 b3 HWT
  cases yes
  all_goals
    go_enter Tryz.func6, Tryz.ntmps6
    go_wp2_with fail
    rw [← HWW.out]
    refine HX.out.mono ?_
    rintro r w1 ⟨rfl, hb1⟩
    have c0 := (B1.out.onB hb1).cell 0
    have d0 := (B2.out.onB hb1).cell 0
    have d1 := (B2.out.onB hb1).cell 1
    have d2 := (B2.out.onB hb1).cell 2
    have d3 := (B2.out.onB hb1).cell 3
    have d4 := (B2.out.onB hb1).cell 4
    have e0 := (B3.out.onB hb1).cell 2
    have HB1 := Lib.hid (HbW.out.trans (hb1.mono HbW.out.size))
    clear hb1
    go_wp2_with fail
    go_ret
    refine ⟨?_, HB1.out⟩
    show Ending.returned (.string _) = .returned (.string _)
    congr 2
    apply ByteArray.ext
    simp [ByteArray.data_append]
set_option maxRecDepth 100000 in
set_option maxHeartbeats 16000000 in
theorem rtold_e3 (kn e : Nat) (sf sa sb sc sv skk : Int) (so : Bool) (h n : Int) (bits : Nat) (yes : Bool) (hs : (⟨kn, sf, sa, sb, sc, sv, skk, so⟩ : Stp).Wf) (hh : (Lit.int .i64 h).wf = true) (hn : (Lit.int .i64 n).wf = true) (hbits : bits ≤ 65535)  (w : World) :
    Calls Tryz.prog 6 #[.agg #[.int .u8 (kn : Nat), .int .u8 sf, .int .i64 sa, .int .i64 sb, .int .i64 sc, .int .i64 sv, .int .u16 skk, .bool so], .agg #[.int .i64 3, .int .i64 h, .int .i64 n, .int .i64 (bits : Nat), .bool yes]] w fun x w' => x = .returned (txt (toldT (⟨kn, sf, sa, sb, sc, sv, skk, so⟩ : Stp).text kn 3 h n bits yes)) ∧ Below w.heap.size w w' := by
  obtain ⟨W, hW⟩ : ∃ W, W = ((w.alloc (.cells #[.int .u8 (kn : Nat), .int .u8 sf, .int .i64 sa, .int .i64 sb, .int .i64 sc, .int .i64 sv, .int .u16 skk, .bool so] 24)).alloc (.cells #[.int .i64 3, .int .i64 h, .int .i64 n, .int .i64 (bits : Nat), .bool yes] 33)).alloc (.cells #[.string { data := #[111, 107] }, .string { data := #[97, 114, 103] }, .string { data := #[110, 105, 108] }, .string { data := #[118, 97, 114] }, .string { data := #[115, 104, 97, 112, 101] }, .string { data := #[104, 97, 110, 100, 108, 101] }, .string { data := #[102, 117, 108, 108] }, .string { data := #[98, 121, 116, 101, 115] }, .string { data := #[111, 114, 100, 101, 114] }, .string { data := #[114, 111, 111, 109] }, .string { data := #[116, 101, 120, 116] }, .string { data := #[110, 111, 110, 101] }, .string { data := #[108, 97, 114, 103, 101] }] 9) := ⟨_, rfl⟩
  have hbW : Below w.heap.size w W := by rw [hW]; exact (((Below.refl _ _).alloc (Nat.le_refl _) _).alloc (by simp) _).alloc (by simp; omega) _
  have b1 : Blk W w.heap.size 24 #[.int .u8 (kn : Nat), .int .u8 sf, .int .i64 sa, .int .i64 sb, .int .i64 sc, .int .i64 sv, .int .u16 skk, .bool so] := by rw [hW]; exact ((Blk.new w _ _).alloc _).alloc _
  have b2 : Blk W (w.heap.size + 1) 33 #[.int .i64 3, .int .i64 h, .int .i64 n, .int .i64 (bits : Nat), .bool yes] := by
    rw [hW]
    have := (Blk.new (w.alloc (.cells #[.int .u8 (kn : Nat), .int .u8 sf, .int .i64 sa, .int .i64 sb, .int .i64 sc, .int .i64 sv, .int .u16 skk, .bool so] 24)) 33 #[.int .i64 3, .int .i64 h, .int .i64 n, .int .i64 (bits : Nat), .bool yes]).alloc (.cells #[.string { data := #[111, 107] }, .string { data := #[97, 114, 103] }, .string { data := #[110, 105, 108] }, .string { data := #[118, 97, 114] }, .string { data := #[115, 104, 97, 112, 101] }, .string { data := #[104, 97, 110, 100, 108, 101] }, .string { data := #[102, 117, 108, 108] }, .string { data := #[98, 121, 116, 101, 115] }, .string { data := #[111, 114, 100, 101, 114] }, .string { data := #[114, 111, 111, 109] }, .string { data := #[116, 101, 120, 116] }, .string { data := #[110, 111, 110, 101] }, .string { data := #[108, 97, 114, 103, 101] }] 9)
    rwa [World.size_alloc] at this
  have b3 : Blk W (w.heap.size + 1 + 1) 9 #[.string { data := #[111, 107] }, .string { data := #[97, 114, 103] }, .string { data := #[110, 105, 108] }, .string { data := #[118, 97, 114] }, .string { data := #[115, 104, 97, 112, 101] }, .string { data := #[104, 97, 110, 100, 108, 101] }, .string { data := #[102, 117, 108, 108] }, .string { data := #[98, 121, 116, 101, 115] }, .string { data := #[111, 114, 100, 101, 114] }, .string { data := #[114, 111, 111, 109] }, .string { data := #[116, 101, 120, 116] }, .string { data := #[110, 111, 110, 101] }, .string { data := #[108, 97, 114, 103, 101] }] := by
    rw [hW]
    have := Blk.new ((w.alloc (.cells #[.int .u8 (kn : Nat), .int .u8 sf, .int .i64 sa, .int .i64 sb, .int .i64 sc, .int .i64 sv, .int .u16 skk, .bool so] 24)).alloc (.cells #[.int .i64 3, .int .i64 h, .int .i64 n, .int .i64 (bits : Nat), .bool yes] 33)) 9 #[.string { data := #[111, 107] }, .string { data := #[97, 114, 103] }, .string { data := #[110, 105, 108] }, .string { data := #[118, 97, 114] }, .string { data := #[115, 104, 97, 112, 101] }, .string { data := #[104, 97, 110, 100, 108, 101] }, .string { data := #[102, 117, 108, 108] }, .string { data := #[98, 121, 116, 101, 115] }, .string { data := #[111, 114, 100, 101, 114] }, .string { data := #[114, 111, 111, 109] }, .string { data := #[116, 101, 120, 116] }, .string { data := #[110, 111, 110, 101] }, .string { data := #[108, 97, 114, 103, 101] }]
    rwa [World.size_alloc, World.size_alloc] at this
  have HX := Lib.hid (rtext_any (⟨kn, sf, sa, sb, sc, sv, skk, so⟩ : Stp) hs W)
  have hxl := text_len _ hs
  obtain ⟨hk8, _⟩ := hs
  simp only at hk8
  unfold toldT
  obtain ⟨x, hx⟩ : ∃ x, x = (⟨kn, sf, sa, sb, sc, sv, skk, so⟩ : Stp).text := ⟨_, rfl⟩
  rw [← hx] at HX hxl ⊢
  simp only [Stp.cells] at HX
  have HH := Lib.hid (rnum_any h hh)
  have HN := Lib.hid (rnum_any n hn)
  have HB := Lib.hid (rnum_any (bits : Int) (bits_wf hbits))
  have qh := itoa_len h hh
  have qn := itoa_len n hn
  have qb := itoa_len (bits : Int) (bits_wf hbits)
  have HWT : Hid (wordsT kn 3 h n bits yes = [118, 97, 114]) := Lib.hid (by unfold wordsT; rw [if_pos (by omega)]; rfl)
  generalize Lib.itoa h = xh at *
  generalize Lib.itoa n = xn at *
  generalize Lib.itoa (bits : Int) = xb at *
  unfold txt at *
  have HWW := Lib.hid hW
  have HbW := Lib.hid hbW
  have B1 := Lib.hid b1
  have B2 := Lib.hid b2
  have B3 := Lib.hid b3
  rw [HWT.out]
  clear hx hh hn hbits hbW b1 b2 b3 HWT
  cases yes
  all_goals
    go_enter Tryz.func6, Tryz.ntmps6
    go_wp2_with fail
    rw [← HWW.out]
    refine HX.out.mono ?_
    rintro r w1 ⟨rfl, hb1⟩
    have c0 := (B1.out.onB hb1).cell 0
    have d0 := (B2.out.onB hb1).cell 0
    have d1 := (B2.out.onB hb1).cell 1
    have d2 := (B2.out.onB hb1).cell 2
    have d3 := (B2.out.onB hb1).cell 3
    have d4 := (B2.out.onB hb1).cell 4
    have e0 := (B3.out.onB hb1).cell 3
    have HB1 := Lib.hid (HbW.out.trans (hb1.mono HbW.out.size))
    clear hb1
    go_wp2_with fail
    go_ret
    refine ⟨?_, HB1.out⟩
    show Ending.returned (.string _) = .returned (.string _)
    congr 2
    apply ByteArray.ext
    simp [ByteArray.data_append]
set_option maxRecDepth 100000 in
set_option maxHeartbeats 16000000 in
theorem rtold_e4 (kn e : Nat) (sf sa sb sc sv skk : Int) (so : Bool) (h n : Int) (bits : Nat) (yes : Bool) (hs : (⟨kn, sf, sa, sb, sc, sv, skk, so⟩ : Stp).Wf) (hh : (Lit.int .i64 h).wf = true) (hn : (Lit.int .i64 n).wf = true) (hbits : bits ≤ 65535)  (w : World) :
    Calls Tryz.prog 6 #[.agg #[.int .u8 (kn : Nat), .int .u8 sf, .int .i64 sa, .int .i64 sb, .int .i64 sc, .int .i64 sv, .int .u16 skk, .bool so], .agg #[.int .i64 4, .int .i64 h, .int .i64 n, .int .i64 (bits : Nat), .bool yes]] w fun x w' => x = .returned (txt (toldT (⟨kn, sf, sa, sb, sc, sv, skk, so⟩ : Stp).text kn 4 h n bits yes)) ∧ Below w.heap.size w w' := by
  obtain ⟨W, hW⟩ : ∃ W, W = ((w.alloc (.cells #[.int .u8 (kn : Nat), .int .u8 sf, .int .i64 sa, .int .i64 sb, .int .i64 sc, .int .i64 sv, .int .u16 skk, .bool so] 24)).alloc (.cells #[.int .i64 4, .int .i64 h, .int .i64 n, .int .i64 (bits : Nat), .bool yes] 33)).alloc (.cells #[.string { data := #[111, 107] }, .string { data := #[97, 114, 103] }, .string { data := #[110, 105, 108] }, .string { data := #[118, 97, 114] }, .string { data := #[115, 104, 97, 112, 101] }, .string { data := #[104, 97, 110, 100, 108, 101] }, .string { data := #[102, 117, 108, 108] }, .string { data := #[98, 121, 116, 101, 115] }, .string { data := #[111, 114, 100, 101, 114] }, .string { data := #[114, 111, 111, 109] }, .string { data := #[116, 101, 120, 116] }, .string { data := #[110, 111, 110, 101] }, .string { data := #[108, 97, 114, 103, 101] }] 9) := ⟨_, rfl⟩
  have hbW : Below w.heap.size w W := by rw [hW]; exact (((Below.refl _ _).alloc (Nat.le_refl _) _).alloc (by simp) _).alloc (by simp; omega) _
  have b1 : Blk W w.heap.size 24 #[.int .u8 (kn : Nat), .int .u8 sf, .int .i64 sa, .int .i64 sb, .int .i64 sc, .int .i64 sv, .int .u16 skk, .bool so] := by rw [hW]; exact ((Blk.new w _ _).alloc _).alloc _
  have b2 : Blk W (w.heap.size + 1) 33 #[.int .i64 4, .int .i64 h, .int .i64 n, .int .i64 (bits : Nat), .bool yes] := by
    rw [hW]
    have := (Blk.new (w.alloc (.cells #[.int .u8 (kn : Nat), .int .u8 sf, .int .i64 sa, .int .i64 sb, .int .i64 sc, .int .i64 sv, .int .u16 skk, .bool so] 24)) 33 #[.int .i64 4, .int .i64 h, .int .i64 n, .int .i64 (bits : Nat), .bool yes]).alloc (.cells #[.string { data := #[111, 107] }, .string { data := #[97, 114, 103] }, .string { data := #[110, 105, 108] }, .string { data := #[118, 97, 114] }, .string { data := #[115, 104, 97, 112, 101] }, .string { data := #[104, 97, 110, 100, 108, 101] }, .string { data := #[102, 117, 108, 108] }, .string { data := #[98, 121, 116, 101, 115] }, .string { data := #[111, 114, 100, 101, 114] }, .string { data := #[114, 111, 111, 109] }, .string { data := #[116, 101, 120, 116] }, .string { data := #[110, 111, 110, 101] }, .string { data := #[108, 97, 114, 103, 101] }] 9)
    rwa [World.size_alloc] at this
  have b3 : Blk W (w.heap.size + 1 + 1) 9 #[.string { data := #[111, 107] }, .string { data := #[97, 114, 103] }, .string { data := #[110, 105, 108] }, .string { data := #[118, 97, 114] }, .string { data := #[115, 104, 97, 112, 101] }, .string { data := #[104, 97, 110, 100, 108, 101] }, .string { data := #[102, 117, 108, 108] }, .string { data := #[98, 121, 116, 101, 115] }, .string { data := #[111, 114, 100, 101, 114] }, .string { data := #[114, 111, 111, 109] }, .string { data := #[116, 101, 120, 116] }, .string { data := #[110, 111, 110, 101] }, .string { data := #[108, 97, 114, 103, 101] }] := by
    rw [hW]
    have := Blk.new ((w.alloc (.cells #[.int .u8 (kn : Nat), .int .u8 sf, .int .i64 sa, .int .i64 sb, .int .i64 sc, .int .i64 sv, .int .u16 skk, .bool so] 24)).alloc (.cells #[.int .i64 4, .int .i64 h, .int .i64 n, .int .i64 (bits : Nat), .bool yes] 33)) 9 #[.string { data := #[111, 107] }, .string { data := #[97, 114, 103] }, .string { data := #[110, 105, 108] }, .string { data := #[118, 97, 114] }, .string { data := #[115, 104, 97, 112, 101] }, .string { data := #[104, 97, 110, 100, 108, 101] }, .string { data := #[102, 117, 108, 108] }, .string { data := #[98, 121, 116, 101, 115] }, .string { data := #[111, 114, 100, 101, 114] }, .string { data := #[114, 111, 111, 109] }, .string { data := #[116, 101, 120, 116] }, .string { data := #[110, 111, 110, 101] }, .string { data := #[108, 97, 114, 103, 101] }]
    rwa [World.size_alloc, World.size_alloc] at this
  have HX := Lib.hid (rtext_any (⟨kn, sf, sa, sb, sc, sv, skk, so⟩ : Stp) hs W)
  have hxl := text_len _ hs
  obtain ⟨hk8, _⟩ := hs
  simp only at hk8
  unfold toldT
  obtain ⟨x, hx⟩ : ∃ x, x = (⟨kn, sf, sa, sb, sc, sv, skk, so⟩ : Stp).text := ⟨_, rfl⟩
  rw [← hx] at HX hxl ⊢
  simp only [Stp.cells] at HX
  have HH := Lib.hid (rnum_any h hh)
  have HN := Lib.hid (rnum_any n hn)
  have HB := Lib.hid (rnum_any (bits : Int) (bits_wf hbits))
  have qh := itoa_len h hh
  have qn := itoa_len n hn
  have qb := itoa_len (bits : Int) (bits_wf hbits)
  have HWT : Hid (wordsT kn 4 h n bits yes = [115, 104, 97, 112, 101]) := Lib.hid (by unfold wordsT; rw [if_pos (by omega)]; rfl)
  generalize Lib.itoa h = xh at *
  generalize Lib.itoa n = xn at *
  generalize Lib.itoa (bits : Int) = xb at *
  unfold txt at *
  have HWW := Lib.hid hW
  have HbW := Lib.hid hbW
  have B1 := Lib.hid b1
  have B2 := Lib.hid b2
  have B3 := Lib.hid b3
  rw [HWT.out]
  clear hx hh hn hbits hbW b1 b2 b3 HWT
  cases yes
  all_goals
    go_enter Tryz.func6, Tryz.ntmps6
    go_wp2_with fail
    rw [← HWW.out]
    refine HX.out.mono ?_
    rintro r w1 ⟨rfl, hb1⟩
    have c0 := (B1.out.onB hb1).cell 0
    have d0 := (B2.out.onB hb1).cell 0
    have d1 := (B2.out.onB hb1).cell 1
    have d2 := (B2.out.onB hb1).cell 2
    have d3 := (B2.out.onB hb1).cell 3
    have d4 := (B2.out.onB hb1).cell 4
    have e0 := (B3.out.onB hb1).cell 4
    have HB1 := Lib.hid (HbW.out.trans (hb1.mono HbW.out.size))
    clear hb1
    go_wp2_with fail
    go_ret
    refine ⟨?_, HB1.out⟩
    show Ending.returned (.string _) = .returned (.string _)
    congr 2
    apply ByteArray.ext
    simp [ByteArray.data_append]
set_option maxRecDepth 100000 in
set_option maxHeartbeats 16000000 in
theorem rtold_e5 (kn e : Nat) (sf sa sb sc sv skk : Int) (so : Bool) (h n : Int) (bits : Nat) (yes : Bool) (hs : (⟨kn, sf, sa, sb, sc, sv, skk, so⟩ : Stp).Wf) (hh : (Lit.int .i64 h).wf = true) (hn : (Lit.int .i64 n).wf = true) (hbits : bits ≤ 65535)  (w : World) :
    Calls Tryz.prog 6 #[.agg #[.int .u8 (kn : Nat), .int .u8 sf, .int .i64 sa, .int .i64 sb, .int .i64 sc, .int .i64 sv, .int .u16 skk, .bool so], .agg #[.int .i64 5, .int .i64 h, .int .i64 n, .int .i64 (bits : Nat), .bool yes]] w fun x w' => x = .returned (txt (toldT (⟨kn, sf, sa, sb, sc, sv, skk, so⟩ : Stp).text kn 5 h n bits yes)) ∧ Below w.heap.size w w' := by
  obtain ⟨W, hW⟩ : ∃ W, W = ((w.alloc (.cells #[.int .u8 (kn : Nat), .int .u8 sf, .int .i64 sa, .int .i64 sb, .int .i64 sc, .int .i64 sv, .int .u16 skk, .bool so] 24)).alloc (.cells #[.int .i64 5, .int .i64 h, .int .i64 n, .int .i64 (bits : Nat), .bool yes] 33)).alloc (.cells #[.string { data := #[111, 107] }, .string { data := #[97, 114, 103] }, .string { data := #[110, 105, 108] }, .string { data := #[118, 97, 114] }, .string { data := #[115, 104, 97, 112, 101] }, .string { data := #[104, 97, 110, 100, 108, 101] }, .string { data := #[102, 117, 108, 108] }, .string { data := #[98, 121, 116, 101, 115] }, .string { data := #[111, 114, 100, 101, 114] }, .string { data := #[114, 111, 111, 109] }, .string { data := #[116, 101, 120, 116] }, .string { data := #[110, 111, 110, 101] }, .string { data := #[108, 97, 114, 103, 101] }] 9) := ⟨_, rfl⟩
  have hbW : Below w.heap.size w W := by rw [hW]; exact (((Below.refl _ _).alloc (Nat.le_refl _) _).alloc (by simp) _).alloc (by simp; omega) _
  have b1 : Blk W w.heap.size 24 #[.int .u8 (kn : Nat), .int .u8 sf, .int .i64 sa, .int .i64 sb, .int .i64 sc, .int .i64 sv, .int .u16 skk, .bool so] := by rw [hW]; exact ((Blk.new w _ _).alloc _).alloc _
  have b2 : Blk W (w.heap.size + 1) 33 #[.int .i64 5, .int .i64 h, .int .i64 n, .int .i64 (bits : Nat), .bool yes] := by
    rw [hW]
    have := (Blk.new (w.alloc (.cells #[.int .u8 (kn : Nat), .int .u8 sf, .int .i64 sa, .int .i64 sb, .int .i64 sc, .int .i64 sv, .int .u16 skk, .bool so] 24)) 33 #[.int .i64 5, .int .i64 h, .int .i64 n, .int .i64 (bits : Nat), .bool yes]).alloc (.cells #[.string { data := #[111, 107] }, .string { data := #[97, 114, 103] }, .string { data := #[110, 105, 108] }, .string { data := #[118, 97, 114] }, .string { data := #[115, 104, 97, 112, 101] }, .string { data := #[104, 97, 110, 100, 108, 101] }, .string { data := #[102, 117, 108, 108] }, .string { data := #[98, 121, 116, 101, 115] }, .string { data := #[111, 114, 100, 101, 114] }, .string { data := #[114, 111, 111, 109] }, .string { data := #[116, 101, 120, 116] }, .string { data := #[110, 111, 110, 101] }, .string { data := #[108, 97, 114, 103, 101] }] 9)
    rwa [World.size_alloc] at this
  have b3 : Blk W (w.heap.size + 1 + 1) 9 #[.string { data := #[111, 107] }, .string { data := #[97, 114, 103] }, .string { data := #[110, 105, 108] }, .string { data := #[118, 97, 114] }, .string { data := #[115, 104, 97, 112, 101] }, .string { data := #[104, 97, 110, 100, 108, 101] }, .string { data := #[102, 117, 108, 108] }, .string { data := #[98, 121, 116, 101, 115] }, .string { data := #[111, 114, 100, 101, 114] }, .string { data := #[114, 111, 111, 109] }, .string { data := #[116, 101, 120, 116] }, .string { data := #[110, 111, 110, 101] }, .string { data := #[108, 97, 114, 103, 101] }] := by
    rw [hW]
    have := Blk.new ((w.alloc (.cells #[.int .u8 (kn : Nat), .int .u8 sf, .int .i64 sa, .int .i64 sb, .int .i64 sc, .int .i64 sv, .int .u16 skk, .bool so] 24)).alloc (.cells #[.int .i64 5, .int .i64 h, .int .i64 n, .int .i64 (bits : Nat), .bool yes] 33)) 9 #[.string { data := #[111, 107] }, .string { data := #[97, 114, 103] }, .string { data := #[110, 105, 108] }, .string { data := #[118, 97, 114] }, .string { data := #[115, 104, 97, 112, 101] }, .string { data := #[104, 97, 110, 100, 108, 101] }, .string { data := #[102, 117, 108, 108] }, .string { data := #[98, 121, 116, 101, 115] }, .string { data := #[111, 114, 100, 101, 114] }, .string { data := #[114, 111, 111, 109] }, .string { data := #[116, 101, 120, 116] }, .string { data := #[110, 111, 110, 101] }, .string { data := #[108, 97, 114, 103, 101] }]
    rwa [World.size_alloc, World.size_alloc] at this
  have HX := Lib.hid (rtext_any (⟨kn, sf, sa, sb, sc, sv, skk, so⟩ : Stp) hs W)
  have hxl := text_len _ hs
  obtain ⟨hk8, _⟩ := hs
  simp only at hk8
  unfold toldT
  obtain ⟨x, hx⟩ : ∃ x, x = (⟨kn, sf, sa, sb, sc, sv, skk, so⟩ : Stp).text := ⟨_, rfl⟩
  rw [← hx] at HX hxl ⊢
  simp only [Stp.cells] at HX
  have HH := Lib.hid (rnum_any h hh)
  have HN := Lib.hid (rnum_any n hn)
  have HB := Lib.hid (rnum_any (bits : Int) (bits_wf hbits))
  have qh := itoa_len h hh
  have qn := itoa_len n hn
  have qb := itoa_len (bits : Int) (bits_wf hbits)
  have HWT : Hid (wordsT kn 5 h n bits yes = [104, 97, 110, 100, 108, 101]) := Lib.hid (by unfold wordsT; rw [if_pos (by omega)]; rfl)
  generalize Lib.itoa h = xh at *
  generalize Lib.itoa n = xn at *
  generalize Lib.itoa (bits : Int) = xb at *
  unfold txt at *
  have HWW := Lib.hid hW
  have HbW := Lib.hid hbW
  have B1 := Lib.hid b1
  have B2 := Lib.hid b2
  have B3 := Lib.hid b3
  rw [HWT.out]
  clear hx hh hn hbits hbW b1 b2 b3 HWT
  cases yes
  all_goals
    go_enter Tryz.func6, Tryz.ntmps6
    go_wp2_with fail
    rw [← HWW.out]
    refine HX.out.mono ?_
    rintro r w1 ⟨rfl, hb1⟩
    have c0 := (B1.out.onB hb1).cell 0
    have d0 := (B2.out.onB hb1).cell 0
    have d1 := (B2.out.onB hb1).cell 1
    have d2 := (B2.out.onB hb1).cell 2
    have d3 := (B2.out.onB hb1).cell 3
    have d4 := (B2.out.onB hb1).cell 4
    have e0 := (B3.out.onB hb1).cell 5
    have HB1 := Lib.hid (HbW.out.trans (hb1.mono HbW.out.size))
    clear hb1
    go_wp2_with fail
    go_ret
    refine ⟨?_, HB1.out⟩
    show Ending.returned (.string _) = .returned (.string _)
    congr 2
    apply ByteArray.ext
    simp [ByteArray.data_append]
set_option maxRecDepth 100000 in
set_option maxHeartbeats 16000000 in
theorem rtold_e6 (kn e : Nat) (sf sa sb sc sv skk : Int) (so : Bool) (h n : Int) (bits : Nat) (yes : Bool) (hs : (⟨kn, sf, sa, sb, sc, sv, skk, so⟩ : Stp).Wf) (hh : (Lit.int .i64 h).wf = true) (hn : (Lit.int .i64 n).wf = true) (hbits : bits ≤ 65535)  (w : World) :
    Calls Tryz.prog 6 #[.agg #[.int .u8 (kn : Nat), .int .u8 sf, .int .i64 sa, .int .i64 sb, .int .i64 sc, .int .i64 sv, .int .u16 skk, .bool so], .agg #[.int .i64 6, .int .i64 h, .int .i64 n, .int .i64 (bits : Nat), .bool yes]] w fun x w' => x = .returned (txt (toldT (⟨kn, sf, sa, sb, sc, sv, skk, so⟩ : Stp).text kn 6 h n bits yes)) ∧ Below w.heap.size w w' := by
  obtain ⟨W, hW⟩ : ∃ W, W = ((w.alloc (.cells #[.int .u8 (kn : Nat), .int .u8 sf, .int .i64 sa, .int .i64 sb, .int .i64 sc, .int .i64 sv, .int .u16 skk, .bool so] 24)).alloc (.cells #[.int .i64 6, .int .i64 h, .int .i64 n, .int .i64 (bits : Nat), .bool yes] 33)).alloc (.cells #[.string { data := #[111, 107] }, .string { data := #[97, 114, 103] }, .string { data := #[110, 105, 108] }, .string { data := #[118, 97, 114] }, .string { data := #[115, 104, 97, 112, 101] }, .string { data := #[104, 97, 110, 100, 108, 101] }, .string { data := #[102, 117, 108, 108] }, .string { data := #[98, 121, 116, 101, 115] }, .string { data := #[111, 114, 100, 101, 114] }, .string { data := #[114, 111, 111, 109] }, .string { data := #[116, 101, 120, 116] }, .string { data := #[110, 111, 110, 101] }, .string { data := #[108, 97, 114, 103, 101] }] 9) := ⟨_, rfl⟩
  have hbW : Below w.heap.size w W := by rw [hW]; exact (((Below.refl _ _).alloc (Nat.le_refl _) _).alloc (by simp) _).alloc (by simp; omega) _
  have b1 : Blk W w.heap.size 24 #[.int .u8 (kn : Nat), .int .u8 sf, .int .i64 sa, .int .i64 sb, .int .i64 sc, .int .i64 sv, .int .u16 skk, .bool so] := by rw [hW]; exact ((Blk.new w _ _).alloc _).alloc _
  have b2 : Blk W (w.heap.size + 1) 33 #[.int .i64 6, .int .i64 h, .int .i64 n, .int .i64 (bits : Nat), .bool yes] := by
    rw [hW]
    have := (Blk.new (w.alloc (.cells #[.int .u8 (kn : Nat), .int .u8 sf, .int .i64 sa, .int .i64 sb, .int .i64 sc, .int .i64 sv, .int .u16 skk, .bool so] 24)) 33 #[.int .i64 6, .int .i64 h, .int .i64 n, .int .i64 (bits : Nat), .bool yes]).alloc (.cells #[.string { data := #[111, 107] }, .string { data := #[97, 114, 103] }, .string { data := #[110, 105, 108] }, .string { data := #[118, 97, 114] }, .string { data := #[115, 104, 97, 112, 101] }, .string { data := #[104, 97, 110, 100, 108, 101] }, .string { data := #[102, 117, 108, 108] }, .string { data := #[98, 121, 116, 101, 115] }, .string { data := #[111, 114, 100, 101, 114] }, .string { data := #[114, 111, 111, 109] }, .string { data := #[116, 101, 120, 116] }, .string { data := #[110, 111, 110, 101] }, .string { data := #[108, 97, 114, 103, 101] }] 9)
    rwa [World.size_alloc] at this
  have b3 : Blk W (w.heap.size + 1 + 1) 9 #[.string { data := #[111, 107] }, .string { data := #[97, 114, 103] }, .string { data := #[110, 105, 108] }, .string { data := #[118, 97, 114] }, .string { data := #[115, 104, 97, 112, 101] }, .string { data := #[104, 97, 110, 100, 108, 101] }, .string { data := #[102, 117, 108, 108] }, .string { data := #[98, 121, 116, 101, 115] }, .string { data := #[111, 114, 100, 101, 114] }, .string { data := #[114, 111, 111, 109] }, .string { data := #[116, 101, 120, 116] }, .string { data := #[110, 111, 110, 101] }, .string { data := #[108, 97, 114, 103, 101] }] := by
    rw [hW]
    have := Blk.new ((w.alloc (.cells #[.int .u8 (kn : Nat), .int .u8 sf, .int .i64 sa, .int .i64 sb, .int .i64 sc, .int .i64 sv, .int .u16 skk, .bool so] 24)).alloc (.cells #[.int .i64 6, .int .i64 h, .int .i64 n, .int .i64 (bits : Nat), .bool yes] 33)) 9 #[.string { data := #[111, 107] }, .string { data := #[97, 114, 103] }, .string { data := #[110, 105, 108] }, .string { data := #[118, 97, 114] }, .string { data := #[115, 104, 97, 112, 101] }, .string { data := #[104, 97, 110, 100, 108, 101] }, .string { data := #[102, 117, 108, 108] }, .string { data := #[98, 121, 116, 101, 115] }, .string { data := #[111, 114, 100, 101, 114] }, .string { data := #[114, 111, 111, 109] }, .string { data := #[116, 101, 120, 116] }, .string { data := #[110, 111, 110, 101] }, .string { data := #[108, 97, 114, 103, 101] }]
    rwa [World.size_alloc, World.size_alloc] at this
  have HX := Lib.hid (rtext_any (⟨kn, sf, sa, sb, sc, sv, skk, so⟩ : Stp) hs W)
  have hxl := text_len _ hs
  obtain ⟨hk8, _⟩ := hs
  simp only at hk8
  unfold toldT
  obtain ⟨x, hx⟩ : ∃ x, x = (⟨kn, sf, sa, sb, sc, sv, skk, so⟩ : Stp).text := ⟨_, rfl⟩
  rw [← hx] at HX hxl ⊢
  simp only [Stp.cells] at HX
  have HH := Lib.hid (rnum_any h hh)
  have HN := Lib.hid (rnum_any n hn)
  have HB := Lib.hid (rnum_any (bits : Int) (bits_wf hbits))
  have qh := itoa_len h hh
  have qn := itoa_len n hn
  have qb := itoa_len (bits : Int) (bits_wf hbits)
  have HWT : Hid (wordsT kn 6 h n bits yes = [102, 117, 108, 108]) := Lib.hid (by unfold wordsT; rw [if_pos (by omega)]; rfl)
  generalize Lib.itoa h = xh at *
  generalize Lib.itoa n = xn at *
  generalize Lib.itoa (bits : Int) = xb at *
  unfold txt at *
  have HWW := Lib.hid hW
  have HbW := Lib.hid hbW
  have B1 := Lib.hid b1
  have B2 := Lib.hid b2
  have B3 := Lib.hid b3
  rw [HWT.out]
  clear hx hh hn hbits hbW b1 b2 b3 HWT
  cases yes
  all_goals
    go_enter Tryz.func6, Tryz.ntmps6
    go_wp2_with fail
    rw [← HWW.out]
    refine HX.out.mono ?_
    rintro r w1 ⟨rfl, hb1⟩
    have c0 := (B1.out.onB hb1).cell 0
    have d0 := (B2.out.onB hb1).cell 0
    have d1 := (B2.out.onB hb1).cell 1
    have d2 := (B2.out.onB hb1).cell 2
    have d3 := (B2.out.onB hb1).cell 3
    have d4 := (B2.out.onB hb1).cell 4
    have e0 := (B3.out.onB hb1).cell 6
    have HB1 := Lib.hid (HbW.out.trans (hb1.mono HbW.out.size))
    clear hb1
    go_wp2_with fail
    go_ret
    refine ⟨?_, HB1.out⟩
    show Ending.returned (.string _) = .returned (.string _)
    congr 2
    apply ByteArray.ext
    simp [ByteArray.data_append]
set_option maxRecDepth 100000 in
set_option maxHeartbeats 16000000 in
theorem rtold_e7 (kn e : Nat) (sf sa sb sc sv skk : Int) (so : Bool) (h n : Int) (bits : Nat) (yes : Bool) (hs : (⟨kn, sf, sa, sb, sc, sv, skk, so⟩ : Stp).Wf) (hh : (Lit.int .i64 h).wf = true) (hn : (Lit.int .i64 n).wf = true) (hbits : bits ≤ 65535)  (w : World) :
    Calls Tryz.prog 6 #[.agg #[.int .u8 (kn : Nat), .int .u8 sf, .int .i64 sa, .int .i64 sb, .int .i64 sc, .int .i64 sv, .int .u16 skk, .bool so], .agg #[.int .i64 7, .int .i64 h, .int .i64 n, .int .i64 (bits : Nat), .bool yes]] w fun x w' => x = .returned (txt (toldT (⟨kn, sf, sa, sb, sc, sv, skk, so⟩ : Stp).text kn 7 h n bits yes)) ∧ Below w.heap.size w w' := by
  obtain ⟨W, hW⟩ : ∃ W, W = ((w.alloc (.cells #[.int .u8 (kn : Nat), .int .u8 sf, .int .i64 sa, .int .i64 sb, .int .i64 sc, .int .i64 sv, .int .u16 skk, .bool so] 24)).alloc (.cells #[.int .i64 7, .int .i64 h, .int .i64 n, .int .i64 (bits : Nat), .bool yes] 33)).alloc (.cells #[.string { data := #[111, 107] }, .string { data := #[97, 114, 103] }, .string { data := #[110, 105, 108] }, .string { data := #[118, 97, 114] }, .string { data := #[115, 104, 97, 112, 101] }, .string { data := #[104, 97, 110, 100, 108, 101] }, .string { data := #[102, 117, 108, 108] }, .string { data := #[98, 121, 116, 101, 115] }, .string { data := #[111, 114, 100, 101, 114] }, .string { data := #[114, 111, 111, 109] }, .string { data := #[116, 101, 120, 116] }, .string { data := #[110, 111, 110, 101] }, .string { data := #[108, 97, 114, 103, 101] }] 9) := ⟨_, rfl⟩
  have hbW : Below w.heap.size w W := by rw [hW]; exact (((Below.refl _ _).alloc (Nat.le_refl _) _).alloc (by simp) _).alloc (by simp; omega) _
  have b1 : Blk W w.heap.size 24 #[.int .u8 (kn : Nat), .int .u8 sf, .int .i64 sa, .int .i64 sb, .int .i64 sc, .int .i64 sv, .int .u16 skk, .bool so] := by rw [hW]; exact ((Blk.new w _ _).alloc _).alloc _
  have b2 : Blk W (w.heap.size + 1) 33 #[.int .i64 7, .int .i64 h, .int .i64 n, .int .i64 (bits : Nat), .bool yes] := by
    rw [hW]
    have := (Blk.new (w.alloc (.cells #[.int .u8 (kn : Nat), .int .u8 sf, .int .i64 sa, .int .i64 sb, .int .i64 sc, .int .i64 sv, .int .u16 skk, .bool so] 24)) 33 #[.int .i64 7, .int .i64 h, .int .i64 n, .int .i64 (bits : Nat), .bool yes]).alloc (.cells #[.string { data := #[111, 107] }, .string { data := #[97, 114, 103] }, .string { data := #[110, 105, 108] }, .string { data := #[118, 97, 114] }, .string { data := #[115, 104, 97, 112, 101] }, .string { data := #[104, 97, 110, 100, 108, 101] }, .string { data := #[102, 117, 108, 108] }, .string { data := #[98, 121, 116, 101, 115] }, .string { data := #[111, 114, 100, 101, 114] }, .string { data := #[114, 111, 111, 109] }, .string { data := #[116, 101, 120, 116] }, .string { data := #[110, 111, 110, 101] }, .string { data := #[108, 97, 114, 103, 101] }] 9)
    rwa [World.size_alloc] at this
  have b3 : Blk W (w.heap.size + 1 + 1) 9 #[.string { data := #[111, 107] }, .string { data := #[97, 114, 103] }, .string { data := #[110, 105, 108] }, .string { data := #[118, 97, 114] }, .string { data := #[115, 104, 97, 112, 101] }, .string { data := #[104, 97, 110, 100, 108, 101] }, .string { data := #[102, 117, 108, 108] }, .string { data := #[98, 121, 116, 101, 115] }, .string { data := #[111, 114, 100, 101, 114] }, .string { data := #[114, 111, 111, 109] }, .string { data := #[116, 101, 120, 116] }, .string { data := #[110, 111, 110, 101] }, .string { data := #[108, 97, 114, 103, 101] }] := by
    rw [hW]
    have := Blk.new ((w.alloc (.cells #[.int .u8 (kn : Nat), .int .u8 sf, .int .i64 sa, .int .i64 sb, .int .i64 sc, .int .i64 sv, .int .u16 skk, .bool so] 24)).alloc (.cells #[.int .i64 7, .int .i64 h, .int .i64 n, .int .i64 (bits : Nat), .bool yes] 33)) 9 #[.string { data := #[111, 107] }, .string { data := #[97, 114, 103] }, .string { data := #[110, 105, 108] }, .string { data := #[118, 97, 114] }, .string { data := #[115, 104, 97, 112, 101] }, .string { data := #[104, 97, 110, 100, 108, 101] }, .string { data := #[102, 117, 108, 108] }, .string { data := #[98, 121, 116, 101, 115] }, .string { data := #[111, 114, 100, 101, 114] }, .string { data := #[114, 111, 111, 109] }, .string { data := #[116, 101, 120, 116] }, .string { data := #[110, 111, 110, 101] }, .string { data := #[108, 97, 114, 103, 101] }]
    rwa [World.size_alloc, World.size_alloc] at this
  have HX := Lib.hid (rtext_any (⟨kn, sf, sa, sb, sc, sv, skk, so⟩ : Stp) hs W)
  have hxl := text_len _ hs
  obtain ⟨hk8, _⟩ := hs
  simp only at hk8
  unfold toldT
  obtain ⟨x, hx⟩ : ∃ x, x = (⟨kn, sf, sa, sb, sc, sv, skk, so⟩ : Stp).text := ⟨_, rfl⟩
  rw [← hx] at HX hxl ⊢
  simp only [Stp.cells] at HX
  have HH := Lib.hid (rnum_any h hh)
  have HN := Lib.hid (rnum_any n hn)
  have HB := Lib.hid (rnum_any (bits : Int) (bits_wf hbits))
  have qh := itoa_len h hh
  have qn := itoa_len n hn
  have qb := itoa_len (bits : Int) (bits_wf hbits)
  have HWT : Hid (wordsT kn 7 h n bits yes = [98, 121, 116, 101, 115]) := Lib.hid (by unfold wordsT; rw [if_pos (by omega)]; rfl)
  generalize Lib.itoa h = xh at *
  generalize Lib.itoa n = xn at *
  generalize Lib.itoa (bits : Int) = xb at *
  unfold txt at *
  have HWW := Lib.hid hW
  have HbW := Lib.hid hbW
  have B1 := Lib.hid b1
  have B2 := Lib.hid b2
  have B3 := Lib.hid b3
  rw [HWT.out]
  clear hx hh hn hbits hbW b1 b2 b3 HWT
  cases yes
  all_goals
    go_enter Tryz.func6, Tryz.ntmps6
    go_wp2_with fail
    rw [← HWW.out]
    refine HX.out.mono ?_
    rintro r w1 ⟨rfl, hb1⟩
    have c0 := (B1.out.onB hb1).cell 0
    have d0 := (B2.out.onB hb1).cell 0
    have d1 := (B2.out.onB hb1).cell 1
    have d2 := (B2.out.onB hb1).cell 2
    have d3 := (B2.out.onB hb1).cell 3
    have d4 := (B2.out.onB hb1).cell 4
    have e0 := (B3.out.onB hb1).cell 7
    have HB1 := Lib.hid (HbW.out.trans (hb1.mono HbW.out.size))
    clear hb1
    go_wp2_with fail
    go_ret
    refine ⟨?_, HB1.out⟩
    show Ending.returned (.string _) = .returned (.string _)
    congr 2
    apply ByteArray.ext
    simp [ByteArray.data_append]
set_option maxRecDepth 100000 in
set_option maxHeartbeats 16000000 in
theorem rtold_e8 (kn e : Nat) (sf sa sb sc sv skk : Int) (so : Bool) (h n : Int) (bits : Nat) (yes : Bool) (hs : (⟨kn, sf, sa, sb, sc, sv, skk, so⟩ : Stp).Wf) (hh : (Lit.int .i64 h).wf = true) (hn : (Lit.int .i64 n).wf = true) (hbits : bits ≤ 65535)  (w : World) :
    Calls Tryz.prog 6 #[.agg #[.int .u8 (kn : Nat), .int .u8 sf, .int .i64 sa, .int .i64 sb, .int .i64 sc, .int .i64 sv, .int .u16 skk, .bool so], .agg #[.int .i64 8, .int .i64 h, .int .i64 n, .int .i64 (bits : Nat), .bool yes]] w fun x w' => x = .returned (txt (toldT (⟨kn, sf, sa, sb, sc, sv, skk, so⟩ : Stp).text kn 8 h n bits yes)) ∧ Below w.heap.size w w' := by
  obtain ⟨W, hW⟩ : ∃ W, W = ((w.alloc (.cells #[.int .u8 (kn : Nat), .int .u8 sf, .int .i64 sa, .int .i64 sb, .int .i64 sc, .int .i64 sv, .int .u16 skk, .bool so] 24)).alloc (.cells #[.int .i64 8, .int .i64 h, .int .i64 n, .int .i64 (bits : Nat), .bool yes] 33)).alloc (.cells #[.string { data := #[111, 107] }, .string { data := #[97, 114, 103] }, .string { data := #[110, 105, 108] }, .string { data := #[118, 97, 114] }, .string { data := #[115, 104, 97, 112, 101] }, .string { data := #[104, 97, 110, 100, 108, 101] }, .string { data := #[102, 117, 108, 108] }, .string { data := #[98, 121, 116, 101, 115] }, .string { data := #[111, 114, 100, 101, 114] }, .string { data := #[114, 111, 111, 109] }, .string { data := #[116, 101, 120, 116] }, .string { data := #[110, 111, 110, 101] }, .string { data := #[108, 97, 114, 103, 101] }] 9) := ⟨_, rfl⟩
  have hbW : Below w.heap.size w W := by rw [hW]; exact (((Below.refl _ _).alloc (Nat.le_refl _) _).alloc (by simp) _).alloc (by simp; omega) _
  have b1 : Blk W w.heap.size 24 #[.int .u8 (kn : Nat), .int .u8 sf, .int .i64 sa, .int .i64 sb, .int .i64 sc, .int .i64 sv, .int .u16 skk, .bool so] := by rw [hW]; exact ((Blk.new w _ _).alloc _).alloc _
  have b2 : Blk W (w.heap.size + 1) 33 #[.int .i64 8, .int .i64 h, .int .i64 n, .int .i64 (bits : Nat), .bool yes] := by
    rw [hW]
    have := (Blk.new (w.alloc (.cells #[.int .u8 (kn : Nat), .int .u8 sf, .int .i64 sa, .int .i64 sb, .int .i64 sc, .int .i64 sv, .int .u16 skk, .bool so] 24)) 33 #[.int .i64 8, .int .i64 h, .int .i64 n, .int .i64 (bits : Nat), .bool yes]).alloc (.cells #[.string { data := #[111, 107] }, .string { data := #[97, 114, 103] }, .string { data := #[110, 105, 108] }, .string { data := #[118, 97, 114] }, .string { data := #[115, 104, 97, 112, 101] }, .string { data := #[104, 97, 110, 100, 108, 101] }, .string { data := #[102, 117, 108, 108] }, .string { data := #[98, 121, 116, 101, 115] }, .string { data := #[111, 114, 100, 101, 114] }, .string { data := #[114, 111, 111, 109] }, .string { data := #[116, 101, 120, 116] }, .string { data := #[110, 111, 110, 101] }, .string { data := #[108, 97, 114, 103, 101] }] 9)
    rwa [World.size_alloc] at this
  have b3 : Blk W (w.heap.size + 1 + 1) 9 #[.string { data := #[111, 107] }, .string { data := #[97, 114, 103] }, .string { data := #[110, 105, 108] }, .string { data := #[118, 97, 114] }, .string { data := #[115, 104, 97, 112, 101] }, .string { data := #[104, 97, 110, 100, 108, 101] }, .string { data := #[102, 117, 108, 108] }, .string { data := #[98, 121, 116, 101, 115] }, .string { data := #[111, 114, 100, 101, 114] }, .string { data := #[114, 111, 111, 109] }, .string { data := #[116, 101, 120, 116] }, .string { data := #[110, 111, 110, 101] }, .string { data := #[108, 97, 114, 103, 101] }] := by
    rw [hW]
    have := Blk.new ((w.alloc (.cells #[.int .u8 (kn : Nat), .int .u8 sf, .int .i64 sa, .int .i64 sb, .int .i64 sc, .int .i64 sv, .int .u16 skk, .bool so] 24)).alloc (.cells #[.int .i64 8, .int .i64 h, .int .i64 n, .int .i64 (bits : Nat), .bool yes] 33)) 9 #[.string { data := #[111, 107] }, .string { data := #[97, 114, 103] }, .string { data := #[110, 105, 108] }, .string { data := #[118, 97, 114] }, .string { data := #[115, 104, 97, 112, 101] }, .string { data := #[104, 97, 110, 100, 108, 101] }, .string { data := #[102, 117, 108, 108] }, .string { data := #[98, 121, 116, 101, 115] }, .string { data := #[111, 114, 100, 101, 114] }, .string { data := #[114, 111, 111, 109] }, .string { data := #[116, 101, 120, 116] }, .string { data := #[110, 111, 110, 101] }, .string { data := #[108, 97, 114, 103, 101] }]
    rwa [World.size_alloc, World.size_alloc] at this
  have HX := Lib.hid (rtext_any (⟨kn, sf, sa, sb, sc, sv, skk, so⟩ : Stp) hs W)
  have hxl := text_len _ hs
  obtain ⟨hk8, _⟩ := hs
  simp only at hk8
  unfold toldT
  obtain ⟨x, hx⟩ : ∃ x, x = (⟨kn, sf, sa, sb, sc, sv, skk, so⟩ : Stp).text := ⟨_, rfl⟩
  rw [← hx] at HX hxl ⊢
  simp only [Stp.cells] at HX
  have HH := Lib.hid (rnum_any h hh)
  have HN := Lib.hid (rnum_any n hn)
  have HB := Lib.hid (rnum_any (bits : Int) (bits_wf hbits))
  have qh := itoa_len h hh
  have qn := itoa_len n hn
  have qb := itoa_len (bits : Int) (bits_wf hbits)
  have HWT : Hid (wordsT kn 8 h n bits yes = [111, 114, 100, 101, 114]) := Lib.hid (by unfold wordsT; rw [if_pos (by omega)]; rfl)
  generalize Lib.itoa h = xh at *
  generalize Lib.itoa n = xn at *
  generalize Lib.itoa (bits : Int) = xb at *
  unfold txt at *
  have HWW := Lib.hid hW
  have HbW := Lib.hid hbW
  have B1 := Lib.hid b1
  have B2 := Lib.hid b2
  have B3 := Lib.hid b3
  rw [HWT.out]
  clear hx hh hn hbits hbW b1 b2 b3 HWT
  cases yes
  all_goals
    go_enter Tryz.func6, Tryz.ntmps6
    go_wp2_with fail
    rw [← HWW.out]
    refine HX.out.mono ?_
    rintro r w1 ⟨rfl, hb1⟩
    have c0 := (B1.out.onB hb1).cell 0
    have d0 := (B2.out.onB hb1).cell 0
    have d1 := (B2.out.onB hb1).cell 1
    have d2 := (B2.out.onB hb1).cell 2
    have d3 := (B2.out.onB hb1).cell 3
    have d4 := (B2.out.onB hb1).cell 4
    have e0 := (B3.out.onB hb1).cell 8
    have HB1 := Lib.hid (HbW.out.trans (hb1.mono HbW.out.size))
    clear hb1
    go_wp2_with fail
    go_ret
    refine ⟨?_, HB1.out⟩
    show Ending.returned (.string _) = .returned (.string _)
    congr 2
    apply ByteArray.ext
    simp [ByteArray.data_append]
set_option maxRecDepth 100000 in
set_option maxHeartbeats 16000000 in
theorem rtold_e9 (kn e : Nat) (sf sa sb sc sv skk : Int) (so : Bool) (h n : Int) (bits : Nat) (yes : Bool) (hs : (⟨kn, sf, sa, sb, sc, sv, skk, so⟩ : Stp).Wf) (hh : (Lit.int .i64 h).wf = true) (hn : (Lit.int .i64 n).wf = true) (hbits : bits ≤ 65535)  (w : World) :
    Calls Tryz.prog 6 #[.agg #[.int .u8 (kn : Nat), .int .u8 sf, .int .i64 sa, .int .i64 sb, .int .i64 sc, .int .i64 sv, .int .u16 skk, .bool so], .agg #[.int .i64 9, .int .i64 h, .int .i64 n, .int .i64 (bits : Nat), .bool yes]] w fun x w' => x = .returned (txt (toldT (⟨kn, sf, sa, sb, sc, sv, skk, so⟩ : Stp).text kn 9 h n bits yes)) ∧ Below w.heap.size w w' := by
  obtain ⟨W, hW⟩ : ∃ W, W = ((w.alloc (.cells #[.int .u8 (kn : Nat), .int .u8 sf, .int .i64 sa, .int .i64 sb, .int .i64 sc, .int .i64 sv, .int .u16 skk, .bool so] 24)).alloc (.cells #[.int .i64 9, .int .i64 h, .int .i64 n, .int .i64 (bits : Nat), .bool yes] 33)).alloc (.cells #[.string { data := #[111, 107] }, .string { data := #[97, 114, 103] }, .string { data := #[110, 105, 108] }, .string { data := #[118, 97, 114] }, .string { data := #[115, 104, 97, 112, 101] }, .string { data := #[104, 97, 110, 100, 108, 101] }, .string { data := #[102, 117, 108, 108] }, .string { data := #[98, 121, 116, 101, 115] }, .string { data := #[111, 114, 100, 101, 114] }, .string { data := #[114, 111, 111, 109] }, .string { data := #[116, 101, 120, 116] }, .string { data := #[110, 111, 110, 101] }, .string { data := #[108, 97, 114, 103, 101] }] 9) := ⟨_, rfl⟩
  have hbW : Below w.heap.size w W := by rw [hW]; exact (((Below.refl _ _).alloc (Nat.le_refl _) _).alloc (by simp) _).alloc (by simp; omega) _
  have b1 : Blk W w.heap.size 24 #[.int .u8 (kn : Nat), .int .u8 sf, .int .i64 sa, .int .i64 sb, .int .i64 sc, .int .i64 sv, .int .u16 skk, .bool so] := by rw [hW]; exact ((Blk.new w _ _).alloc _).alloc _
  have b2 : Blk W (w.heap.size + 1) 33 #[.int .i64 9, .int .i64 h, .int .i64 n, .int .i64 (bits : Nat), .bool yes] := by
    rw [hW]
    have := (Blk.new (w.alloc (.cells #[.int .u8 (kn : Nat), .int .u8 sf, .int .i64 sa, .int .i64 sb, .int .i64 sc, .int .i64 sv, .int .u16 skk, .bool so] 24)) 33 #[.int .i64 9, .int .i64 h, .int .i64 n, .int .i64 (bits : Nat), .bool yes]).alloc (.cells #[.string { data := #[111, 107] }, .string { data := #[97, 114, 103] }, .string { data := #[110, 105, 108] }, .string { data := #[118, 97, 114] }, .string { data := #[115, 104, 97, 112, 101] }, .string { data := #[104, 97, 110, 100, 108, 101] }, .string { data := #[102, 117, 108, 108] }, .string { data := #[98, 121, 116, 101, 115] }, .string { data := #[111, 114, 100, 101, 114] }, .string { data := #[114, 111, 111, 109] }, .string { data := #[116, 101, 120, 116] }, .string { data := #[110, 111, 110, 101] }, .string { data := #[108, 97, 114, 103, 101] }] 9)
    rwa [World.size_alloc] at this
  have b3 : Blk W (w.heap.size + 1 + 1) 9 #[.string { data := #[111, 107] }, .string { data := #[97, 114, 103] }, .string { data := #[110, 105, 108] }, .string { data := #[118, 97, 114] }, .string { data := #[115, 104, 97, 112, 101] }, .string { data := #[104, 97, 110, 100, 108, 101] }, .string { data := #[102, 117, 108, 108] }, .string { data := #[98, 121, 116, 101, 115] }, .string { data := #[111, 114, 100, 101, 114] }, .string { data := #[114, 111, 111, 109] }, .string { data := #[116, 101, 120, 116] }, .string { data := #[110, 111, 110, 101] }, .string { data := #[108, 97, 114, 103, 101] }] := by
    rw [hW]
    have := Blk.new ((w.alloc (.cells #[.int .u8 (kn : Nat), .int .u8 sf, .int .i64 sa, .int .i64 sb, .int .i64 sc, .int .i64 sv, .int .u16 skk, .bool so] 24)).alloc (.cells #[.int .i64 9, .int .i64 h, .int .i64 n, .int .i64 (bits : Nat), .bool yes] 33)) 9 #[.string { data := #[111, 107] }, .string { data := #[97, 114, 103] }, .string { data := #[110, 105, 108] }, .string { data := #[118, 97, 114] }, .string { data := #[115, 104, 97, 112, 101] }, .string { data := #[104, 97, 110, 100, 108, 101] }, .string { data := #[102, 117, 108, 108] }, .string { data := #[98, 121, 116, 101, 115] }, .string { data := #[111, 114, 100, 101, 114] }, .string { data := #[114, 111, 111, 109] }, .string { data := #[116, 101, 120, 116] }, .string { data := #[110, 111, 110, 101] }, .string { data := #[108, 97, 114, 103, 101] }]
    rwa [World.size_alloc, World.size_alloc] at this
  have HX := Lib.hid (rtext_any (⟨kn, sf, sa, sb, sc, sv, skk, so⟩ : Stp) hs W)
  have hxl := text_len _ hs
  obtain ⟨hk8, _⟩ := hs
  simp only at hk8
  unfold toldT
  obtain ⟨x, hx⟩ : ∃ x, x = (⟨kn, sf, sa, sb, sc, sv, skk, so⟩ : Stp).text := ⟨_, rfl⟩
  rw [← hx] at HX hxl ⊢
  simp only [Stp.cells] at HX
  have HH := Lib.hid (rnum_any h hh)
  have HN := Lib.hid (rnum_any n hn)
  have HB := Lib.hid (rnum_any (bits : Int) (bits_wf hbits))
  have qh := itoa_len h hh
  have qn := itoa_len n hn
  have qb := itoa_len (bits : Int) (bits_wf hbits)
  have HWT : Hid (wordsT kn 9 h n bits yes = [114, 111, 111, 109]) := Lib.hid (by unfold wordsT; rw [if_pos (by omega)]; rfl)
  generalize Lib.itoa h = xh at *
  generalize Lib.itoa n = xn at *
  generalize Lib.itoa (bits : Int) = xb at *
  unfold txt at *
  have HWW := Lib.hid hW
  have HbW := Lib.hid hbW
  have B1 := Lib.hid b1
  have B2 := Lib.hid b2
  have B3 := Lib.hid b3
  rw [HWT.out]
  clear hx hh hn hbits hbW b1 b2 b3 HWT
  cases yes
  all_goals
    go_enter Tryz.func6, Tryz.ntmps6
    go_wp2_with fail
    rw [← HWW.out]
    refine HX.out.mono ?_
    rintro r w1 ⟨rfl, hb1⟩
    have c0 := (B1.out.onB hb1).cell 0
    have d0 := (B2.out.onB hb1).cell 0
    have d1 := (B2.out.onB hb1).cell 1
    have d2 := (B2.out.onB hb1).cell 2
    have d3 := (B2.out.onB hb1).cell 3
    have d4 := (B2.out.onB hb1).cell 4
    have e0 := (B3.out.onB hb1).cell 9
    have HB1 := Lib.hid (HbW.out.trans (hb1.mono HbW.out.size))
    clear hb1
    go_wp2_with fail
    go_ret
    refine ⟨?_, HB1.out⟩
    show Ending.returned (.string _) = .returned (.string _)
    congr 2
    apply ByteArray.ext
    simp [ByteArray.data_append]
set_option maxRecDepth 100000 in
set_option maxHeartbeats 16000000 in
theorem rtold_e10 (kn e : Nat) (sf sa sb sc sv skk : Int) (so : Bool) (h n : Int) (bits : Nat) (yes : Bool) (hs : (⟨kn, sf, sa, sb, sc, sv, skk, so⟩ : Stp).Wf) (hh : (Lit.int .i64 h).wf = true) (hn : (Lit.int .i64 n).wf = true) (hbits : bits ≤ 65535)  (w : World) :
    Calls Tryz.prog 6 #[.agg #[.int .u8 (kn : Nat), .int .u8 sf, .int .i64 sa, .int .i64 sb, .int .i64 sc, .int .i64 sv, .int .u16 skk, .bool so], .agg #[.int .i64 10, .int .i64 h, .int .i64 n, .int .i64 (bits : Nat), .bool yes]] w fun x w' => x = .returned (txt (toldT (⟨kn, sf, sa, sb, sc, sv, skk, so⟩ : Stp).text kn 10 h n bits yes)) ∧ Below w.heap.size w w' := by
  obtain ⟨W, hW⟩ : ∃ W, W = ((w.alloc (.cells #[.int .u8 (kn : Nat), .int .u8 sf, .int .i64 sa, .int .i64 sb, .int .i64 sc, .int .i64 sv, .int .u16 skk, .bool so] 24)).alloc (.cells #[.int .i64 10, .int .i64 h, .int .i64 n, .int .i64 (bits : Nat), .bool yes] 33)).alloc (.cells #[.string { data := #[111, 107] }, .string { data := #[97, 114, 103] }, .string { data := #[110, 105, 108] }, .string { data := #[118, 97, 114] }, .string { data := #[115, 104, 97, 112, 101] }, .string { data := #[104, 97, 110, 100, 108, 101] }, .string { data := #[102, 117, 108, 108] }, .string { data := #[98, 121, 116, 101, 115] }, .string { data := #[111, 114, 100, 101, 114] }, .string { data := #[114, 111, 111, 109] }, .string { data := #[116, 101, 120, 116] }, .string { data := #[110, 111, 110, 101] }, .string { data := #[108, 97, 114, 103, 101] }] 9) := ⟨_, rfl⟩
  have hbW : Below w.heap.size w W := by rw [hW]; exact (((Below.refl _ _).alloc (Nat.le_refl _) _).alloc (by simp) _).alloc (by simp; omega) _
  have b1 : Blk W w.heap.size 24 #[.int .u8 (kn : Nat), .int .u8 sf, .int .i64 sa, .int .i64 sb, .int .i64 sc, .int .i64 sv, .int .u16 skk, .bool so] := by rw [hW]; exact ((Blk.new w _ _).alloc _).alloc _
  have b2 : Blk W (w.heap.size + 1) 33 #[.int .i64 10, .int .i64 h, .int .i64 n, .int .i64 (bits : Nat), .bool yes] := by
    rw [hW]
    have := (Blk.new (w.alloc (.cells #[.int .u8 (kn : Nat), .int .u8 sf, .int .i64 sa, .int .i64 sb, .int .i64 sc, .int .i64 sv, .int .u16 skk, .bool so] 24)) 33 #[.int .i64 10, .int .i64 h, .int .i64 n, .int .i64 (bits : Nat), .bool yes]).alloc (.cells #[.string { data := #[111, 107] }, .string { data := #[97, 114, 103] }, .string { data := #[110, 105, 108] }, .string { data := #[118, 97, 114] }, .string { data := #[115, 104, 97, 112, 101] }, .string { data := #[104, 97, 110, 100, 108, 101] }, .string { data := #[102, 117, 108, 108] }, .string { data := #[98, 121, 116, 101, 115] }, .string { data := #[111, 114, 100, 101, 114] }, .string { data := #[114, 111, 111, 109] }, .string { data := #[116, 101, 120, 116] }, .string { data := #[110, 111, 110, 101] }, .string { data := #[108, 97, 114, 103, 101] }] 9)
    rwa [World.size_alloc] at this
  have b3 : Blk W (w.heap.size + 1 + 1) 9 #[.string { data := #[111, 107] }, .string { data := #[97, 114, 103] }, .string { data := #[110, 105, 108] }, .string { data := #[118, 97, 114] }, .string { data := #[115, 104, 97, 112, 101] }, .string { data := #[104, 97, 110, 100, 108, 101] }, .string { data := #[102, 117, 108, 108] }, .string { data := #[98, 121, 116, 101, 115] }, .string { data := #[111, 114, 100, 101, 114] }, .string { data := #[114, 111, 111, 109] }, .string { data := #[116, 101, 120, 116] }, .string { data := #[110, 111, 110, 101] }, .string { data := #[108, 97, 114, 103, 101] }] := by
    rw [hW]
    have := Blk.new ((w.alloc (.cells #[.int .u8 (kn : Nat), .int .u8 sf, .int .i64 sa, .int .i64 sb, .int .i64 sc, .int .i64 sv, .int .u16 skk, .bool so] 24)).alloc (.cells #[.int .i64 10, .int .i64 h, .int .i64 n, .int .i64 (bits : Nat), .bool yes] 33)) 9 #[.string { data := #[111, 107] }, .string { data := #[97, 114, 103] }, .string { data := #[110, 105, 108] }, .string { data := #[118, 97, 114] }, .string { data := #[115, 104, 97, 112, 101] }, .string { data := #[104, 97, 110, 100, 108, 101] }, .string { data := #[102, 117, 108, 108] }, .string { data := #[98, 121, 116, 101, 115] }, .string { data := #[111, 114, 100, 101, 114] }, .string { data := #[114, 111, 111, 109] }, .string { data := #[116, 101, 120, 116] }, .string { data := #[110, 111, 110, 101] }, .string { data := #[108, 97, 114, 103, 101] }]
    rwa [World.size_alloc, World.size_alloc] at this
  have HX := Lib.hid (rtext_any (⟨kn, sf, sa, sb, sc, sv, skk, so⟩ : Stp) hs W)
  have hxl := text_len _ hs
  obtain ⟨hk8, _⟩ := hs
  simp only at hk8
  unfold toldT
  obtain ⟨x, hx⟩ : ∃ x, x = (⟨kn, sf, sa, sb, sc, sv, skk, so⟩ : Stp).text := ⟨_, rfl⟩
  rw [← hx] at HX hxl ⊢
  simp only [Stp.cells] at HX
  have HH := Lib.hid (rnum_any h hh)
  have HN := Lib.hid (rnum_any n hn)
  have HB := Lib.hid (rnum_any (bits : Int) (bits_wf hbits))
  have qh := itoa_len h hh
  have qn := itoa_len n hn
  have qb := itoa_len (bits : Int) (bits_wf hbits)
  have HWT : Hid (wordsT kn 10 h n bits yes = [116, 101, 120, 116]) := Lib.hid (by unfold wordsT; rw [if_pos (by omega)]; rfl)
  generalize Lib.itoa h = xh at *
  generalize Lib.itoa n = xn at *
  generalize Lib.itoa (bits : Int) = xb at *
  unfold txt at *
  have HWW := Lib.hid hW
  have HbW := Lib.hid hbW
  have B1 := Lib.hid b1
  have B2 := Lib.hid b2
  have B3 := Lib.hid b3
  rw [HWT.out]
  clear hx hh hn hbits hbW b1 b2 b3 HWT
  cases yes
  all_goals
    go_enter Tryz.func6, Tryz.ntmps6
    go_wp2_with fail
    rw [← HWW.out]
    refine HX.out.mono ?_
    rintro r w1 ⟨rfl, hb1⟩
    have c0 := (B1.out.onB hb1).cell 0
    have d0 := (B2.out.onB hb1).cell 0
    have d1 := (B2.out.onB hb1).cell 1
    have d2 := (B2.out.onB hb1).cell 2
    have d3 := (B2.out.onB hb1).cell 3
    have d4 := (B2.out.onB hb1).cell 4
    have e0 := (B3.out.onB hb1).cell 10
    have HB1 := Lib.hid (HbW.out.trans (hb1.mono HbW.out.size))
    clear hb1
    go_wp2_with fail
    go_ret
    refine ⟨?_, HB1.out⟩
    show Ending.returned (.string _) = .returned (.string _)
    congr 2
    apply ByteArray.ext
    simp [ByteArray.data_append]
set_option maxRecDepth 100000 in
set_option maxHeartbeats 16000000 in
theorem rtold_e11 (kn e : Nat) (sf sa sb sc sv skk : Int) (so : Bool) (h n : Int) (bits : Nat) (yes : Bool) (hs : (⟨kn, sf, sa, sb, sc, sv, skk, so⟩ : Stp).Wf) (hh : (Lit.int .i64 h).wf = true) (hn : (Lit.int .i64 n).wf = true) (hbits : bits ≤ 65535)  (w : World) :
    Calls Tryz.prog 6 #[.agg #[.int .u8 (kn : Nat), .int .u8 sf, .int .i64 sa, .int .i64 sb, .int .i64 sc, .int .i64 sv, .int .u16 skk, .bool so], .agg #[.int .i64 11, .int .i64 h, .int .i64 n, .int .i64 (bits : Nat), .bool yes]] w fun x w' => x = .returned (txt (toldT (⟨kn, sf, sa, sb, sc, sv, skk, so⟩ : Stp).text kn 11 h n bits yes)) ∧ Below w.heap.size w w' := by
  obtain ⟨W, hW⟩ : ∃ W, W = ((w.alloc (.cells #[.int .u8 (kn : Nat), .int .u8 sf, .int .i64 sa, .int .i64 sb, .int .i64 sc, .int .i64 sv, .int .u16 skk, .bool so] 24)).alloc (.cells #[.int .i64 11, .int .i64 h, .int .i64 n, .int .i64 (bits : Nat), .bool yes] 33)).alloc (.cells #[.string { data := #[111, 107] }, .string { data := #[97, 114, 103] }, .string { data := #[110, 105, 108] }, .string { data := #[118, 97, 114] }, .string { data := #[115, 104, 97, 112, 101] }, .string { data := #[104, 97, 110, 100, 108, 101] }, .string { data := #[102, 117, 108, 108] }, .string { data := #[98, 121, 116, 101, 115] }, .string { data := #[111, 114, 100, 101, 114] }, .string { data := #[114, 111, 111, 109] }, .string { data := #[116, 101, 120, 116] }, .string { data := #[110, 111, 110, 101] }, .string { data := #[108, 97, 114, 103, 101] }] 9) := ⟨_, rfl⟩
  have hbW : Below w.heap.size w W := by rw [hW]; exact (((Below.refl _ _).alloc (Nat.le_refl _) _).alloc (by simp) _).alloc (by simp; omega) _
  have b1 : Blk W w.heap.size 24 #[.int .u8 (kn : Nat), .int .u8 sf, .int .i64 sa, .int .i64 sb, .int .i64 sc, .int .i64 sv, .int .u16 skk, .bool so] := by rw [hW]; exact ((Blk.new w _ _).alloc _).alloc _
  have b2 : Blk W (w.heap.size + 1) 33 #[.int .i64 11, .int .i64 h, .int .i64 n, .int .i64 (bits : Nat), .bool yes] := by
    rw [hW]
    have := (Blk.new (w.alloc (.cells #[.int .u8 (kn : Nat), .int .u8 sf, .int .i64 sa, .int .i64 sb, .int .i64 sc, .int .i64 sv, .int .u16 skk, .bool so] 24)) 33 #[.int .i64 11, .int .i64 h, .int .i64 n, .int .i64 (bits : Nat), .bool yes]).alloc (.cells #[.string { data := #[111, 107] }, .string { data := #[97, 114, 103] }, .string { data := #[110, 105, 108] }, .string { data := #[118, 97, 114] }, .string { data := #[115, 104, 97, 112, 101] }, .string { data := #[104, 97, 110, 100, 108, 101] }, .string { data := #[102, 117, 108, 108] }, .string { data := #[98, 121, 116, 101, 115] }, .string { data := #[111, 114, 100, 101, 114] }, .string { data := #[114, 111, 111, 109] }, .string { data := #[116, 101, 120, 116] }, .string { data := #[110, 111, 110, 101] }, .string { data := #[108, 97, 114, 103, 101] }] 9)
    rwa [World.size_alloc] at this
  have b3 : Blk W (w.heap.size + 1 + 1) 9 #[.string { data := #[111, 107] }, .string { data := #[97, 114, 103] }, .string { data := #[110, 105, 108] }, .string { data := #[118, 97, 114] }, .string { data := #[115, 104, 97, 112, 101] }, .string { data := #[104, 97, 110, 100, 108, 101] }, .string { data := #[102, 117, 108, 108] }, .string { data := #[98, 121, 116, 101, 115] }, .string { data := #[111, 114, 100, 101, 114] }, .string { data := #[114, 111, 111, 109] }, .string { data := #[116, 101, 120, 116] }, .string { data := #[110, 111, 110, 101] }, .string { data := #[108, 97, 114, 103, 101] }] := by
    rw [hW]
    have := Blk.new ((w.alloc (.cells #[.int .u8 (kn : Nat), .int .u8 sf, .int .i64 sa, .int .i64 sb, .int .i64 sc, .int .i64 sv, .int .u16 skk, .bool so] 24)).alloc (.cells #[.int .i64 11, .int .i64 h, .int .i64 n, .int .i64 (bits : Nat), .bool yes] 33)) 9 #[.string { data := #[111, 107] }, .string { data := #[97, 114, 103] }, .string { data := #[110, 105, 108] }, .string { data := #[118, 97, 114] }, .string { data := #[115, 104, 97, 112, 101] }, .string { data := #[104, 97, 110, 100, 108, 101] }, .string { data := #[102, 117, 108, 108] }, .string { data := #[98, 121, 116, 101, 115] }, .string { data := #[111, 114, 100, 101, 114] }, .string { data := #[114, 111, 111, 109] }, .string { data := #[116, 101, 120, 116] }, .string { data := #[110, 111, 110, 101] }, .string { data := #[108, 97, 114, 103, 101] }]
    rwa [World.size_alloc, World.size_alloc] at this
  have HX := Lib.hid (rtext_any (⟨kn, sf, sa, sb, sc, sv, skk, so⟩ : Stp) hs W)
  have hxl := text_len _ hs
  obtain ⟨hk8, _⟩ := hs
  simp only at hk8
  unfold toldT
  obtain ⟨x, hx⟩ : ∃ x, x = (⟨kn, sf, sa, sb, sc, sv, skk, so⟩ : Stp).text := ⟨_, rfl⟩
  rw [← hx] at HX hxl ⊢
  simp only [Stp.cells] at HX
  have HH := Lib.hid (rnum_any h hh)
  have HN := Lib.hid (rnum_any n hn)
  have HB := Lib.hid (rnum_any (bits : Int) (bits_wf hbits))
  have qh := itoa_len h hh
  have qn := itoa_len n hn
  have qb := itoa_len (bits : Int) (bits_wf hbits)
  have HWT : Hid (wordsT kn 11 h n bits yes = [110, 111, 110, 101]) := Lib.hid (by unfold wordsT; rw [if_pos (by omega)]; rfl)
  generalize Lib.itoa h = xh at *
  generalize Lib.itoa n = xn at *
  generalize Lib.itoa (bits : Int) = xb at *
  unfold txt at *
  have HWW := Lib.hid hW
  have HbW := Lib.hid hbW
  have B1 := Lib.hid b1
  have B2 := Lib.hid b2
  have B3 := Lib.hid b3
  rw [HWT.out]
  clear hx hh hn hbits hbW b1 b2 b3 HWT
  cases yes
  all_goals
    go_enter Tryz.func6, Tryz.ntmps6
    go_wp2_with fail
    rw [← HWW.out]
    refine HX.out.mono ?_
    rintro r w1 ⟨rfl, hb1⟩
    have c0 := (B1.out.onB hb1).cell 0
    have d0 := (B2.out.onB hb1).cell 0
    have d1 := (B2.out.onB hb1).cell 1
    have d2 := (B2.out.onB hb1).cell 2
    have d3 := (B2.out.onB hb1).cell 3
    have d4 := (B2.out.onB hb1).cell 4
    have e0 := (B3.out.onB hb1).cell 11
    have HB1 := Lib.hid (HbW.out.trans (hb1.mono HbW.out.size))
    clear hb1
    go_wp2_with fail
    go_ret
    refine ⟨?_, HB1.out⟩
    show Ending.returned (.string _) = .returned (.string _)
    congr 2
    apply ByteArray.ext
    simp [ByteArray.data_append]
set_option maxRecDepth 100000 in
set_option maxHeartbeats 16000000 in
theorem rtold_e12 (kn e : Nat) (sf sa sb sc sv skk : Int) (so : Bool) (h n : Int) (bits : Nat) (yes : Bool) (hs : (⟨kn, sf, sa, sb, sc, sv, skk, so⟩ : Stp).Wf) (hh : (Lit.int .i64 h).wf = true) (hn : (Lit.int .i64 n).wf = true) (hbits : bits ≤ 65535)  (w : World) :
    Calls Tryz.prog 6 #[.agg #[.int .u8 (kn : Nat), .int .u8 sf, .int .i64 sa, .int .i64 sb, .int .i64 sc, .int .i64 sv, .int .u16 skk, .bool so], .agg #[.int .i64 12, .int .i64 h, .int .i64 n, .int .i64 (bits : Nat), .bool yes]] w fun x w' => x = .returned (txt (toldT (⟨kn, sf, sa, sb, sc, sv, skk, so⟩ : Stp).text kn 12 h n bits yes)) ∧ Below w.heap.size w w' := by
  obtain ⟨W, hW⟩ : ∃ W, W = ((w.alloc (.cells #[.int .u8 (kn : Nat), .int .u8 sf, .int .i64 sa, .int .i64 sb, .int .i64 sc, .int .i64 sv, .int .u16 skk, .bool so] 24)).alloc (.cells #[.int .i64 12, .int .i64 h, .int .i64 n, .int .i64 (bits : Nat), .bool yes] 33)).alloc (.cells #[.string { data := #[111, 107] }, .string { data := #[97, 114, 103] }, .string { data := #[110, 105, 108] }, .string { data := #[118, 97, 114] }, .string { data := #[115, 104, 97, 112, 101] }, .string { data := #[104, 97, 110, 100, 108, 101] }, .string { data := #[102, 117, 108, 108] }, .string { data := #[98, 121, 116, 101, 115] }, .string { data := #[111, 114, 100, 101, 114] }, .string { data := #[114, 111, 111, 109] }, .string { data := #[116, 101, 120, 116] }, .string { data := #[110, 111, 110, 101] }, .string { data := #[108, 97, 114, 103, 101] }] 9) := ⟨_, rfl⟩
  have hbW : Below w.heap.size w W := by rw [hW]; exact (((Below.refl _ _).alloc (Nat.le_refl _) _).alloc (by simp) _).alloc (by simp; omega) _
  have b1 : Blk W w.heap.size 24 #[.int .u8 (kn : Nat), .int .u8 sf, .int .i64 sa, .int .i64 sb, .int .i64 sc, .int .i64 sv, .int .u16 skk, .bool so] := by rw [hW]; exact ((Blk.new w _ _).alloc _).alloc _
  have b2 : Blk W (w.heap.size + 1) 33 #[.int .i64 12, .int .i64 h, .int .i64 n, .int .i64 (bits : Nat), .bool yes] := by
    rw [hW]
    have := (Blk.new (w.alloc (.cells #[.int .u8 (kn : Nat), .int .u8 sf, .int .i64 sa, .int .i64 sb, .int .i64 sc, .int .i64 sv, .int .u16 skk, .bool so] 24)) 33 #[.int .i64 12, .int .i64 h, .int .i64 n, .int .i64 (bits : Nat), .bool yes]).alloc (.cells #[.string { data := #[111, 107] }, .string { data := #[97, 114, 103] }, .string { data := #[110, 105, 108] }, .string { data := #[118, 97, 114] }, .string { data := #[115, 104, 97, 112, 101] }, .string { data := #[104, 97, 110, 100, 108, 101] }, .string { data := #[102, 117, 108, 108] }, .string { data := #[98, 121, 116, 101, 115] }, .string { data := #[111, 114, 100, 101, 114] }, .string { data := #[114, 111, 111, 109] }, .string { data := #[116, 101, 120, 116] }, .string { data := #[110, 111, 110, 101] }, .string { data := #[108, 97, 114, 103, 101] }] 9)
    rwa [World.size_alloc] at this
  have b3 : Blk W (w.heap.size + 1 + 1) 9 #[.string { data := #[111, 107] }, .string { data := #[97, 114, 103] }, .string { data := #[110, 105, 108] }, .string { data := #[118, 97, 114] }, .string { data := #[115, 104, 97, 112, 101] }, .string { data := #[104, 97, 110, 100, 108, 101] }, .string { data := #[102, 117, 108, 108] }, .string { data := #[98, 121, 116, 101, 115] }, .string { data := #[111, 114, 100, 101, 114] }, .string { data := #[114, 111, 111, 109] }, .string { data := #[116, 101, 120, 116] }, .string { data := #[110, 111, 110, 101] }, .string { data := #[108, 97, 114, 103, 101] }] := by
    rw [hW]
    have := Blk.new ((w.alloc (.cells #[.int .u8 (kn : Nat), .int .u8 sf, .int .i64 sa, .int .i64 sb, .int .i64 sc, .int .i64 sv, .int .u16 skk, .bool so] 24)).alloc (.cells #[.int .i64 12, .int .i64 h, .int .i64 n, .int .i64 (bits : Nat), .bool yes] 33)) 9 #[.string { data := #[111, 107] }, .string { data := #[97, 114, 103] }, .string { data := #[110, 105, 108] }, .string { data := #[118, 97, 114] }, .string { data := #[115, 104, 97, 112, 101] }, .string { data := #[104, 97, 110, 100, 108, 101] }, .string { data := #[102, 117, 108, 108] }, .string { data := #[98, 121, 116, 101, 115] }, .string { data := #[111, 114, 100, 101, 114] }, .string { data := #[114, 111, 111, 109] }, .string { data := #[116, 101, 120, 116] }, .string { data := #[110, 111, 110, 101] }, .string { data := #[108, 97, 114, 103, 101] }]
    rwa [World.size_alloc, World.size_alloc] at this
  have HX := Lib.hid (rtext_any (⟨kn, sf, sa, sb, sc, sv, skk, so⟩ : Stp) hs W)
  have hxl := text_len _ hs
  obtain ⟨hk8, _⟩ := hs
  simp only at hk8
  unfold toldT
  obtain ⟨x, hx⟩ : ∃ x, x = (⟨kn, sf, sa, sb, sc, sv, skk, so⟩ : Stp).text := ⟨_, rfl⟩
  rw [← hx] at HX hxl ⊢
  simp only [Stp.cells] at HX
  have HH := Lib.hid (rnum_any h hh)
  have HN := Lib.hid (rnum_any n hn)
  have HB := Lib.hid (rnum_any (bits : Int) (bits_wf hbits))
  have qh := itoa_len h hh
  have qn := itoa_len n hn
  have qb := itoa_len (bits : Int) (bits_wf hbits)
  have HWT : Hid (wordsT kn 12 h n bits yes = [108, 97, 114, 103, 101]) := Lib.hid (by unfold wordsT; rw [if_pos (by omega)]; rfl)
  generalize Lib.itoa h = xh at *
  generalize Lib.itoa n = xn at *
  generalize Lib.itoa (bits : Int) = xb at *
  unfold txt at *
  have HWW := Lib.hid hW
  have HbW := Lib.hid hbW
  have B1 := Lib.hid b1
  have B2 := Lib.hid b2
  have B3 := Lib.hid b3
  rw [HWT.out]
  clear hx hh hn hbits hbW b1 b2 b3 HWT
  cases yes
  all_goals
    go_enter Tryz.func6, Tryz.ntmps6
    go_wp2_with fail
    rw [← HWW.out]
    refine HX.out.mono ?_
    rintro r w1 ⟨rfl, hb1⟩
    have c0 := (B1.out.onB hb1).cell 0
    have d0 := (B2.out.onB hb1).cell 0
    have d1 := (B2.out.onB hb1).cell 1
    have d2 := (B2.out.onB hb1).cell 2
    have d3 := (B2.out.onB hb1).cell 3
    have d4 := (B2.out.onB hb1).cell 4
    have e0 := (B3.out.onB hb1).cell 12
    have HB1 := Lib.hid (HbW.out.trans (hb1.mono HbW.out.size))
    clear hb1
    go_wp2_with fail
    go_ret
    refine ⟨?_, HB1.out⟩
    show Ending.returned (.string _) = .returned (.string _)
    congr 2
    apply ByteArray.ext
    simp [ByteArray.data_append]
end Go.Proofs.YtnlhibhamechcaaGreatDoor
