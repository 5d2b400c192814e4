/- ExprNil: the law answers true: the walk. -/
import Derived.Test.YtpjciaomhfeeeaaGreatDoorExX
import Derived.Test.YtpjciaomhfeeeaaGreatDoorSetU
import Derived.Test.YtpjciaomhfeeeaaGreatDoorMn
import Derived.Test.YtpjciaomhfeeeaaGreatDoorLeads
namespace Go.Proofs.YtpjciaomhfeeeaaGreatDoor
open Go.RowKit Go.Sort
set_option linter.unusedSimpArgs false
set_option linter.unusedVariables false

theorem info_apply2 : (Tryz.prog.info? 229).map (fun i => (i.zero.map (·.cells.size), i.size, i.bytes)) = some (some 12, 12, 48) := by kernel_rfl
set_option maxRecDepth 100000 in
set_option maxHeartbeats 4000000 in
theorem cacheNew_apply2 (w : World) : Calls Tryz.prog 26 #[.int .i64 2] w fun e w' => (∃ c, e = .returned (.tuple #[.pointer (some ⟨c, 0, none⟩), .int .u8 0])) ∧ Below w.heap.size w w' := by
  obtain ⟨i0, hi, hz⟩ := Option.map_eq_some_iff.1 info_apply2
  injection hz with hz0 hz
  injection hz with hz1 hz2
  obtain ⟨z, hzz, hzs⟩ := Option.map_eq_some_iff.1 hz0
  go_enter Tryz.func26, Tryz.ntmps26
  go_wp2_with (at_make; refine wpList_make_full _ rfl _ _ _ rfl w.heap.size 229 i0 z 12 Tryz.underlying125 hi hzz hz1 .i64 .i64 (4 : Int) (4 : Int) 4 rfl rfl rfl rfl (by rw [hz2]; decide) (by unfold maxLen; omega) (Nat.le_refl _) ?_; intro w1 hown1 hgr1)
  have hb1 : Below w.heap.size w w1 := (Below.refl _ _).grown hgr1 (Nat.le_refl _) (by simp)
  clear hown1 hgr1
  go_wp2_with fail
  go_ret2
  exact ⟨⟨_, rfl⟩, hb1.alloc hb1.size _⟩
theorem info_quant2 : (Tryz.prog.info? 250).map (fun i => (i.zero.map (·.cells.size), i.size, i.bytes)) = some (some 11, 11, 40) := by kernel_rfl
set_option maxRecDepth 100000 in
set_option maxHeartbeats 4000000 in
theorem cacheNew_quant2 (w : World) : Calls Tryz.prog 27 #[.int .i64 2] w fun e w' => (∃ c, e = .returned (.tuple #[.pointer (some ⟨c, 0, none⟩), .int .u8 0])) ∧ Below w.heap.size w w' := by
  obtain ⟨i0, hi, hz⟩ := Option.map_eq_some_iff.1 info_quant2
  injection hz with hz0 hz
  injection hz with hz1 hz2
  obtain ⟨z, hzz, hzs⟩ := Option.map_eq_some_iff.1 hz0
  go_enter Tryz.func27, Tryz.ntmps27
  go_wp2_with (at_make; refine wpList_make_full _ rfl _ _ _ rfl w.heap.size 250 i0 z 11 Tryz.underlying128 hi hzz hz1 .i64 .i64 (4 : Int) (4 : Int) 4 rfl rfl rfl rfl (by rw [hz2]; decide) (by unfold maxLen; omega) (Nat.le_refl _) ?_; intro w1 hown1 hgr1)
  have hb1 : Below w.heap.size w w1 := (Below.refl _ _).grown hgr1 (Nat.le_refl _) (by simp)
  clear hown1 hgr1
  go_wp2_with fail
  go_ret2
  exact ⟨⟨_, rfl⟩, hb1.alloc hb1.size _⟩
set_option maxRecDepth 100000 in
set_option maxHeartbeats 4000000 in
theorem applyNew2_any (g : Nat) (w : World) : Calls Tryz.prog 9 #[.pointer (some ⟨g, 0, none⟩), .int .i64 2] w fun e w' => (∃ c k, e = .returned (.tuple #[.pointer (some ⟨c, 0, none⟩), .int .u8 0]) ∧ Blk w' c 85 #[.pointer (some ⟨g, 0, none⟩), k] ∧ w.heap.size ≤ c) ∧ Below w.heap.size w w' := by
  have HC := Lib.hid (fun W => cacheNew_apply2 W)
  go_enter Tryz.func9, Tryz.ntmps9
  go_wp2_with fail
  refine (HC.out _).mono ?_
  rintro e w1 ⟨⟨c, rfl⟩, hb1⟩
  go_wp2_with fail
  go_ret2
  exact ⟨⟨_, _, rfl, Blk.new w1 _ _, hb1.size⟩, hb1.alloc hb1.size _⟩
set_option maxRecDepth 100000 in
theorem opsStore2_any (c g : Nat) (k : Value) (w : World) (h : Blk w c 85 #[.pointer (some ⟨g, 0, none⟩), k]) : Calls Tryz.prog 17 #[.pointer (some ⟨c, 0, none⟩)] w fun e w' => e = .returned (.pointer (some ⟨g, 0, none⟩)) ∧ w = w' := by
  have k0 : w.cell? ⟨c, 0, none⟩ = some (.pointer (some ⟨g, 0, none⟩)) := h.cell 0
  go_enter Tryz.func17, Tryz.ntmps17
  go_wp2_with fail
  go_ret
  exact ⟨rfl, rfl⟩
set_option maxRecDepth 100000 in
set_option maxHeartbeats 4000000 in
theorem quantNew2_any (c g : Nat) (k : Value) (w : World) (h : Blk w c 85 #[.pointer (some ⟨g, 0, none⟩), k]) : Calls Tryz.prog 10 #[.pointer (some ⟨c, 0, none⟩), .int .i64 2] w fun e w' => (∃ q, e = .returned (.tuple #[.pointer (some ⟨q, 0, none⟩), .int .u8 0])) ∧ Below w.heap.size w w' := by
  have HC := Lib.hid (fun W => cacheNew_quant2 W)
  have HO := Lib.hid (fun W (h : Blk W c 85 #[.pointer (some ⟨g, 0, none⟩), k]) => opsStore2_any c g k W h)
  have HK := Lib.hid h
  clear h
  go_enter Tryz.func10, Tryz.ntmps10
  go_wp2_with fail
  refine (HC.out _).mono ?_
  rintro e w1 ⟨⟨d, rfl⟩, hb1⟩
  have HB := Lib.hid hb1
  clear hb1
  go_wp2_with fail
  refine (HO.out _ (HK.out.onB HB.out)).mono ?_
  rintro e w2 ⟨rfl, rfl⟩
  go_wp2_with fail
  go_ret2
  exact ⟨⟨_, rfl⟩, HB.out.alloc HB.out.size _⟩
theorem lex_o1 : lex [49] 0 = [⟨49, 0, 0⟩, ⟨122, 0, 1⟩] := by
  have h := lex_word (w := [49]) (l := []) 0 (by decide) (by simp) (by simp)
  simp only [List.append_nil] at h
  rw [h, lex_nil]
  rfl
theorem parse_one (w : World) (hV : PV w) : Calls Tryz.prog 7 #[.string ⟨#[49]⟩] w fun e w' => (∃ g, e = .returned (.tuple #[.pointer (some ⟨g, 0, none⟩), .int .i64 0, .int .u8 0])) ∧ Below w.heap.size w w' := by
  refine (parse_any [49] w (by decide) hV).mono ?_
  rintro e w' ⟨hb, ⟨h, _⟩ | ⟨_, c, p, hw, hc, _⟩ | ⟨_, _, L, z, x, g, h1, h2, h3, h4, h5, h6, h7, h8, h9, h10, h11⟩⟩
  · exact absurd h (by decide)
  · have hl : wrongGo [] 0 (lex [49] 0) = (0, 0) := by rw [lex_o1]; decide
    rw [hl] at hw
    injection hw with e1 e2
    omega
  · exact ⟨⟨g, h9⟩, hb⟩
set_option maxRecDepth 100000 in
set_option maxHeartbeats 4000000 in
theorem stage_one (A : Option Addr) (c : Nat) (w : World) (ha : Ints w w.heap.size A [0]) : Calls Tryz.prog 8 #[.int .i64 9, .slice A 1 c] w fun e w' => (∃ g o, e = .returned (.tuple #[.pointer (some ⟨g, 0, none⟩), .pointer (some ⟨o, 0, none⟩), .bool true])) ∧ Below w.heap.size w w' := by
  have HA := Lib.hid ha
  clear ha
  have hp : IsPerm [0] := by
    refine ⟨by simp, by simp, fun v hv => ?_⟩
    have : v = 0 := by simp at hv; omega
    subst this
    simp
  have HP := Lib.hid hp
  clear hp
  go_enter Tryz.func8, Tryz.ntmps8
  go_wp2_with fail
  refine (storeNew_yes 1 9 _ (by omega) (by omega) (by omega) (by omega)).mono ?_
  rintro e w1 ⟨⟨g, F, rfl, _, _⟩, hb1⟩
  have HB := Lib.hid hb1
  clear hb1
  go_wp2_with fail
  refine (orderOf_yes A 1 c [0] w1 rfl HP.out (HA.out.on HB.out)).mono ?_
  rintro e w2 ⟨o, G, ls, rfl, _, _, _, hb2⟩
  have HB2 := Lib.hid (HB.out.trans (hb2.mono HB.out.size))
  clear hb2
  go_wp2_with fail
  go_ret3
  exact ⟨⟨_, _, rfl⟩, HB2.out⟩
set_option maxRecDepth 100000 in
set_option maxHeartbeats 4000000 in
theorem edgeNil_0 (f : Int) (w : World) : Calls Tryz.prog 6 #[.pointer none, .pointer none, .pointer none, .pointer none, .int .u8 f] w fun e w' => e = .returned (.tuple #[.agg #[.int .u8 0, .int .u32 0], .int .u8 2]) ∧ Below w.heap.size w w' := by
  go_enter Tryz.func6, Tryz.ntmps6
  go_wp2_with fail
  refine bodyPost_ret (v := .tuple #[.agg #[.int .u8 0, .int .u32 0], .int .u8 2]) (by simp [results, Tryz.results6, go_sem, *]) rfl ⟨rfl, ?_⟩
  repeat (first | exact Below.refl _ _ | refine Below.setCell ?_ (Nat.le_refl _) _ | refine Below.alloc ?_ (by simp) _)
set_option maxRecDepth 100000 in
set_option maxHeartbeats 4000000 in
theorem edgeNil_1 (x a o : Nat) (f : Int) (w : World) : Calls Tryz.prog 6 #[.pointer (some ⟨x, 0, none⟩), .pointer none, .pointer (some ⟨a, 0, none⟩), .pointer (some ⟨o, 0, none⟩), .int .u8 f] w fun e w' => e = .returned (.tuple #[.agg #[.int .u8 0, .int .u32 0], .int .u8 2]) ∧ Below w.heap.size w w' := by
  go_enter Tryz.func6, Tryz.ntmps6
  go_wp2_with fail
  refine bodyPost_ret (v := .tuple #[.agg #[.int .u8 0, .int .u32 0], .int .u8 2]) (by simp [results, Tryz.results6, go_sem, *]) rfl ⟨rfl, ?_⟩
  repeat (first | exact Below.refl _ _ | refine Below.setCell ?_ (Nat.le_refl _) _ | refine Below.alloc ?_ (by simp) _)
set_option maxRecDepth 100000 in
set_option maxHeartbeats 4000000 in
theorem edgeNil_2 (x q o : Nat) (f : Int) (w : World) : Calls Tryz.prog 6 #[.pointer (some ⟨x, 0, none⟩), .pointer (some ⟨q, 0, none⟩), .pointer none, .pointer (some ⟨o, 0, none⟩), .int .u8 f] w fun e w' => e = .returned (.tuple #[.agg #[.int .u8 0, .int .u32 0], .int .u8 2]) ∧ Below w.heap.size w w' := by
  go_enter Tryz.func6, Tryz.ntmps6
  go_wp2_with fail
  refine bodyPost_ret (v := .tuple #[.agg #[.int .u8 0, .int .u32 0], .int .u8 2]) (by simp [results, Tryz.results6, go_sem, *]) rfl ⟨rfl, ?_⟩
  repeat (first | exact Below.refl _ _ | refine Below.setCell ?_ (Nat.le_refl _) _ | refine Below.alloc ?_ (by simp) _)
set_option maxRecDepth 100000 in
set_option maxHeartbeats 4000000 in
theorem edgeNil_3 (x q a : Nat) (f : Int) (w : World) : Calls Tryz.prog 6 #[.pointer (some ⟨x, 0, none⟩), .pointer (some ⟨q, 0, none⟩), .pointer (some ⟨a, 0, none⟩), .pointer none, .int .u8 f] w fun e w' => e = .returned (.tuple #[.agg #[.int .u8 0, .int .u32 0], .int .u8 2]) ∧ Below w.heap.size w w' := by
  go_enter Tryz.func6, Tryz.ntmps6
  go_wp2_with fail
  refine bodyPost_ret (v := .tuple #[.agg #[.int .u8 0, .int .u32 0], .int .u8 2]) (by simp [results, Tryz.results6, go_sem, *]) rfl ⟨rfl, ?_⟩
  repeat (first | exact Below.refl _ _ | refine Below.setCell ?_ (Nat.le_refl _) _ | refine Below.alloc ?_ (by simp) _)
set_option maxRecDepth 100000 in
set_option maxHeartbeats 4000000 in
theorem exSet0 (n : Int) (w : World) : Calls Tryz.prog 5 #[.pointer none, .int .i64 n] w fun e w' => e = .returned (.tuple #[.agg #[.int .i64 0, .slice none 0 0], .int .u8 2]) ∧ Below w.heap.size w w' := by
  go_enter Tryz.func5, Tryz.ntmps5
  go_wp2_with fail
  refine bodyPost_ret (v := .tuple #[.agg #[.int .i64 0, .slice none 0 0], .int .u8 2]) (by simp [results, Tryz.results5, go_sem, *]) rfl ⟨rfl, ?_⟩
  repeat (first | exact Below.refl _ _ | refine Below.setCell ?_ (Nat.le_refl _) _ | refine Below.alloc ?_ (by simp) _)
set_option maxRecDepth 100000 in
set_option maxHeartbeats 4000000 in
theorem exText0 (w : World) : Calls Tryz.prog 11 #[.pointer none] w fun e w' => e = .returned (.string ⟨#[]⟩) ∧ Below w.heap.size w w' := by
  go_enter Tryz.func11, Tryz.ntmps11
  go_wp2_with fail
  go_ret
  exact ⟨rfl, Below.refl _ _⟩
set_option maxRecDepth 100000 in
set_option maxHeartbeats 4000000 in
theorem exVars0 (w : World) : Calls Tryz.prog 12 #[.pointer none] w fun e w' => e = .returned (.int .u16 0) ∧ Below w.heap.size w w' := by
  go_enter Tryz.func12, Tryz.ntmps12
  go_wp2_with fail
  go_ret
  exact ⟨rfl, Below.refl _ _⟩
set_option maxRecDepth 100000 in
set_option maxHeartbeats 4000000 in
theorem exFree0 (w : World) : Calls Tryz.prog 13 #[.pointer none] w fun e w' => e = .returned (.int .u16 0) ∧ Below w.heap.size w w' := by
  go_enter Tryz.func13, Tryz.ntmps13
  go_wp2_with fail
  go_ret
  exact ⟨rfl, Below.refl _ _⟩
set_option maxRecDepth 100000 in
set_option maxHeartbeats 4000000 in
theorem exHolds0 (y : Int) (w : World) : Calls Tryz.prog 14 #[.pointer none, .int .i64 y] w fun e w' => e = .returned (.bool false) ∧ Below w.heap.size w w' := by
  go_enter Tryz.func14, Tryz.ntmps14
  go_wp2_with fail
  go_ret
  exact ⟨rfl, Below.refl _ _⟩
set_option maxRecDepth 200000 in
set_option maxHeartbeats 16000000 in
theorem enil_walk (n y f : Int) (w : World) (hV : PV w) : Calls Tryz.prog 3 #[.int .i64 n, .int .i64 y, .int .u8 f] w fun e w' => e = .returned (.bool true) ∧ Below w.heap.size w w' := by
  have HV := Lib.hid hV
  have HZ := Lib.hid (fun W => rzero_any 0 none 0 0 W true rfl)
  unfold setA at HZ
  clear hV
  go_enter Tryz.func3, Tryz.ntmps3
  go_wp2_with fail
  refine (alive29_any w HV.out).mono ?_
  rintro e w1 ⟨rfl, hb1⟩
  have HB1 := Lib.hid hb1
  clear hb1
  go_wp2_with fail
  refine (exSet0 n _).mono ?_
  rintro e w2 ⟨rfl, hb2⟩
  have HB2 := Lib.hid (HB1.out.trans (hb2.mono HB1.out.size))
  clear hb2
  go_wp2_with fail
  have hbs : Blk (w2.alloc (.cells #[.int .i64 0, .slice none 0 0] 26)) w2.heap.size 26 #[.int .i64 0, .slice none 0 0] := Blk.new _ _ _
  have hb2 : Below w.heap.size w (w2.alloc (.cells #[.int .i64 0, .slice none 0 0] 26)) := HB2.out.alloc HB2.out.size _

  have HBS := Lib.hid hbs
  have HB2' := Lib.hid hb2
  clear hbs hb2
  refine (edgeNil_0 f _).mono ?_
  rintro e w3 ⟨rfl, hb3⟩
  have HB3 := Lib.hid (HB2'.out.trans (hb3.mono HB2'.out.size))
  have HS3 := Lib.hid (HBS.out.onB hb3)
  clear hb3 HBS HB2 HB2'
  go_wp2_with fail
  refine (parse_one _ (HV.out.on (by first | exact HB3.out | exact HB3.out.alloc HB3.out.size _))).mono ?_
  rintro e w4 ⟨⟨g1, rfl⟩, hb⟩
  have HB4 : Hid (Below w.heap.size w w4) := Lib.hid (by first | exact HB3.out.trans (hb.mono HB3.out.size) | exact (HB3.out.alloc HB3.out.size _).trans (hb.mono (HB3.out.alloc HB3.out.size _).size))
  have HS4 : Hid (Blk w4 w2.heap.size 26 #[.int .i64 0, .slice none 0 0]) := Lib.hid (by first | exact HS3.out.onB hb | exact (HS3.out.alloc _).onB hb)
  have HZ4 : Hid (Blk w4 w3.heap.size 32 #[.int .u8 0, .int .u32 0]) := Lib.hid ((Blk.new w3 _ _).onB hb)
  clear hb
  go_wp2_with fail
  refine (stage_one _ _ _ ?_).mono ?_
  · intro _
    refine ⟨_, _, rfl, by simp, fun k hk => ?_⟩
    obtain rfl : k = 0 := by simpa using hk
    first | exact (Blk.new w4 _ _).cell 0 | skip
  rintro e w5 ⟨⟨g2, o2, rfl⟩, hb⟩
  have HB5 : Hid (Below w.heap.size w w5) := Lib.hid (by first | exact HB4.out.trans (hb.mono HB4.out.size) | exact (HB4.out.alloc HB4.out.size _).trans (hb.mono (HB4.out.alloc HB4.out.size _).size))
  have HS5 : Hid (Blk w5 w2.heap.size 26 #[.int .i64 0, .slice none 0 0]) := Lib.hid (by first | exact HS4.out.onB hb | exact (HS4.out.alloc _).onB hb)
  have HZ5 : Hid (Blk w5 w3.heap.size 32 #[.int .u8 0, .int .u32 0]) := Lib.hid (by first | exact HZ4.out.onB hb | exact (HZ4.out.alloc _).onB hb)
  clear hb
  go_wp2_with fail
  refine (applyNew2_any _ _).mono ?_
  rintro e w6 ⟨⟨c6, k6, rfl, hk6, hc6⟩, hb⟩
  have HB6 : Hid (Below w.heap.size w w6) := Lib.hid (by first | exact HB5.out.trans (hb.mono HB5.out.size) | exact (HB5.out.alloc HB5.out.size _).trans (hb.mono (HB5.out.alloc HB5.out.size _).size))
  have HS6 : Hid (Blk w6 w2.heap.size 26 #[.int .i64 0, .slice none 0 0]) := Lib.hid (by first | exact HS5.out.onB hb | exact (HS5.out.alloc _).onB hb)
  have HZ6 : Hid (Blk w6 w3.heap.size 32 #[.int .u8 0, .int .u32 0]) := Lib.hid (by first | exact HZ5.out.onB hb | exact (HZ5.out.alloc _).onB hb)
  have HK6 := Lib.hid hk6
  clear hb hk6 hc6
  go_wp2_with fail
  refine (quantNew2_any _ _ _ _ HK6.out).mono ?_
  rintro e w7 ⟨⟨q7, rfl⟩, hb⟩
  have HB7 : Hid (Below w.heap.size w w7) := Lib.hid (by first | exact HB6.out.trans (hb.mono HB6.out.size) | exact (HB6.out.alloc HB6.out.size _).trans (hb.mono (HB6.out.alloc HB6.out.size _).size))
  have HS7 : Hid (Blk w7 w2.heap.size 26 #[.int .i64 0, .slice none 0 0]) := Lib.hid (by first | exact HS6.out.onB hb | exact (HS6.out.alloc _).onB hb)
  have HZ7 : Hid (Blk w7 w3.heap.size 32 #[.int .u8 0, .int .u32 0]) := Lib.hid (by first | exact HZ6.out.onB hb | exact (HZ6.out.alloc _).onB hb)
  clear hb
  go_wp2_with fail
  refine (edgeNil_1 _ _ _ _ _).mono ?_
  rintro e w8 ⟨rfl, hb⟩
  have HB8 : Hid (Below w.heap.size w w8) := Lib.hid (by first | exact HB7.out.trans (hb.mono HB7.out.size) | exact (HB7.out.alloc HB7.out.size _).trans (hb.mono (HB7.out.alloc HB7.out.size _).size))
  have HS8 : Hid (Blk w8 w2.heap.size 26 #[.int .i64 0, .slice none 0 0]) := Lib.hid (by first | exact HS7.out.onB hb | exact (HS7.out.alloc _).onB hb)
  have HZ8 : Hid (Blk w8 w3.heap.size 32 #[.int .u8 0, .int .u32 0]) := Lib.hid (by first | exact HZ7.out.onB hb | exact (HZ7.out.alloc _).onB hb)
  clear hb
  go_wp2_with fail
  refine (edgeNil_2 _ _ _ _ _).mono ?_
  rintro e w9 ⟨rfl, hb⟩
  have HB9 : Hid (Below w.heap.size w w9) := Lib.hid (by first | exact HB8.out.trans (hb.mono HB8.out.size) | exact (HB8.out.alloc HB8.out.size _).trans (hb.mono (HB8.out.alloc HB8.out.size _).size))
  have HS9 : Hid (Blk w9 w2.heap.size 26 #[.int .i64 0, .slice none 0 0]) := Lib.hid (by first | exact HS8.out.onB hb | exact (HS8.out.alloc _).onB hb)
  have HZ9 : Hid (Blk w9 w3.heap.size 32 #[.int .u8 0, .int .u32 0]) := Lib.hid (by first | exact HZ8.out.onB hb | exact (HZ8.out.alloc _).onB hb)
  clear hb
  go_wp2_with fail
  refine (edgeNil_3 _ _ _ _ _).mono ?_
  rintro e w10 ⟨rfl, hb⟩
  have HB10 : Hid (Below w.heap.size w w10) := Lib.hid (by first | exact HB9.out.trans (hb.mono HB9.out.size) | exact (HB9.out.alloc HB9.out.size _).trans (hb.mono (HB9.out.alloc HB9.out.size _).size))
  have HS10 : Hid (Blk w10 w2.heap.size 26 #[.int .i64 0, .slice none 0 0]) := Lib.hid (by first | exact HS9.out.onB hb | exact (HS9.out.alloc _).onB hb)
  have HZ10 : Hid (Blk w10 w3.heap.size 32 #[.int .u8 0, .int .u32 0]) := Lib.hid (by first | exact HZ9.out.onB hb | exact (HZ9.out.alloc _).onB hb)
  clear hb
  go_wp2_with fail
  refine (exText0 _).mono ?_
  rintro e w11 ⟨rfl, hb⟩
  have HB11 : Hid (Below w.heap.size w w11) := Lib.hid (by first | exact HB10.out.trans (hb.mono HB10.out.size) | exact (HB10.out.alloc HB10.out.size _).trans (hb.mono (HB10.out.alloc HB10.out.size _).size))
  have HS11 : Hid (Blk w11 w2.heap.size 26 #[.int .i64 0, .slice none 0 0]) := Lib.hid (by first | exact HS10.out.onB hb | exact (HS10.out.alloc _).onB hb)
  have HZ11 : Hid (Blk w11 w3.heap.size 32 #[.int .u8 0, .int .u32 0]) := Lib.hid (by first | exact HZ10.out.onB hb | exact (HZ10.out.alloc _).onB hb)
  clear hb
  go_wp2_with fail
  refine (exVars0 _).mono ?_
  rintro e w12 ⟨rfl, hb⟩
  have HB12 : Hid (Below w.heap.size w w12) := Lib.hid (by first | exact HB11.out.trans (hb.mono HB11.out.size) | exact (HB11.out.alloc HB11.out.size _).trans (hb.mono (HB11.out.alloc HB11.out.size _).size))
  have HS12 : Hid (Blk w12 w2.heap.size 26 #[.int .i64 0, .slice none 0 0]) := Lib.hid (by first | exact HS11.out.onB hb | exact (HS11.out.alloc _).onB hb)
  have HZ12 : Hid (Blk w12 w3.heap.size 32 #[.int .u8 0, .int .u32 0]) := Lib.hid (by first | exact HZ11.out.onB hb | exact (HZ11.out.alloc _).onB hb)
  clear hb
  go_wp2_with fail
  refine (exFree0 _).mono ?_
  rintro e w13 ⟨rfl, hb⟩
  have HB13 : Hid (Below w.heap.size w w13) := Lib.hid (by first | exact HB12.out.trans (hb.mono HB12.out.size) | exact (HB12.out.alloc HB12.out.size _).trans (hb.mono (HB12.out.alloc HB12.out.size _).size))
  have HS13 : Hid (Blk w13 w2.heap.size 26 #[.int .i64 0, .slice none 0 0]) := Lib.hid (by first | exact HS12.out.onB hb | exact (HS12.out.alloc _).onB hb)
  have HZ13 : Hid (Blk w13 w3.heap.size 32 #[.int .u8 0, .int .u32 0]) := Lib.hid (by first | exact HZ12.out.onB hb | exact (HZ12.out.alloc _).onB hb)
  clear hb
  go_wp2_with fail
  refine (exHolds0 y _).mono ?_
  rintro e w14 ⟨rfl, hb⟩
  have HB14 : Hid (Below w.heap.size w w14) := Lib.hid (by first | exact HB13.out.trans (hb.mono HB13.out.size) | exact (HB13.out.alloc HB13.out.size _).trans (hb.mono (HB13.out.alloc HB13.out.size _).size))
  have HS14 : Hid (Blk w14 w2.heap.size 26 #[.int .i64 0, .slice none 0 0]) := Lib.hid (by first | exact HS13.out.onB hb | exact (HS13.out.alloc _).onB hb)
  have HZ14 : Hid (Blk w14 w3.heap.size 32 #[.int .u8 0, .int .u32 0]) := Lib.hid (by first | exact HZ13.out.onB hb | exact (HZ13.out.alloc _).onB hb)
  clear hb
  have j0 := HS14.out.cell 0
  have j1 := HS14.out.cell 1
  go_wp2_with fail
  refine (HZ.out _).mono ?_
  rintro e w15 ⟨rfl, hb⟩
  have HB15 : Hid (Below w.heap.size w w15) := Lib.hid (by first | exact HB14.out.trans (hb.mono HB14.out.size) | exact (HB14.out.alloc HB14.out.size _).trans (hb.mono (HB14.out.alloc HB14.out.size _).size))
  have HS15 : Hid (Blk w15 w2.heap.size 26 #[.int .i64 0, .slice none 0 0]) := Lib.hid (by first | exact HS14.out.onB hb | exact (HS14.out.alloc _).onB hb)
  have HZ15 : Hid (Blk w15 w3.heap.size 32 #[.int .u8 0, .int .u32 0]) := Lib.hid (by first | exact HZ14.out.onB hb | exact (HZ14.out.alloc _).onB hb)
  clear hb j0 j1
  have j0 := HZ15.out.cell 0
  have j1 := HZ15.out.cell 1
  go_wp2_with fail
  go_ret
  exact ⟨rfl, HB15.out⟩
end Go.Proofs.YtpjciaomhfeeeaaGreatDoor
