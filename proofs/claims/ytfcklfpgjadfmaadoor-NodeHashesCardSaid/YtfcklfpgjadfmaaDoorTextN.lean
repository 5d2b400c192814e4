/- The texts of records: the program's and the document's. -/
import Derived.Test.YtfcklfpgjadfmaaDoorNum
import Derived.Test.YtfcklfpgjadfmaaDoorFoot
import Derived.Test.YtfcklfpgjadfmaaDoorRec
import Derived.Test.YtfcklfpgjadfmaaDoorQuiet
namespace Go.Proofs.YtfcklfpgjadfmaaDoor
open Go.RowKit Go.Sort
set_option linter.unusedSimpArgs false
set_option linter.unusedVariables false

theorem itoa_p (n : Nat) (w : World) (hn : n ≤ 9223372036854775807) (h : n < 100 ∨ Pow w) : Calls Tryd.prog 68 #[.int .i64 (n : Nat)] w fun e w' => e = .returned (txt (Lib.decDigits n)) ∧ Below w.heap.size w w' := by
  by_cases hs : n < 100
  · exact itoa_sm n w hs
  · exact itoa_nat n w hn (h.resolve_left hs)
theorem fmtU_p (n : Nat) (w : World) (hn : n < 18446744073709551616) (h : n < 100 ∨ Pow w) : Calls Tryd.prog 105 #[.int .u64 (n : Nat), .int .i64 10] w fun e w' => e = .returned (txt (Lib.decDigits n)) ∧ Below w.heap.size w w' := by
  by_cases hs : n < 100
  · exact fmtU_sm n w hs
  · exact fmtU_any n w hn (h.resolve_left hs)
/-- a form's name -/
def nameL (f : Nat) : List UInt8 := if f = 1 then [98, 100, 100] else if f = 2 then [122, 100, 100] else if f = 3 then [99, 98, 100, 100] else if f = 4 then [99, 122, 100, 100] else if f = 5 then [116, 98, 100, 100] else [110, 111, 110, 101]
def edgeT (t p : Nat) : List UInt8 := Lib.decDigits p ++ (if t = 0 then [] else 64 :: Lib.decDigits t)
def textT (f t b lt lp ht hp : Nat) : List UInt8 := nameL f ++ 32 :: (Lib.decDigits t ++ 58 :: (Lib.decDigits b ++ 32 :: (edgeT lt lp ++ 32 :: edgeT ht hp)))
theorem nameL_len (f : Nat) : (nameL f).length ≤ 4 := by unfold nameL; (repeat' split) <;> simp
theorem edgeT_len (t p : Nat) (ht : t < 18446744073709551616) (hp : p < 18446744073709551616) : (edgeT t p).length ≤ 41 := by
  unfold edgeT
  have h1 := digs_len p hp
  have h2 := digs_len t ht
  split <;> simp <;> omega
set_option maxRecDepth 100000 in
theorem name_any (f : Nat) (hf : f ≤ 255) (w : World) : Calls Tryd.prog 67 #[.int .u8 (f : Nat)] w fun e w' => e = .returned (txt (nameL f)) ∧ w = w' := by
  by_cases h1 : f = 1
  · subst h1
    go_enter Tryd.func67, Tryd.ntmps67
    go_wp2_with fail
    go_ret
    exact ⟨rfl, rfl⟩
  by_cases h2 : f = 2
  · subst h2
    go_enter Tryd.func67, Tryd.ntmps67
    go_wp2_with fail
    go_ret
    exact ⟨rfl, rfl⟩
  by_cases h3 : f = 3
  · subst h3
    go_enter Tryd.func67, Tryd.ntmps67
    go_wp2_with fail
    go_ret
    exact ⟨rfl, rfl⟩
  by_cases h4 : f = 4
  · subst h4
    go_enter Tryd.func67, Tryd.ntmps67
    go_wp2_with fail
    go_ret
    exact ⟨rfl, rfl⟩
  by_cases h5 : f = 5
  · subst h5
    go_enter Tryd.func67, Tryd.ntmps67
    go_wp2_with fail
    go_ret
    exact ⟨rfl, rfl⟩
  have e1 : ((f : Int) == 1) = false := by rw [beq_eq_false_iff_ne]; omega
  have e2 : ((f : Int) == 2) = false := by rw [beq_eq_false_iff_ne]; omega
  have e3 : ((f : Int) == 3) = false := by rw [beq_eq_false_iff_ne]; omega
  have e4 : ((f : Int) == 4) = false := by rw [beq_eq_false_iff_ne]; omega
  have e5 : ((f : Int) == 5) = false := by rw [beq_eq_false_iff_ne]; omega
  have hn : nameL f = [110, 111, 110, 101] := by unfold nameL; simp [h1, h2, h3, h4, h5]
  rw [hn]
  clear hn h1 h2 h3 h4 h5
  go_enter Tryd.func67, Tryd.ntmps67
  go_wp2_with fail
  go_ret
  exact ⟨rfl, rfl⟩
set_option maxRecDepth 100000 in
set_option maxHeartbeats 1000000 in
theorem edge_any (t p : Nat) (ht : t ≤ 255) (hp : p ≤ 4294967295) (w : World) (h : (t < 100 ∧ p < 100) ∨ Pow w) : Calls Tryd.prog 69 #[.agg #[.int .u8 (t : Nat), .int .u32 (p : Nat)]] w fun e w' => e = .returned (txt (edgeT t p)) ∧ Below w.heap.size w w' := by
  have HP := Lib.hid (fun (W : World) (hW : Below w.heap.size w W) => fmtU_p p W (by omega) (h.imp (fun q => q.2) (fun q => q.on hW)))
  have HT := Lib.hid (fun (W : World) (hW : Below w.heap.size w W) => itoa_p t W (by omega) (h.imp (fun q => q.1) (fun q => q.on hW)))
  have l1 := digs_len p (by omega)
  have l2 := digs_len t (by omega)
  unfold edgeT
  generalize Lib.decDigits p = x at *
  generalize Lib.decDigits t = y at *
  have HB0 := Lib.hid ((Below.refl w.heap.size w).alloc (Nat.le_refl _) (.cells #[.int .u8 (t : Nat), .int .u32 (p : Nat)] 25))
  have HK := Lib.hid (Blk.new w 25 #[.int .u8 (t : Nat), .int .u32 (p : Nat)])
  clear h
  by_cases h0 : t = 0
  · subst h0
    rw [if_pos rfl, List.append_nil]
    go_enter Tryd.func69, Tryd.ntmps69
    go_wp2_with fail
    refine (HP.out _ HB0.out).mono ?_
    rintro e w1 ⟨rfl, hb1⟩
    have k0 : w1.cell? ⟨w.heap.size, 0, none⟩ = some (.int .u8 0) := (HK.out.chg (F := []) (chg_of_below hb1) (by simp)).cell 0
    have HB1 := Lib.hid (HB0.out.trans (hb1.mono HB0.out.size))
    unfold txt
    clear hb1
    go_wp2_with fail
    go_ret
    exact ⟨rfl, HB1.out⟩
  · have e0 : ((t : Int) == 0) = false := by rw [beq_eq_false_iff_ne]; omega
    rw [if_neg h0]
    clear h0
    go_enter Tryd.func69, Tryd.ntmps69
    go_wp2_with fail
    refine (HP.out _ HB0.out).mono ?_
    rintro e w1 ⟨rfl, hb1⟩
    have k0 : w1.cell? ⟨w.heap.size, 0, none⟩ = some (.int .u8 (t : Nat)) := (HK.out.chg (F := []) (chg_of_below hb1) (by simp)).cell 0
    have HB1 := Lib.hid (HB0.out.trans (hb1.mono HB0.out.size))
    unfold txt
    clear hb1
    go_wp2_with fail
    refine (HT.out _ HB1.out).mono ?_
    rintro e w2 ⟨rfl, hb2⟩
    unfold txt
    clear k0
    go_wp2_with fail
    go_ret
    refine ⟨?_, HB1.out.trans (hb2.mono HB1.out.size)⟩
    show Ending.returned (.string _) = .returned (.string _)
    congr 2
    apply ByteArray.ext
    simp [ByteArray.data_append]
theorem text_bytes (n t b lo hi : List UInt8) :
    ((⟨n.toArray⟩ : ByteArray) ++ ⟨#[32]⟩ ++ ⟨t.toArray⟩ ++ ⟨#[58]⟩ ++ ⟨b.toArray⟩ ++ ⟨#[32]⟩ ++ ⟨lo.toArray⟩ ++ ⟨#[32]⟩ ++ ⟨hi.toArray⟩) = ⟨(n ++ 32 :: (t ++ 58 :: (b ++ 32 :: (lo ++ 32 :: hi)))).toArray⟩ := by
  apply ByteArray.ext
  simp [ByteArray.data_append]
set_option maxRecDepth 100000 in
set_option maxHeartbeats 2000000 in
theorem text_any (f t b lt lp ht hp : Nat) (q1 : f ≤ 255) (q2 : t ≤ 255) (q3 : b ≤ 255) (q4 : lt ≤ 255) (q5 : lp ≤ 4294967295) (q6 : ht ≤ 255) (q7 : hp ≤ 4294967295) (w : World) (h : (t < 100 ∧ b < 100 ∧ lt < 100 ∧ lp < 100 ∧ ht < 100 ∧ hp < 100) ∨ Pow w) :
    Calls Tryd.prog 16 #[.agg #[.int .u8 (f : Nat), .int .u8 (t : Nat), .int .u8 (b : Nat), .int .u8 (lt : Nat), .int .u32 (lp : Nat), .int .u8 (ht : Nat), .int .u32 (hp : Nat)]] w fun e w' => e = .returned (txt (textT f t b lt lp ht hp)) ∧ Below w.heap.size w w' := by
  obtain ⟨W, hW⟩ : ∃ W, W = w.alloc (.cells #[.int .u8 (f : Nat), .int .u8 (t : Nat), .int .u8 (b : Nat), .int .u8 (lt : Nat), .int .u32 (lp : Nat), .int .u8 (ht : Nat), .int .u32 (hp : Nat)] 27) := ⟨_, rfl⟩
  have hbW : Below w.heap.size w W := by rw [hW]; exact (Below.refl _ _).alloc (Nat.le_refl _) _
  have hBW : Blk W w.heap.size 27 #[.int .u8 (f : Nat), .int .u8 (t : Nat), .int .u8 (b : Nat), .int .u8 (lt : Nat), .int .u32 (lp : Nat), .int .u8 (ht : Nat), .int .u32 (hp : Nat)] := by rw [hW]; exact Blk.new w _ _
  have c1 := regrown_calls (W := W) (fun W' hW' => (name_any f q1 W').mono fun _ _ ⟨he, hb⟩ => ⟨he, by rw [← hb]; exact hW'⟩)
  have hPw : (t < 100 ∧ b < 100 ∧ lt < 100 ∧ lp < 100 ∧ ht < 100 ∧ hp < 100) ∨ Pow W := h.imp id (fun q => q.on hbW)
  have c2 := regrown_calls (W := W) (fun W' hW' => (itoa_p t W' (by omega) (hPw.imp (fun q => q.1) (fun q => q.on hW'))).mono fun _ _ ⟨he, hb⟩ => ⟨he, hW'.trans (hb.mono hW'.size)⟩)
  have c3 := regrown_calls (W := W) (fun W' hW' => (itoa_p b W' (by omega) (hPw.imp (fun q => q.2.1) (fun q => q.on hW'))).mono fun _ _ ⟨he, hb⟩ => ⟨he, hW'.trans (hb.mono hW'.size)⟩)
  have c4 := regrown_calls (W := W) (fun W' hW' => (edge_any lt lp q4 q5 W' (hPw.imp (fun q => ⟨q.2.2.1, q.2.2.2.1⟩) (fun q => q.on hW'))).mono fun _ _ ⟨he, hb⟩ => ⟨he, hW'.trans (hb.mono hW'.size)⟩)
  have c5 := regrown_calls (W := W) (fun W' hW' => (edge_any ht hp q6 q7 W' (hPw.imp (fun q => q.2.2.2.2) (fun q => q.on hW'))).mono fun _ _ ⟨he, hb⟩ => ⟨he, hW'.trans (hb.mono hW'.size)⟩)
  have l1 := nameL_len f
  have l2 := digs_len t (by omega)
  have l3 := digs_len b (by omega)
  have l4 := edgeT_len lt lp (by omega) (by omega)
  have l5 := edgeT_len ht hp (by omega) (by omega)
  unfold textT
  generalize nameL f = x1 at *
  generalize Lib.decDigits t = x2 at *
  generalize Lib.decDigits b = x3 at *
  generalize edgeT lt lp = x4 at *
  generalize edgeT ht hp = x5 at *
  unfold txt at c1 c2 c3 c4 c5
  have HWW := Lib.hid hW
  have HbW := Lib.hid hbW
  have HBW := Lib.hid hBW
  clear h hPw hbW hBW
  have C := Lib.hid (And.intro c1 (And.intro c2 (And.intro c3 (And.intro c4 c5))))
  clear c1 c2 c3 c4 c5
  go_enter Tryd.func16, Tryd.ntmps16
  go_wp2_with fail
  rw [← HWW.out]
  clear hW
  obtain ⟨c1, c2, c3, c4, c5⟩ := C.out
  have j0 : ∀ d os, (grow (redrawn W d) os).cell? ⟨w.heap.size, 0, none⟩ = some (.int .u8 (f : Nat)) := fun d os => cell_regrown (HBW.out.cell 0) d os
  have j1 : ∀ d os, (grow (redrawn W d) os).cell? ⟨w.heap.size, 1, none⟩ = some (.int .u8 (t : Nat)) := fun d os => cell_regrown (HBW.out.cell 1) d os
  have j2 : ∀ d os, (grow (redrawn W d) os).cell? ⟨w.heap.size, 2, none⟩ = some (.int .u8 (b : Nat)) := fun d os => cell_regrown (HBW.out.cell 2) d os
  have j3 : ∀ d os, (grow (redrawn W d) os).cell? ⟨w.heap.size, 3, none⟩ = some (.int .u8 (lt : Nat)) := fun d os => cell_regrown (HBW.out.cell 3) d os
  have j4 : ∀ d os, (grow (redrawn W d) os).cell? ⟨w.heap.size, 4, none⟩ = some (.int .u32 (lp : Nat)) := fun d os => cell_regrown (HBW.out.cell 4) d os
  have j5 : ∀ d os, (grow (redrawn W d) os).cell? ⟨w.heap.size, 5, none⟩ = some (.int .u8 (ht : Nat)) := fun d os => cell_regrown (HBW.out.cell 5) d os
  have j6 : ∀ d os, (grow (redrawn W d) os).cell? ⟨w.heap.size, 6, none⟩ = some (.int .u32 (hp : Nat)) := fun d os => cell_regrown (HBW.out.cell 6) d os
  refine wp_region_quiet_below (by kernel_rfl) (by kernel_rfl) ?_
  repeat (first | go_big_quiet_step (first | with_reducible exact c1 _ _ | with_reducible exact c2 _ _ | with_reducible exact c3 _ _ | with_reducible exact c4 _ _ | with_reducible exact c5 _ _ | fail) | quiet_step (first | with_reducible exact c1 _ _ | with_reducible exact c2 _ _ | with_reducible exact c3 _ _ | with_reducible exact c4 _ _ | with_reducible exact c5 _ _ | fail))
  refine wpQuiet_nil ?_
  intro w2 hw'
  have hbel2 : Below W.heap.size W w2 := regrown_below hw'
  clear hw' j0 j1 j2 j3 j4 j5 j6 c1 c2 c3 c4 c5
  go_wp2_with fail
  go_ret
  refine ⟨?_, HbW.out.trans (hbel2.mono HbW.out.size)⟩
  exact congrArg (fun z => Ending.returned (.string z)) (text_bytes x1 x2 x3 x4 x5)
end Go.Proofs.YtfcklfpgjadfmaaDoor
