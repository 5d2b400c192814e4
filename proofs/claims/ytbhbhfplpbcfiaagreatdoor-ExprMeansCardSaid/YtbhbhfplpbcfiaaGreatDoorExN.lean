/- Contracts: an expression's variables, and its free ones. -/
import Derived.Test.YtbhbhfplpbcfiaaGreatDoorExM
namespace Go.Proofs.YtbhbhfplpbcfiaaGreatDoor
open Go.RowKit Go.Sort
set_option linter.unusedSimpArgs false
set_option linter.unusedVariables false

def fVars : Ex → FuncId
  | .const _ => 203
  | .var _ => 214
  | .not _ => 226
  | .pair _ _ _ => 141
  | .bound _ _ _ => 232
def VarsC (x : Ex) : Prop := ∀ (v : TypeId × Value) (w : World), ExAt w w.heap.size x v → x.Small → Calls Tryz.prog (fVars x) #[v.2] w fun e w' => e = .returned (.int .u16 (x.varsN : Nat)) ∧ Below w.heap.size w w'
/-- which method an interface value has -/
theorem meth_vars {x : Ex} {v : TypeId × Value} {w : World} {B : Nat} (h : ExAt w B x v) (n : Nat) (W : World) : Sem.run Tryz.prog (method (n + 8) v.1 v.2 "ramage/expr.vars") W = .ok (fVars x, v.2) W := by
  cases x with
  | const b => subst h; kernel_rfl
  | var k => subst h; kernel_rfl
  | not x => obtain ⟨y, rfl, _⟩ := h; kernel_rfl
  | pair op a b => obtain ⟨y, z, rfl, _⟩ := h; kernel_rfl
  | bound e l x => obtain ⟨A, k, c, y, rfl, _⟩ := h; kernel_rfl
theorem call_vars (x : Ex) (p : Value) (W : World) : Sem.run Tryz.prog (callFunc (fVars x) #[p]) W = .ok (.enter (fVars x) #[p]) W := by
  cases x
  · show Sem.run Tryz.prog (callFunc 203 #[p]) W = .ok (.enter 203 #[p]) W
    go_simp
  · show Sem.run Tryz.prog (callFunc 214 #[p]) W = .ok (.enter 214 #[p]) W
    go_simp
  · show Sem.run Tryz.prog (callFunc 226 #[p]) W = .ok (.enter 226 #[p]) W
    go_simp
  · show Sem.run Tryz.prog (callFunc 141 #[p]) W = .ok (.enter 141 #[p]) W
    go_simp
  · show Sem.run Tryz.prog (callFunc 232 #[p]) W = .ok (.enter 232 #[p]) W
    go_simp
set_option maxRecDepth 100000 in
set_option maxHeartbeats 8000000 in
theorem vars_const (b : Bool) : VarsC (.const b) := by
  rintro v w rfl hs
  show Calls Tryz.prog 203 _ w _
  go_enter Tryz.func203, Tryz.ntmps203
  go_wp2_with fail
  go_ret
  exact ⟨rfl, Below.refl _ _⟩
theorem u16_pow {n : Nat} (h : n ≤ 15) : IntKind.u16.wrap (2 ^ n) = ((2 ^ n : Nat) : Int) := by
  rcases (show n = 0 ∨ n = 1 ∨ n = 2 ∨ n = 3 ∨ n = 4 ∨ n = 5 ∨ n = 6 ∨ n = 7 ∨ n = 8 ∨ n = 9 ∨ n = 10 ∨ n = 11 ∨ n = 12 ∨ n = 13 ∨ n = 14 ∨ n = 15 by omega) with rfl | rfl | rfl | rfl | rfl | rfl | rfl | rfl | rfl | rfl | rfl | rfl | rfl | rfl | rfl | rfl <;> rfl
set_option maxRecDepth 100000 in
set_option maxHeartbeats 8000000 in
theorem vars_var (n : Nat) : VarsC (.var n) := by
  rintro v w rfl hs
  have hs : n ≤ 15 := hs
  have hm : min n 64 = n := by omega
  have hp := u16_pow hs
  show Calls Tryz.prog 214 _ w _
  go_enter Tryz.func214, Tryz.ntmps214
  go_wp2_with fail
  go_ret
  exact ⟨rfl, Below.refl _ _⟩
set_option maxRecDepth 100000 in
set_option maxHeartbeats 8000000 in
theorem vars_not (x : Ex) (hx : VarsC x) : VarsC (.not x) := by
  rintro v w ⟨y, rfl, h⟩ hs
  have hb : Below w.heap.size w (w.alloc (.cells #[ifV y] 173)) := (Below.refl _ _).alloc (Nat.le_refl _) _
  have HX := Lib.hid (hx y _ (h.on hb) hs)
  have HB := Lib.hid hb
  have HM := fun n W => meth_vars h n W
  have HCF := call_vars x y.2
  clear hx h hb
  show Calls Tryz.prog 226 _ w _
  go_enter Tryz.func226, Tryz.ntmps226
  go_wp2_with fail
  refine HX.out.mono ?_
  rintro e w1 ⟨rfl, h1⟩
  go_wp2_with fail
  go_ret
  exact ⟨rfl, HB.out.trans (h1.mono HB.out.size)⟩
set_option maxRecDepth 100000 in
set_option maxHeartbeats 8000000 in
theorem vars_pair (op : Nat) (a b : Ex) (ha : VarsC a) (hb : VarsC b) : VarsC (.pair op a b) := by
  rintro v w ⟨y, z, rfl, h1, h2⟩ hs
  obtain ⟨W, hW⟩ : ∃ W, W = w.alloc (.cells #[.int .u8 (op : Nat), ifV y, ifV z] 131) := ⟨_, rfl⟩
  have hbw : Below w.heap.size w W := by rw [hW]; exact (Below.refl _ _).alloc (Nat.le_refl _) _
  have hblk : Blk W w.heap.size 131 #[.int .u8 (op : Nat), ifV y, ifV z] := by rw [hW]; exact Blk.new _ _ _
  have j1 : ∀ d os, (grow (redrawn W d) os).cell? ⟨w.heap.size, 1, none⟩ = some (ifV y) := fun d os => cell_regrown (hblk.cell 1) d os
  have j2 : ∀ d os, (grow (redrawn W d) os).cell? ⟨w.heap.size, 2, none⟩ = some (ifV z) := fun d os => cell_regrown (hblk.cell 2) d os
  have HX := Lib.hid (regrown_calls (fun W' hW' => (ha y W' ((h1.on hbw).on hW') hs.2.1).mono fun e w' h => ⟨h.1, hW'.trans (h.2.mono hW'.size)⟩))
  have HY := Lib.hid (regrown_calls (fun W' hW' => (hb z W' ((h2.on hbw).on hW') hs.2.2).mono fun e w' h => ⟨h.1, hW'.trans (h.2.mono hW'.size)⟩))
  have HBW := Lib.hid hbw
  have HWW := Lib.hid hW
  have HM1 := fun n W => meth_vars h1 n W
  have HM2 := fun n W => meth_vars h2 n W
  have HC1 := call_vars a y.2
  have HC2 := call_vars b z.2
  have hor := u16_or_nat _ _ (vars_lt a hs.2.1) (vars_lt b hs.2.2)
  clear ha hb h1 h2 hbw hblk hs
  show Calls Tryz.prog 141 _ w _
  go_enter Tryz.func141, Tryz.ntmps141
  go_wp2_with fail
  rw [← HWW.out]
  clear hW
  have cX := HX.out
  have cY := HY.out
  refine wp_region_quiet_below (by kernel_rfl) (by kernel_rfl) ?_
  repeat (first | go_big_quiet_step ((first | with_reducible exact cX _ _ | with_reducible exact cY _ _ | fail)) | quiet_step ((first | with_reducible exact cX _ _ | with_reducible exact cY _ _ | fail)))
  refine wpQuiet_nil ?_
  intro w6 hw'
  have hbel6 : Below W.heap.size W w6 := regrown_below hw'
  clear hw' cX cY j1 j2
  go_wp2_with fail
  go_ret
  exact ⟨rfl, HBW.out.trans (hbel6.mono HBW.out.size)⟩
theorem cut_eq {a b : Nat} (ha : a < 65536) (hb : b < 65536) : a &&& (65535 - b) = cutN a b := by
  apply Nat.eq_of_testBit_eq
  intro j
  unfold cutN
  rw [Nat.testBit_and, Nat.testBit_xor, Nat.testBit_and, show 65535 - b = 2 ^ 16 - (b + 1) by omega, Nat.testBit_two_pow_sub_succ (by omega)]
  by_cases hj : j < 16
  · rw [decide_eq_true hj]
    cases a.testBit j <;> cases b.testBit j <;> rfl
  · have : a.testBit j = false := Nat.testBit_lt_two_pow (Nat.lt_of_lt_of_le ha (show 2 ^ 16 ≤ 2 ^ j from Nat.pow_le_pow_right (by omega) (by omega)))
    rw [this]
    rfl
/-- the mask of bound variables -/
theorem mask_take {l : List Nat} {k v : Nat} (h : l[k]? = some v) : maskL (l.take (k + 1)) = maskL (l.take k) ||| 2 ^ v := by
  rw [List.take_add_one, h]
  exact mask_snoc _ _
set_option maxRecDepth 100000 in
set_option maxHeartbeats 8000000 in
theorem mask_any (each : Bool) (l : List Nat) (A : Option Addr) (n c : Nat) (x : Value) (w : World) (h : OwnI w 0 (.slice A n c) (l.map fun (k : Nat) => (k : Int))) (hl : ∀ v ∈ l, v ≤ 15) (hx : x.oneCell' = true) :
    Calls Tryz.prog 235 #[.agg #[.bool each, .slice A n c, x]] w fun e w' => e = .returned (.int .u16 (maskL l : Nat)) ∧ Below w.heap.size w w' := by
  obtain ⟨A', n', c', e, e1, e2⟩ := h.form
  injection e with ea eb ec
  subst ea eb ec
  have hlen : l.length = n := by simpa using e1
  have hnm : n ≤ 9223372036854775807 := by have := h.len_le; simp at this; omega
  obtain ⟨W, hW⟩ : ∃ W, W = w.alloc (.cells #[.bool each, .slice A n c, x] 186) := ⟨_, rfl⟩
  have hbw : Below w.heap.size w W := by rw [hW]; exact (Below.refl _ _).alloc (Nat.le_refl _) _
  have HO := Lib.hid (h.below hbw)
  have HBW := Lib.hid hbw
  have HWW := Lib.hid hW
  have HL := Lib.hid hl
  have hblk : Blk W w.heap.size 186 #[.bool each, .slice A n c, x] := by rw [hW]; exact Blk.new _ _ _
  have c1 : W.cell? ⟨w.heap.size, 1, none⟩ = some (.slice A n c) := hblk.cell 1
  clear h hbw hl hblk e1
  go_enter Tryz.func235, Tryz.ntmps235
  go_wp2_with fail
  rw [← HWW.out]
  clear hW
  go_loop [3, 9] (fun m i => ∃ k : Nat, k ≤ n ∧ m = .int .u16 (maskL (l.take k) : Nat) ∧ i = .int .i64 (k : Nat)) (fun m i => n - (intOf i).toNat)
  case atStart => exact ⟨0, Nat.zero_le _, rfl, rfl⟩
  case round =>
    obtain ⟨k, hk, rfl, rfl⟩ := hrel
    by_cases hk2 : k < n
    · obtain ⟨gb, cap, hgb, _, _, hgb3⟩ := HO.out.head (by simp; omega)
      injection hgb with e1 e2' e3
      subst e1 e3
      clear e2'
      obtain ⟨v, hv⟩ : ∃ v, l[k]? = some v := ⟨_, List.getElem?_eq_getElem (by omega)⟩
      have q0 : W.cell? ⟨gb, k, none⟩ = some (.int .i64 (v : Nat)) := by have := (OwnF.at_ HO.out k (by simp; omega)).1; rw [List.getElem?_map, hv] at this; exact this
      have hv15 : v ≤ 15 := HL.out v (List.mem_of_getElem? hv)
      have hm : min v 64 = v := by omega
      have hp := u16_pow hv15
      have hor : bits .or .u16 (maskL (l.take k) : Int) ((2 : Int) ^ v) = ((maskL (l.take k) ||| 2 ^ v : Nat) : Int) := by
        rw [show ((2 : Int) ^ v) = ((2 ^ v : Nat) : Int) by simp]
        exact u16_or_nat (maskL (l.take k)) (2 ^ v) (mask_lt _ fun y hy => HL.out y (List.mem_of_mem_take hy)) (pow_lt16 hv15)
      have hki : (k : Int) < (n : Int) := by omega
      have HT := Lib.hid (mask_take hv)
      clear hv
      go_wp2_with fail
      go_round
      case rel => exact ⟨k + 1, by omega, by rw [HT.out], by go_num⟩
      case measure => simp [intOf]; omega
    · have hkn : k = n := by omega
      have hki : ¬ (k : Int) < (n : Int) := by omega
      have HT : Hid (maskL (l.take k) = maskL l) := Lib.hid (by rw [hkn, ← hlen, List.take_length])
      clear hkn
      go_wp2_with fail
      refine bodyPost_ret (v := .int .u16 (maskL (l.take k) : Nat)) (by simp [results, Tryz.results235, go_sem, *]) rfl ⟨by rw [HT.out], HBW.out⟩
set_option maxRecDepth 100000 in
set_option maxHeartbeats 8000000 in
theorem vars_bound (each : Bool) (l : List Nat) (x : Ex) (hx : VarsC x) : VarsC (.bound each l x) := by
  rintro v w ⟨A, n, c, y, rfl, h1, h2, h3⟩ hs
  obtain ⟨W, hW⟩ : ∃ W, W = w.alloc (.cells #[.bool each, .slice A n c, ifV y] 186) := ⟨_, rfl⟩
  have hbw : Below w.heap.size w W := by rw [hW]; exact (Below.refl _ _).alloc (Nat.le_refl _) _
  have hblk : Blk W w.heap.size 186 #[.bool each, .slice A n c, ifV y] := by rw [hW]; exact Blk.new _ _ _
  have j0 : ∀ d os, (grow (redrawn W d) os).cell? ⟨w.heap.size, 0, none⟩ = some (.bool each) := fun d os => cell_regrown (hblk.cell 0) d os
  have j1 : ∀ d os, (grow (redrawn W d) os).cell? ⟨w.heap.size, 1, none⟩ = some (.slice A n c) := fun d os => cell_regrown (hblk.cell 1) d os
  have j2 : ∀ d os, (grow (redrawn W d) os).cell? ⟨w.heap.size, 2, none⟩ = some (ifV y) := fun d os => cell_regrown (hblk.cell 2) d os
  have HX := Lib.hid (regrown_calls (fun W' hW' => (hx y W' ((h3.on hbw).on hW') hs.2).mono fun e w' h => ⟨h.1, hW'.trans (h.2.mono hW'.size)⟩))
  have HY := Lib.hid (regrown_calls (fun W' hW' => (mask_any each l A n c (ifV y) W' ((h1.below hbw).below hW') hs.1 rfl).mono fun e w' h => ⟨h.1, hW'.trans (h.2.mono hW'.size)⟩))
  have HBW := Lib.hid hbw
  have HWW := Lib.hid hW
  have HM1 := fun n W => meth_vars h3 n W
  have HC1 := call_vars x y.2
  have hor := u16_or_nat _ _ (vars_lt x hs.2) (mask_lt l hs.1)
  clear hx h1 h2 h3 hbw hblk hs
  show Calls Tryz.prog 232 _ w _
  go_enter Tryz.func232, Tryz.ntmps232
  go_wp2_with fail
  rw [← HWW.out]
  clear hW
  have cX := HX.out
  have cY := HY.out
  refine wp_region_quiet_below (by kernel_rfl) (by kernel_rfl) ?_
  repeat (first | go_big_quiet_step ((first | with_reducible exact cX _ _ | with_reducible exact cY _ _ | fail)) | quiet_step ((first | with_reducible exact cX _ _ | with_reducible exact cY _ _ | fail)))
  refine wpQuiet_nil ?_
  intro w6 hw'
  have hbel6 : Below W.heap.size W w6 := regrown_below hw'
  clear hw' cX cY j0 j1 j2
  go_wp2_with fail
  go_ret
  exact ⟨rfl, HBW.out.trans (hbel6.mono HBW.out.size)⟩
/-- the variables of any expression -/
theorem vars_all : ∀ (x : Ex), VarsC x
  | .const b => vars_const b
  | .var n => vars_var n
  | .not x => vars_not x (vars_all x)
  | .pair op a b => vars_pair op a b (vars_all a) (vars_all b)
  | .bound each l x => vars_bound each l x (vars_all x)
set_option maxRecDepth 100000 in
set_option maxHeartbeats 8000000 in
theorem exprVars_any (g : Nat) (x : Ex) (w : World) (h : ExprIs w g x) (hs : x.Small) : Calls Tryz.prog 11 #[.pointer (some ⟨g, 0, none⟩)] w fun e w' => e = .returned (.int .u16 (x.varsN : Nat)) ∧ Below w.heap.size w w' := by
  obtain ⟨v, hb, he⟩ := h
  have c0 : w.cell? ⟨g, 0, none⟩ = some (ifV v) := hb.cell 0
  have HX := Lib.hid (vars_all x v w he hs)
  have HM1 := fun n W => meth_vars he n W
  have HC1 := call_vars x v.2
  clear hb he
  go_enter Tryz.func11, Tryz.ntmps11
  go_wp2_with fail
  refine HX.out.mono ?_
  rintro e w1 ⟨rfl, h1⟩
  go_wp2_with fail
  go_ret
  exact ⟨rfl, h1⟩
end Go.Proofs.YtbhbhfplpbcfiaaGreatDoor
