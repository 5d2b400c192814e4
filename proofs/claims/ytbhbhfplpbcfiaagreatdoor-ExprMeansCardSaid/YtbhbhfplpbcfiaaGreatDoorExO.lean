/- Contracts: an expression's free variables. -/
import Derived.Test.YtbhbhfplpbcfiaaGreatDoorExN
namespace Go.Proofs.YtbhbhfplpbcfiaaGreatDoor
open Go.RowKit Go.Sort
set_option linter.unusedSimpArgs false
set_option linter.unusedVariables false

def fFree : Ex → FuncId
  | .const _ => 200
  | .var _ => 211
  | .not _ => 223
  | .pair _ _ _ => 138
  | .bound _ _ _ => 229
def FreeC (x : Ex) : Prop := ∀ (v : TypeId × Value) (w : World), ExAt w w.heap.size x v → x.Small → Calls Tryz.prog (fFree x) #[v.2] w fun e w' => e = .returned (.int .u16 (x.freeN : Nat)) ∧ Below w.heap.size w w'
/-- which method an interface value has -/
theorem meth_free {x : Ex} {v : TypeId × Value} {w : World} {B : Nat} (h : ExAt w B x v) (n : Nat) (W : World) : Sem.run Tryz.prog (method (n + 8) v.1 v.2 "ramage/expr.free") W = .ok (fFree x, v.2) W := by
  cases x with
  | const b => subst h; kernel_rfl
  | var k => subst h; kernel_rfl
  | not x => obtain ⟨y, rfl, _⟩ := h; kernel_rfl
  | pair op a b => obtain ⟨y, z, rfl, _⟩ := h; kernel_rfl
  | bound e l x => obtain ⟨A, k, c, y, rfl, _⟩ := h; kernel_rfl
theorem call_free (x : Ex) (p : Value) (W : World) : Sem.run Tryz.prog (callFunc (fFree x) #[p]) W = .ok (.enter (fFree x) #[p]) W := by
  cases x
  · show Sem.run Tryz.prog (callFunc 200 #[p]) W = .ok (.enter 200 #[p]) W
    go_simp
  · show Sem.run Tryz.prog (callFunc 211 #[p]) W = .ok (.enter 211 #[p]) W
    go_simp
  · show Sem.run Tryz.prog (callFunc 223 #[p]) W = .ok (.enter 223 #[p]) W
    go_simp
  · show Sem.run Tryz.prog (callFunc 138 #[p]) W = .ok (.enter 138 #[p]) W
    go_simp
  · show Sem.run Tryz.prog (callFunc 229 #[p]) W = .ok (.enter 229 #[p]) W
    go_simp
set_option maxRecDepth 100000 in
set_option maxHeartbeats 8000000 in
theorem free_const (b : Bool) : FreeC (.const b) := by
  rintro v w rfl hs
  show Calls Tryz.prog 200 _ w _
  go_enter Tryz.func200, Tryz.ntmps200
  go_wp2_with fail
  go_ret
  exact ⟨rfl, Below.refl _ _⟩
set_option maxRecDepth 100000 in
set_option maxHeartbeats 8000000 in
theorem free_var (n : Nat) : FreeC (.var n) := by
  rintro v w rfl hs
  have hs : n ≤ 15 := hs
  have hm : min n 64 = n := by omega
  have hp := u16_pow hs
  show Calls Tryz.prog 211 _ w _
  go_enter Tryz.func211, Tryz.ntmps211
  go_wp2_with fail
  go_ret
  exact ⟨rfl, Below.refl _ _⟩
set_option maxRecDepth 100000 in
set_option maxHeartbeats 8000000 in
theorem free_not (x : Ex) (hx : FreeC x) : FreeC (.not x) := by
  rintro v w ⟨y, rfl, h⟩ hs
  have hb : Below w.heap.size w (w.alloc (.cells #[ifV y] 173)) := (Below.refl _ _).alloc (Nat.le_refl _) _
  have HX := Lib.hid (hx y _ (h.on hb) hs)
  have HB := Lib.hid hb
  have HM := fun n W => meth_free h n W
  have HCF := call_free x y.2
  clear hx h hb
  show Calls Tryz.prog 223 _ w _
  go_enter Tryz.func223, Tryz.ntmps223
  go_wp2_with fail
  refine HX.out.mono ?_
  rintro e w1 ⟨rfl, h1⟩
  go_wp2_with fail
  go_ret
  exact ⟨rfl, HB.out.trans (h1.mono HB.out.size)⟩
set_option maxRecDepth 100000 in
set_option maxHeartbeats 8000000 in
theorem free_pair (op : Nat) (a b : Ex) (ha : FreeC a) (hb : FreeC b) : FreeC (.pair op a b) := by
  rintro v w ⟨y, z, rfl, h1, h2⟩ hs
  obtain ⟨W, hW⟩ : ∃ W, W = w.alloc (.cells #[.int .u8 (op : Nat), ifV y, ifV z] 131) := ⟨_, rfl⟩
  have hbw : Below w.heap.size w W := by rw [hW]; exact (Below.refl _ _).alloc (Nat.le_refl _) _
  have hblk : Blk W w.heap.size 131 #[.int .u8 (op : Nat), ifV y, ifV z] := by rw [hW]; exact Blk.new _ _ _
  have j1 : ∀ d os, (grow (redrawn W d) os).cell? ⟨w.heap.size, 1, none⟩ = some (ifV y) := fun d os => cell_regrown (hblk.cell 1) d os
  have j2 : ∀ d os, (grow (redrawn W d) os).cell? ⟨w.heap.size, 2, none⟩ = some (ifV z) := fun d os => cell_regrown (hblk.cell 2) d os
  have HX := Lib.hid (regrown_calls (fun W' hW' => (ha y W' ((h1.on hbw).on hW') hs.2.1).mono fun e w' h => ⟨h.1, hW'.trans (h.2.mono hW'.size)⟩))
  have HY := Lib.hid (regrown_calls (fun W' hW' => (hb z W' ((h2.on hbw).on hW') hs.2.2).mono fun e w' h => ⟨h.1, hW'.trans (h.2.mono hW'.size)⟩))
  have HBW := Lib.hid hbw
  have HWW := Lib.hid hW
  have HM1 := fun n W => meth_free h1 n W
  have HM2 := fun n W => meth_free h2 n W
  have HC1 := call_free a y.2
  have HC2 := call_free b z.2
  have hor := u16_or_nat _ _ (free_lt a hs.2.1) (free_lt b hs.2.2)
  clear ha hb h1 h2 hbw hblk hs
  show Calls Tryz.prog 138 _ w _
  go_enter Tryz.func138, Tryz.ntmps138
  go_wp2_with fail
  rw [← HWW.out]
  clear hW
  have cX := HX.out
  have cY := HY.out
  refine wp_region_quiet_below (by kernel_rfl) (by kernel_rfl) ?_
  repeat (first | go_big_quiet_step ((first | with_reducible exact cX _ _ | with_reducible exact cY _ _ | fail)) | quiet_step ((first | with_reducible exact cX _ _ | with_reducible exact cY _ _ | fail)))
  refine wpQuiet_nil ?_
  intro w6 hw'
  have hbel6 : Below W.heap.size W w6 := regrown_below hw'
  clear hw' cX cY j1 j2
  go_wp2_with fail
  go_ret
  exact ⟨rfl, HBW.out.trans (hbel6.mono HBW.out.size)⟩
set_option maxRecDepth 100000 in
set_option maxHeartbeats 8000000 in
theorem free_bound (each : Bool) (l : List Nat) (x : Ex) (hx : FreeC x) : FreeC (.bound each l x) := by
  rintro v w ⟨A, n, c, y, rfl, h1, h2, h3⟩ hs
  obtain ⟨W, hW⟩ : ∃ W, W = w.alloc (.cells #[.bool each, .slice A n c, ifV y] 186) := ⟨_, rfl⟩
  have hbw : Below w.heap.size w W := by rw [hW]; exact (Below.refl _ _).alloc (Nat.le_refl _) _
  have hblk : Blk W w.heap.size 186 #[.bool each, .slice A n c, ifV y] := by rw [hW]; exact Blk.new _ _ _
  have j0 : ∀ d os, (grow (redrawn W d) os).cell? ⟨w.heap.size, 0, none⟩ = some (.bool each) := fun d os => cell_regrown (hblk.cell 0) d os
  have j1 : ∀ d os, (grow (redrawn W d) os).cell? ⟨w.heap.size, 1, none⟩ = some (.slice A n c) := fun d os => cell_regrown (hblk.cell 1) d os
  have j2 : ∀ d os, (grow (redrawn W d) os).cell? ⟨w.heap.size, 2, none⟩ = some (ifV y) := fun d os => cell_regrown (hblk.cell 2) d os
  have HX := Lib.hid (regrown_calls (fun W' hW' => (hx y W' ((h3.on hbw).on hW') hs.2).mono fun e w' h => ⟨h.1, hW'.trans (h.2.mono hW'.size)⟩))
  have HY := Lib.hid (regrown_calls (fun W' hW' => (mask_any each l A n c (ifV y) W' ((h1.below hbw).below hW') hs.1 rfl).mono fun e w' h => ⟨h.1, hW'.trans (h.2.mono hW'.size)⟩))
  have HBW := Lib.hid hbw
  have HWW := Lib.hid hW
  have HM1 := fun n W => meth_free h3 n W
  have HC1 := call_free x y.2
  have hor : bits .andNot .u16 (x.freeN : Int) (maskL l : Int) = ((cutN x.freeN (maskL l) : Nat) : Int) := by rw [← cut_eq (free_lt x hs.2) (mask_lt l hs.1)]; exact u16_andNot_nat _ _ (free_lt x hs.2) (mask_lt l hs.1)
  clear hx h1 h2 h3 hbw hblk hs
  show Calls Tryz.prog 229 _ w _
  go_enter Tryz.func229, Tryz.ntmps229
  go_wp2_with fail
  rw [← HWW.out]
  clear hW
  have cX := HX.out
  have cY := HY.out
  refine wp_region_quiet_below (by kernel_rfl) (by kernel_rfl) ?_
  repeat (first | go_big_quiet_step ((first | with_reducible exact cX _ _ | with_reducible exact cY _ _ | fail)) | quiet_step ((first | with_reducible exact cX _ _ | with_reducible exact cY _ _ | fail)))
  refine wpQuiet_nil ?_
  intro w6 hw'
  have hbel6 : Below W.heap.size W w6 := regrown_below hw'
  clear hw' cX cY j0 j1 j2
  go_wp2_with fail
  go_ret
  exact ⟨rfl, HBW.out.trans (hbel6.mono HBW.out.size)⟩
/-- the free variables of any expression -/
theorem free_all : ∀ (x : Ex), FreeC x
  | .const b => free_const b
  | .var n => free_var n
  | .not x => free_not x (free_all x)
  | .pair op a b => free_pair op a b (free_all a) (free_all b)
  | .bound each l x => free_bound each l x (free_all x)
set_option maxRecDepth 100000 in
set_option maxHeartbeats 8000000 in
theorem exprFree_any (g : Nat) (x : Ex) (w : World) (h : ExprIs w g x) (hs : x.Small) : Calls Tryz.prog 13 #[.pointer (some ⟨g, 0, none⟩)] w fun e w' => e = .returned (.int .u16 (x.freeN : Nat)) ∧ Below w.heap.size w w' := by
  obtain ⟨v, hb, he⟩ := h
  have c0 : w.cell? ⟨g, 0, none⟩ = some (ifV v) := hb.cell 0
  have HX := Lib.hid (free_all x v w he hs)
  have HM1 := fun n W => meth_free he n W
  have HC1 := call_free x v.2
  clear hb he
  go_enter Tryz.func13, Tryz.ntmps13
  go_wp2_with fail
  refine HX.out.mono ?_
  rintro e w1 ⟨rfl, h1⟩
  go_wp2_with fail
  go_ret
  exact ⟨rfl, h1⟩
end Go.Proofs.YtbhbhfplpbcfiaaGreatDoor
