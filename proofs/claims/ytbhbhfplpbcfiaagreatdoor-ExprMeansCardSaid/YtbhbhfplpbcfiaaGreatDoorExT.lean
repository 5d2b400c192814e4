/- Contracts: the table of an expression (the program's). -/
import Derived.Test.YtbhbhfplpbcfiaaGreatDoorExM
import Derived.Test.YtbhbhfplpbcfiaaGreatDoorExE
import Derived.Test.YtbhbhfplpbcfiaaGreatDoorSetRuP
namespace Go.Proofs.YtbhbhfplpbcfiaaGreatDoor
open Go.RowKit Go.Sort
set_option linter.unusedSimpArgs false
set_option linter.unusedVariables false

/-- a set, as a table, behind a call -/
def SetOut (w : World) (n : Nat) (t : List Bool) (e : Ending) (w' : World) : Prop :=
  ∃ A l c, e = .returned (.agg #[.int .i64 (n : Nat), .slice A l c]) ∧ SetArg w' n A l c (packT t) ∧ Below w.heap.size w w'
theorem packT_pos {t : List Bool} {n : Nat} (h : t.length = 2 ^ n) : 0 < (packT t).length := by
  have := Nat.two_pow_pos n
  rw [packT_length, h]
  omega
/-- a store into a block of a set leaves another set -/
theorem SetArg.chgK {w w' : World} {m : Int} {A : Option Addr} {len c k : Nat} {ws : List Nat} {a : Int} {B : Option Addr} {p q : Nat} (h : SetArg w m A len c ws) (hB : Blk w k 38 #[.int .i64 a, .slice B p q]) (hb : Chg [k] w w') : SetArg w' m A len c ws :=
  ⟨h.hlen, h.hcap, h.hmax, fun hn => by
    obtain ⟨b, off, rfl, hlt, hc⟩ := h.row hn
    have hne : b ≠ k := fun e => by
      subst e
      have h0 := hc 0 hn
      rw [Nat.add_zero, hB.cell off] at h0
      match off with
      | 0 => simp [U] at h0
      | 1 => simp [U] at h0
      | n + 2 => simp at h0
    exact ⟨b, off, rfl, Nat.lt_of_lt_of_le hlt hb.size, fun j hj => by rw [hb.cell (p := ⟨b, off + j, none⟩) hlt (by simpa using hne)]; exact hc j hj⟩, h.lt, h.wf⟩
def fTable : Ex → FuncId
  | .const _ => 201
  | .var _ => 212
  | .not _ => 224
  | .pair _ _ _ => 139
  | .bound _ _ _ => 230
def TableC (x : Ex) : Prop := ∀ (v : TypeId × Value) (w : World) (n : Nat), n ≤ 16 → x.Small → x.varsN < 2 ^ n → ExAt w w.heap.size x v →
  Calls Tryz.prog (fTable x) #[v.2, .int .i64 (n : Nat)] w (SetOut w n (x.tabE n))
theorem meth_table {x : Ex} {v : TypeId × Value} {w : World} {B : Nat} (h : ExAt w B x v) (n : Nat) (W : World) : Sem.run Tryz.prog (method (n + 8) v.1 v.2 "ramage/expr.table") W = .ok (fTable x, v.2) W := by
  cases x with
  | const b => subst h; kernel_rfl
  | var k => subst h; kernel_rfl
  | not x => obtain ⟨y, rfl, _⟩ := h; kernel_rfl
  | pair op a b => obtain ⟨y, z, rfl, _⟩ := h; kernel_rfl
  | bound e l x => obtain ⟨A, k, c, y, rfl, _⟩ := h; kernel_rfl
theorem call_table (x : Ex) (p q : Value) (W : World) : Sem.run Tryz.prog (callFunc (fTable x) #[p, q]) W = .ok (.enter (fTable x) #[p, q]) W := by
  cases x
  · show Sem.run Tryz.prog (callFunc 201 #[p, q]) W = .ok (.enter 201 #[p, q]) W
    go_simp
  · show Sem.run Tryz.prog (callFunc 212 #[p, q]) W = .ok (.enter 212 #[p, q]) W
    go_simp
  · show Sem.run Tryz.prog (callFunc 224 #[p, q]) W = .ok (.enter 224 #[p, q]) W
    go_simp
  · show Sem.run Tryz.prog (callFunc 139 #[p, q]) W = .ok (.enter 139 #[p, q]) W
    go_simp
  · show Sem.run Tryz.prog (callFunc 230 #[p, q]) W = .ok (.enter 230 #[p, q]) W
    go_simp
/-- the block of an empty set -/
abbrev set0 : Obj := .cells #[.int .i64 0, .slice none 0 0] 38
abbrev setO (n : Nat) (A : Option Addr) (l c : Nat) : Obj := .cells #[.int .i64 (n : Nat), .slice A l c] 38
/-- what stands behind a call that gave a set, where the result's cell was laid ahead: the set into a variable, the variable into the result -/
theorem set_end {w w1 : World} {k n l c : Nat} {A : Option Addr} {t : List Bool} {o : Obj} (hk : w.heap.size ≤ k) (hB : Blk w1 k 38 #[.int .i64 0, .slice none 0 0]) (ha : SetArg w1 n A l c (packT t)) (hb : Below w.heap.size w w1) :
    SetOut w n t (.returned (.agg #[.int .i64 (n : Nat), .slice A l c])) (((w1.setCell ⟨k, 0, none⟩ (.int .i64 (n : Nat))).setCell ⟨k, 1, none⟩ (.slice A l c)).alloc o) :=
  ⟨A, l, c, rfl, (ha.chgK hB (((Chg.refl _ _).setCell (.inl (by simp)) _).setCell (.inl (by simp)) _)).alloc o, ((hb.setCell hk _).setCell hk _).alloc (by simp only [World.size_setCell]; exact hb.size) o⟩
theorem set_end2 {w w1 : World} {k k5 n l c : Nat} {A : Option Addr} {t : List Bool} {a : Int} {B : Option Addr} {p q : Nat} (hk : w.heap.size ≤ k) (hk5 : w.heap.size ≤ k5) (hne : k5 ≠ k) (hB : Blk w1 k 38 #[.int .i64 0, .slice none 0 0])
    (hB5 : Blk w1 k5 38 #[.int .i64 a, .slice B p q]) (ha : SetArg w1 n A l c (packT t)) (hb : Below w.heap.size w w1) :
    SetOut w n t (.returned (.agg #[.int .i64 (n : Nat), .slice A l c])) ((((w1.setCell ⟨k5, 0, none⟩ (.int .i64 (n : Nat))).setCell ⟨k5, 1, none⟩ (.slice A l c)).setCell ⟨k, 0, none⟩ (.int .i64 (n : Nat))).setCell ⟨k, 1, none⟩ (.slice A l c)) := by
  have h1 := ha.chgK hB5 (((Chg.refl [k5] w1).setCell (p := ⟨k5, 0, none⟩) (.inl (by simp)) (.int .i64 (n : Nat))).setCell (p := ⟨k5, 1, none⟩) (.inl (by simp)) (.slice A l c))
  have hB' : Blk ((w1.setCell ⟨k5, 0, none⟩ (.int .i64 (n : Nat))).setCell ⟨k5, 1, none⟩ (.slice A l c)) k 38 #[.int .i64 0, .slice none 0 0] := (hB.far (fun e => hne e.symm) _).far (fun e => hne e.symm) _
  exact ⟨A, l, c, rfl, h1.chgK hB' (((Chg.refl _ _).setCell (.inl (by simp)) _).setCell (.inl (by simp)) _), (((hb.setCell hk5 _).setCell hk5 _).setCell hk _).setCell hk _⟩
theorem sall_ans' (n : Nat) (hn : n ≤ 16) (w : World) : Calls Tryz.prog 206 #[.int .i64 (n : Nat)] w (TabAns w n ((List.range (2 ^ n)).map fun _ => true)) :=
  (sall_any n hn w).mono fun _ _ h => (h.ans (t := (List.range (2 ^ n)).map fun _ => true) (fill_ok hn (.inr rfl)) (by simp) (fun x hx => by rw [all_bit hx, List.getElem?_map, List.getElem?_range hx]; rfl)).tab
set_option maxRecDepth 100000 in
set_option maxHeartbeats 8000000 in
theorem table_var (m : Nat) : TableC (.var m) := by
  rintro v w n hn hs hv rfl
  have hmn : m < n := by
    rcases Nat.lt_or_ge m n with h | h
    · exact h
    · have h1 : (2 : Nat) ^ n ≤ 2 ^ m := Nat.pow_le_pow_right (by omega) h
      have h2 : (2 : Nat) ^ m < 2 ^ n := hv
      omega
  obtain ⟨W, hW⟩ : ∃ W, W = w.alloc set0 := ⟨_, rfl⟩
  have hbw : Below w.heap.size w W := by rw [hW]; exact (Below.refl _ _).alloc (Nat.le_refl _) _
  have hblk : Blk W w.heap.size 38 #[.int .i64 0, .slice none 0 0] := by rw [hW]; exact Blk.new _ _ _
  have HC := Lib.hid (single_ok n m hn hmn W)
  have HH := Lib.hid (And.intro hblk hbw)
  have HWW := Lib.hid hW
  clear hbw hblk hv hs
  show Calls Tryz.prog 212 _ w _
  go_enter Tryz.func212, Tryz.ntmps212
  go_wp2_with fail
  rw [← HWW.out]
  clear hW
  refine HC.out.mono ?_
  rintro e w1 ⟨A, l, c, rfl, ha, hb⟩
  have hB1 := HH.out.1.onB hb
  have hk1 := hB1.lt
  have c0 : w1.cell? ⟨w.heap.size, 0, none⟩ = some (.int .i64 0) := hB1.cell 0
  have c1 : w1.cell? ⟨w.heap.size, 1, none⟩ = some (.slice none 0 0) := hB1.cell 1
  have f0 := hB1.frozen 0
  have f1 := hB1.frozen 1
  have hne : ¬ w.heap.size = w1.heap.size := by omega
  have FIN := Lib.hid (fun o => set_end (o := o) (Nat.le_refl _) hB1 ha (HH.out.2.trans (hb.mono HH.out.2.size)))
  clear hB1 ha hb
  go_wp2_with fail
  refine bodyPost_ret (v := .agg #[.int .i64 (n : Nat), .slice A l c]) ?_ rfl (FIN.out _)
  simp [results, Tryz.results212, go_sem, *]
set_option maxRecDepth 100000 in
set_option maxHeartbeats 8000000 in
theorem table_const (b : Bool) : TableC (.const b) := by
  rintro v w n hn hs hv rfl
  obtain ⟨W, hW⟩ : ∃ W, W = w.alloc set0 := ⟨_, rfl⟩
  have hbw : Below w.heap.size w W := by rw [hW]; exact (Below.refl _ _).alloc (Nat.le_refl _) _
  have hblk : Blk W w.heap.size 38 #[.int .i64 0, .slice none 0 0] := by rw [hW]; exact Blk.new _ _ _
  have HC := Lib.hid (none_ok n hn W)
  have HA := Lib.hid (fun W => (sall_ans' n hn W))
  have HH := Lib.hid (And.intro hblk hbw)
  have HWW := Lib.hid hW
  clear hbw hblk hv hs
  show Calls Tryz.prog 201 _ w _
  go_enter Tryz.func201, Tryz.ntmps201
  go_wp2_with fail
  rw [← HWW.out]
  clear hW
  refine HC.out.mono ?_
  rintro e w1 ⟨A, l, c, rfl, ha, hb⟩
  have hB1 := HH.out.1.onB hb
  have hk1 := hB1.lt
  have hbw1 := HH.out.2.trans (hb.mono HH.out.2.size)
  cases b
  · have c0 : w1.cell? ⟨w.heap.size, 0, none⟩ = some (.int .i64 0) := hB1.cell 0
    have c1 : w1.cell? ⟨w.heap.size, 1, none⟩ = some (.slice none 0 0) := hB1.cell 1
    have f0 := hB1.frozen 0
    have f1 := hB1.frozen 1
    have hne : ¬ w.heap.size = w1.heap.size := by omega
    have FIN := Lib.hid (fun o => set_end (o := o) (Nat.le_refl _) hB1 ha hbw1)
    clear hB1 ha hb hbw1
    go_wp2_with fail
    refine bodyPost_ret (v := .agg #[.int .i64 (n : Nat), .slice A l c]) ?_ rfl (FIN.out _)
    simp [results, Tryz.results201, go_sem, *]
  · obtain ⟨W1, hW1⟩ : ∃ W1, W1 = w1.alloc (setO n A l c) := ⟨_, rfl⟩
    have hbw2 : Below w.heap.size w W1 := by rw [hW1]; exact hbw1.alloc hbw1.size _
    have hB2 : Blk W1 w.heap.size 38 #[.int .i64 0, .slice none 0 0] := by rw [hW1]; exact hB1.alloc _
    have hB5 : Blk W1 w1.heap.size 38 #[.int .i64 (n : Nat), .slice A l c] := by rw [hW1]; exact Blk.new _ _ _
    have H2 := Lib.hid (And.intro hbw2 (And.intro hB2 hB5))
    have hs1 := hbw1.size
    have HWW1 := Lib.hid hW1
    clear ha hb hB1 hbw1 hbw2 hB2 hB5 hW1
    go_wp2_with fail
    rw [← HWW1.out]
    refine (HA.out _).mono ?_
    rintro e w2 ⟨A2, l2, c2, rfl, ha, hb⟩
    obtain ⟨hbw2, hB2, hB5⟩ := H2.out
    have hB1 := hB2.onB hb
    have hB6 := hB5.onB hb
    have hne : ¬ w.heap.size = w1.heap.size := by omega
    have hne2 : ¬ w1.heap.size = w.heap.size := by omega
    have c0 : w2.cell? ⟨w.heap.size, 0, none⟩ = some (.int .i64 0) := hB1.cell 0
    have c1 : w2.cell? ⟨w.heap.size, 1, none⟩ = some (.slice none 0 0) := hB1.cell 1
    have f0 := hB1.frozen 0
    have f1 := hB1.frozen 1
    have d0 : w2.cell? ⟨w1.heap.size, 0, none⟩ = some (.int .i64 (n : Nat)) := hB6.cell 0
    have d1 : w2.cell? ⟨w1.heap.size, 1, none⟩ = some (.slice A l c) := hB6.cell 1
    have e0 := hB6.frozen 0
    have e1 := hB6.frozen 1
    have hl1 := hB1.lt
    have hl2 := hB6.lt
    have FIN := Lib.hid (set_end2 (Nat.le_refl _) hs1 (by omega) hB1 hB6 ha (hbw2.trans (hb.mono hbw2.size)))
    clear hB1 hB6 hbw2 hB2 hB5 ha hb
    go_wp2_with fail
    refine bodyPost_ret (v := .agg #[.int .i64 (n : Nat), .slice A2 l2 c2]) ?_ rfl FIN.out
    simp [results, Tryz.results201, go_sem, *]
set_option maxRecDepth 100000 in
set_option maxHeartbeats 8000000 in
theorem table_not (x : Ex) (hx : TableC x) : TableC (.not x) := by
  rintro v w n hn hs hv ⟨y, rfl, h⟩
  obtain ⟨W, hW⟩ : ∃ W, W = (w.alloc (.cells #[ifV y] 173)).alloc set0 := ⟨_, rfl⟩
  have hbw : Below w.heap.size w W := by rw [hW]; exact ((Below.refl _ _).alloc (Nat.le_refl _) _).alloc (by simp) _
  have hblk : Blk W (w.heap.size + 1) 38 #[.int .i64 0, .slice none 0 0] := by
    rw [hW]
    have := Blk.new (w.alloc (.cells #[ifV y] 173)) 38 #[.int .i64 0, .slice none 0 0]
    rw [World.size_alloc] at this
    exact this
  have hblk0 : Blk W w.heap.size 173 #[ifV y] := by rw [hW]; exact (Blk.new _ _ _).alloc _
  have q0 : W.cell? ⟨w.heap.size, 0, none⟩ = some (ifV y) := hblk0.cell 0
  have HC := Lib.hid (hx y W n hn hs hv (h.on hbw))
  have HM := fun n W => meth_table h n W
  have HCF := fun W => call_table x y.2 (.int .i64 (n : Nat)) W
  have hlt : (x.tabE n).length = 2 ^ n := tabE_length n x
  have HLT := Lib.hid hlt
  have HH := Lib.hid (And.intro hblk hbw)
  have HWW := Lib.hid hW
  clear hx h hbw hblk hblk0 hv hs hlt
  show Calls Tryz.prog 224 _ w _
  go_enter Tryz.func224, Tryz.ntmps224
  go_wp2_with fail
  rw [← HWW.out]
  clear hW
  refine HC.out.mono ?_
  rintro e w1 ⟨A, l, c, rfl, ha, hb⟩
  have hB1 := HH.out.1.onB hb
  have hbw1 := HH.out.2.trans (hb.mono HH.out.2.size)
  obtain ⟨W1, hW1⟩ : ∃ W1, W1 = w1.alloc (setO n A l c) := ⟨_, rfl⟩
  have hbw2 : Below w.heap.size w W1 := by rw [hW1]; exact hbw1.alloc hbw1.size _
  have hB2 : Blk W1 (w.heap.size + 1) 38 #[.int .i64 0, .slice none 0 0] := by rw [hW1]; exact hB1.alloc _
  have hB5 : Blk W1 w1.heap.size 38 #[.int .i64 (n : Nat), .slice A l c] := by rw [hW1]; exact Blk.new _ _ _
  have ha1 : SetArg W1 n A l c (packT (x.tabE n)) := by rw [hW1]; exact ha.alloc _
  have HO := Lib.hid (op_ok 3 (by omega) n hn A A l l c c _ _ HLT.out HLT.out W1 ha1 ha1)
  have H2 := Lib.hid (And.intro hbw2 (And.intro hB2 hB5))
  have hs1 := hbw1.size
  have hlt1 := hB1.lt
  have HWW1 := Lib.hid hW1
  clear ha hb hB1 hbw1 hbw2 hB2 hB5 hW1 ha1
  go_wp2_with fail
  rw [← HWW1.out]
  refine HO.out.mono ?_
  rintro e w2 ⟨A2, l2, c2, rfl, ha, hb⟩
  obtain ⟨hbw2, hB2, hB5⟩ := H2.out
  have hB1 := hB2.onB hb
  have hB6 := hB5.onB hb
  have hne : ¬ w.heap.size + 1 = w1.heap.size := by omega
  have hne2 : ¬ w1.heap.size = w.heap.size + 1 := by omega
  have c0 : w2.cell? ⟨w.heap.size + 1, 0, none⟩ = some (.int .i64 0) := hB1.cell 0
  have c1 : w2.cell? ⟨w.heap.size + 1, 1, none⟩ = some (.slice none 0 0) := hB1.cell 1
  have f0 := hB1.frozen 0
  have f1 := hB1.frozen 1
  have d0 : w2.cell? ⟨w1.heap.size, 0, none⟩ = some (.int .i64 (n : Nat)) := hB6.cell 0
  have d1 : w2.cell? ⟨w1.heap.size, 1, none⟩ = some (.slice A l c) := hB6.cell 1
  have e0 := hB6.frozen 0
  have e1 := hB6.frozen 1
  have hl1 := hB1.lt
  have hl2 := hB6.lt
  have FIN := Lib.hid (set_end2 (k := w.heap.size + 1) (by omega) hs1 (by omega) hB1 hB6 ha (hbw2.trans (hb.mono hbw2.size)))
  clear hB1 hB6 hbw2 hB2 hB5 ha hb
  go_wp2_with fail
  refine bodyPost_ret (v := .agg #[.int .i64 (n : Nat), .slice A2 l2 c2]) ?_ rfl FIN.out
  simp [results, Tryz.results224, go_sem, *]
theorem numOp_le (op : Nat) : numOp op ≤ 15 := by unfold numOp; (repeat' split) <;> omega
set_option maxRecDepth 100000 in
set_option maxHeartbeats 8000000 in
theorem number_any (op : Nat) (h : rk op ≠ 0) (w : World) : Calls Tryz.prog 143 #[.int .u8 (op : Nat)] w fun e w' => e = .returned (.int .i64 (numOp op : Nat)) ∧ w = w' := by
  rcases rk_mem h with rfl | rfl | rfl | rfl | rfl
  all_goals
    clear h
    go_enter Tryz.func143, Tryz.ntmps143
    go_wp2_with fail
    go_ret
    exact ⟨rfl, rfl⟩
set_option maxRecDepth 100000 in
set_option maxHeartbeats 8000000 in
theorem table_pair (op : Nat) (x z : Ex) (hx : TableC x) (hz : TableC z) : TableC (.pair op x z) := by
  rintro v w n hn hs hv ⟨y, u, rfl, h, k⟩
  have hs : rk op ≠ 0 ∧ x.Small ∧ z.Small := hs
  have hvx : x.varsN < 2 ^ n := Nat.lt_of_le_of_lt (Nat.left_le_or) hv
  have hvz : z.varsN < 2 ^ n := Nat.lt_of_le_of_lt (Nat.right_le_or) hv
  obtain ⟨W, hW⟩ : ∃ W, W = (w.alloc (.cells #[.int .u8 (op : Nat), ifV y, ifV u] 131)).alloc set0 := ⟨_, rfl⟩
  have hbw : Below w.heap.size w W := by rw [hW]; exact ((Below.refl _ _).alloc (Nat.le_refl _) _).alloc (by simp) _
  have hblk : Blk W (w.heap.size + 1) 38 #[.int .i64 0, .slice none 0 0] := by
    rw [hW]
    have := Blk.new (w.alloc (.cells #[.int .u8 (op : Nat), ifV y, ifV u] 131)) 38 #[.int .i64 0, .slice none 0 0]
    rw [World.size_alloc] at this
    exact this
  have hblk0 : Blk W w.heap.size 131 #[.int .u8 (op : Nat), ifV y, ifV u] := by rw [hW]; exact (Blk.new _ _ _).alloc _
  have p0 : W.cell? ⟨w.heap.size, 0, none⟩ = some (.int .u8 (op : Nat)) := hblk0.cell 0
  have p1 : W.cell? ⟨w.heap.size, 1, none⟩ = some (ifV y) := hblk0.cell 1
  have p2 : W.cell? ⟨w.heap.size, 2, none⟩ = some (ifV u) := hblk0.cell 2
  have hkW : w.heap.size < W.heap.size := hblk0.lt
  have hkW2 : w.heap.size + 1 < W.heap.size := hblk.lt
  have HNU := Lib.hid (fun W => number_any op hs.1 W)
  have HX : Hid (∀ W', Below W.heap.size W W' → Calls Tryz.prog (fTable x) #[y.2, .int .i64 (n : Nat)] W' (SetOut W' n (x.tabE n))) := Lib.hid (fun W' hW' => hx y W' n hn hs.2.1 hvx ((h.on hbw).on hW'))
  have HZ : Hid (∀ W', Below W.heap.size W W' → Calls Tryz.prog (fTable z) #[u.2, .int .i64 (n : Nat)] W' (SetOut W' n (z.tabE n))) := Lib.hid (fun W' hW' => hz u W' n hn hs.2.2 hvz ((k.on hbw).on hW'))
  have HO := Lib.hid (fun A1 A2 l1 l2 c1 c2 W' ha ha' => op_ok (numOp op) (numOp_le op) n hn A1 A2 l1 l2 c1 c2 _ _ (tabE_length n x) (tabE_length n z) W' ha ha')
  have HM1 := fun n W => meth_table h n W
  have HC1 := fun W => call_table x y.2 (.int .i64 (n : Nat)) W
  have HM2 := fun n W => meth_table k n W
  have HC2 := fun W => call_table z u.2 (.int .i64 (n : Nat)) W
  have HH := Lib.hid (And.intro hblk (And.intro hbw hblk0))
  have HWW := Lib.hid hW
  clear hx hz h k hbw hblk hblk0 hv hs hvx hvz
  show Calls Tryz.prog 139 _ w _
  go_enter Tryz.func139, Tryz.ntmps139
  go_wp2_with fail
  rw [← HWW.out]
  clear hW
  have FACTS : Hid (∀ W', Below W.heap.size W W' → W'.cell? ⟨w.heap.size, 0, none⟩ = some (.int .u8 (op : Nat)) ∧ W'.cell? ⟨w.heap.size, 1, none⟩ = some (ifV y) ∧ W'.cell? ⟨w.heap.size, 2, none⟩ = some (ifV u)) := Lib.hid (fun W' hW => ⟨(HH.out.2.2.onB hW).cell 0, (HH.out.2.2.onB hW).cell 1, (HH.out.2.2.onB hW).cell 2⟩)
  clear p0 p1 p2
  go_region_held3 (fun w' => w'.cell? ⟨w.heap.size, 0, none⟩ = some (.int .u8 (op : Nat)) ∧ w'.cell? ⟨w.heap.size, 1, none⟩ = some (ifV y) ∧ w'.cell? ⟨w.heap.size, 2, none⟩ = some (ifV u)) ((refine FACTS.out _ ?_; with_reducible (first | exact Below.refl _ _ | exact (Below.refl _ _).drew | exact (Below.refl _ _).alloc (Nat.le_refl _) _ | exact ((Below.refl _ _).alloc (Nat.le_refl _) _).drew | exact ((Below.refl _ _).drew).alloc (Nat.le_refl _) _ | exact hB1 | exact hB1.drew | exact hB1.alloc hB1.size _ | exact (hB1.alloc hB1.size _).drew | exact hB2 | exact hB2.drew | exact hB2.alloc hB2.size _ | exact (hB2.alloc hB2.size _).drew | exact hB3 | exact hB3.drew | exact hB3.alloc hB3.size _ | exact (hB3.alloc hB3.size _).drew | exact (hB3.setCell hB2.size _).setCell hB2.size _ | exact (hB3.setCell hB1.size _).setCell hB1.size _ | exact (hB3.setCell (Nat.le_refl _) _).setCell (Nat.le_refl _) _))) (first
    | (go_at_call 143; refine (HNU.out _).mono ?_; rintro e w1 ⟨rfl, rfl⟩)
    | ((with_reducible show Calls _ (fTable x) _ _ _); refine (HX.out _ (by with_reducible (first | exact (Below.refl _ _).drew | exact ((Below.refl _ _).alloc (Nat.le_refl _) _).drew | exact (Below.refl _ _).alloc (Nat.le_refl _) _ | exact Below.refl _ _))).mono ?_; rintro e wx ⟨A1, l1, c1, rfl, hax, hbx⟩; have hB1 : Below W.heap.size W wx := (by first | exact ((Below.refl W.heap.size W).drew).trans hbx | exact (((Below.refl W.heap.size W).alloc (Nat.le_refl _) set0).drew).trans (hbx.mono (by simp))); have HAX := Lib.hid hax; (try have nb1 : Hid (Blk wx W.heap.size 38 #[.int .i64 0, .slice none 0 0]) := Lib.hid ((hbx.block W.heap.size (by simp)).trans (Blk.new W _ _))); clear hax hbx)
    | ((with_reducible show Calls _ (fTable z) _ _ _); refine (HZ.out _ (by with_reducible (first | exact hB1 | exact hB1.alloc hB1.size _ | exact (hB1.alloc hB1.size _).drew | exact hB1.drew))).mono ?_; rintro e wz ⟨A2, l2, c2, rfl, haz, hbz⟩; have hX2 : Hid (Below wx.heap.size wx wz) := Lib.hid (by first | exact hbz | exact ((Below.refl wx.heap.size wx).alloc (Nat.le_refl _) set0).trans (hbz.mono (by simp))); have hB2 : Below W.heap.size W wz := hB1.trans (hX2.out.mono hB1.size); have HAX2 := Lib.hid (HAX.out.on hX2.out); have HAZ := Lib.hid haz; (try have nb2 : Hid (Blk wz W.heap.size 38 #[.int .i64 0, .slice none 0 0]) := Lib.hid (nb1.out.onB hX2.out)); (try have nb2 : Hid (Blk wz wx.heap.size 38 #[.int .i64 0, .slice none 0 0]) := Lib.hid ((hbz.block wx.heap.size (by simp)).trans (Blk.new wx _ _))); clear haz hbz)
    | ((first | ((with_reducible show Calls _ 144 _ _ _); refine (HO.out A1 A2 l1 l2 c1 c2 _ HAX2.out HAZ.out).mono ?_; rintro e wo ⟨A3, l3, c3, rfl, hao, hbo⟩; have hX3 : Hid (Below wz.heap.size wz wo) := Lib.hid hbo) | ((with_reducible show Calls _ 144 _ _ _); refine (HO.out A1 A2 l1 l2 c1 c2 _ (HAX2.out.alloc _) (HAZ.out.alloc _)).mono ?_; rintro e wo ⟨A3, l3, c3, rfl, hao, hbo⟩; have hX3 : Hid (Below wz.heap.size wz wo) := Lib.hid (((Below.refl wz.heap.size wz).alloc (Nat.le_refl _) set0).trans (hbo.mono (by simp))))); have hB3 : Below W.heap.size W wo := hB2.trans (hX3.out.mono hB2.size); have HAO := Lib.hid hao; (try have nb3 : Hid (Blk wo wz.heap.size 38 #[.int .i64 0, .slice none 0 0]) := Lib.hid ((hbo.block wz.heap.size (by simp)).trans (Blk.new wz _ _))); (try have nb3 := Lib.hid (nb2.out.onB hX3.out)); (try have d0 := nb3.out.cell 0); (try have d1 := nb3.out.cell 1); (try have e0 := nb3.out.frozen 0); (try have e1 := nb3.out.frozen 1); clear hao hbo)
    | fail)
  all_goals
    have hBk : Blk wo (w.heap.size + 1) 38 #[.int .i64 0, .slice none 0 0] := HH.out.1.onB hB3
    have c0 : wo.cell? ⟨w.heap.size + 1, 0, none⟩ = some (.int .i64 0) := hBk.cell 0
    have c1 : wo.cell? ⟨w.heap.size + 1, 1, none⟩ = some (.slice none 0 0) := hBk.cell 1
    have f0 := hBk.frozen 0
    have f1 := hBk.frozen 1
    have s1 := hB1.size
    have s2 := hX2.out.size
    have s3 := hX3.out.size
    have hbo := HH.out.2.1.trans (hB3.mono HH.out.2.1.size)
    have FIN2 := Lib.hid (fun o => set_end (o := o) (k := w.heap.size + 1) (by omega) hBk HAO.out hbo)
    (try have FIN := Lib.hid (set_end2 (k := w.heap.size + 1) (by omega) (by omega) (by omega) hBk nb3.out HAO.out hbo))
    have t1 : ¬ w.heap.size + 1 = W.heap.size := by omega
    have t2 : ¬ w.heap.size + 1 = wx.heap.size := by omega
    have t3 : ¬ w.heap.size + 1 = wz.heap.size := by omega
    have t4 : ¬ w.heap.size + 1 = wo.heap.size := by omega
    have t5 : ¬ W.heap.size = w.heap.size + 1 := by omega
    have t6 : ¬ wx.heap.size = w.heap.size + 1 := by omega
    have t7 : ¬ wz.heap.size = w.heap.size + 1 := by omega
    have hlo := hBk.lt
    clear hBk hbo hB1 hB2 hB3
    go_wp2_with fail
    refine bodyPost_ret (v := .agg #[.int .i64 (n : Nat), .slice A3 l3 c3]) ?_ rfl (by first | exact FIN.out | exact FIN2.out _)
    simp [results, Tryz.results139, go_sem, *]
end Go.Proofs.YtbhbhfplpbcfiaaGreatDoor
