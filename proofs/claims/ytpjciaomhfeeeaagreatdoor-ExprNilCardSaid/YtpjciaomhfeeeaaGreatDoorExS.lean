/- Contracts: the text of an expression. -/
import Derived.Test.YtpjciaomhfeeeaaGreatDoorExM
import Derived.Test.YtpjciaomhfeeeaaGreatDoorBufO
namespace Go.Proofs.YtpjciaomhfeeeaaGreatDoor
open Go.RowKit Go.Sort
set_option linter.unusedSimpArgs false
set_option linter.unusedVariables false

/-- the builder b holds the text bs; since W its blocks alone have turned -/
structure TB (B b : Nat) (bs : List UInt8) (W w : World) : Prop where
  buf : IsBuf B b (Lib.byteCells bs) w
  below : Below B W w
  oth : OthB b W w
theorem TB.trans {B b : Nat} {bs cs : List UInt8} {W w w' : World} (h : TB B b bs W w) (k : TB B b cs w w') : TB B b cs W w' := ⟨k.buf, h.below.trans k.below, h.oth.trans k.oth⟩
theorem TB.alloc {B b : Nat} {bs : List UInt8} {W w : World} (h : TB B b bs W w) (hB : B ≤ w.heap.size) (o : Obj) : TB B b bs W (w.alloc o) :=
  ⟨IsBuf.on h.buf ((Below.refl _ _).alloc (Nat.le_refl _) o), h.below.alloc hB o, Lib.OthersKept.alloc h.oth o⟩
theorem TB.on {B b : Nat} {bs : List UInt8} {W w w' : World} (h : TB B b bs W w) (hB : B ≤ w.heap.size) (hb : Below w.heap.size w w') : TB B b bs W w' :=
  ⟨IsBuf.on h.buf hb, h.below.trans (hb.mono hB), h.oth.trans (OthB.on hb)⟩
theorem wb_any (B b : Nat) (bs : List UInt8) (c : UInt8) (w : World) (h : IsBuf B b (Lib.byteCells bs) w) (hlen : bs.length ≤ 100000000) (hB : B ≤ w.heap.size) :
    Calls Tryz.prog 118 #[.pointer (some ⟨b, 0, none⟩), .int .u8 (c.toNat : Nat)] w fun e w' => e = .returned .nilIface ∧ TB B b (bs ++ [c]) w w' := by
  refine (wbyte_o B b (Lib.byteCells bs) (c.toNat : Nat) w h (by rw [Lib.byteCells_length]; omega) hB).mono ?_
  rintro e w' ⟨rfl, h1, h2, h3⟩
  exact ⟨rfl, ⟨(by have : IsBuf B b (Lib.byteCells bs ++ [.int .u8 (c.toNat : Nat)]) w' := .inr h1; simpa [Lib.byteCells] using this), h2, h3⟩⟩
theorem ws_any (B b : Nat) (bs l : List UInt8) (w : World) (h : IsBuf B b (Lib.byteCells bs) w) (hlen : bs.length + l.length ≤ 100000000) (hB : B ≤ w.heap.size) :
    Calls Tryz.prog 188 #[.pointer (some ⟨b, 0, none⟩), .string ⟨l.toArray⟩] w fun e w' => (∃ v, e = .returned v) ∧ TB B b (bs ++ l) w w' := by
  have hs := bytes_size l
  refine (wstr_o B b (Lib.byteCells bs) ⟨l.toArray⟩ w h (by rw [Lib.byteCells_length, hs]; omega) hB).mono ?_
  rintro e w' ⟨rfl, h1, h2, h3⟩
  exact ⟨⟨_, rfl⟩, ⟨(by have : IsBuf B b (Lib.byteCells bs ++ Lib.strCells ⟨l.toArray⟩) w' := .inr h1; simpa [Lib.byteCells, Lib.strCells] using this), h2, h3⟩⟩
def fText : Ex → FuncId
  | .const _ => 173
  | .var _ => 184
  | .not _ => 196
  | .pair _ _ _ => 113
  | .bound _ _ _ => 202
def TextC (x : Ex) : Prop := ∀ (v : TypeId × Value) (w : World) (B b : Nat) (bs : List UInt8), ExAt w B x v → IsBuf B b (Lib.byteCells bs) w → B ≤ w.heap.size → x.Small → bs.length + x.textE.length ≤ 10000000 →
  Calls Tryz.prog (fText x) #[v.2, .pointer (some ⟨b, 0, none⟩)] w fun e w' => e = .returned (.tuple #[]) ∧ TB B b (bs ++ x.textE) w w'
theorem meth_text {x : Ex} {v : TypeId × Value} {w : World} {B : Nat} (h : ExAt w B x v) (n : Nat) (W : World) : Sem.run Tryz.prog (method (n + 8) v.1 v.2 "ramage/expr.text") W = .ok (fText x, v.2) W := by
  cases x with
  | const b => subst h; kernel_rfl
  | var k => subst h; kernel_rfl
  | not x => obtain ⟨y, rfl, _⟩ := h; kernel_rfl
  | pair op a b => obtain ⟨y, z, rfl, _⟩ := h; kernel_rfl
  | bound e l x => obtain ⟨A, k, c, y, rfl, _⟩ := h; kernel_rfl
theorem call_text (x : Ex) (p q : Value) (W : World) : Sem.run Tryz.prog (callFunc (fText x) #[p, q]) W = .ok (.enter (fText x) #[p, q]) W := by
  cases x
  · show Sem.run Tryz.prog (callFunc 173 #[p, q]) W = .ok (.enter 173 #[p, q]) W
    go_simp
  · show Sem.run Tryz.prog (callFunc 184 #[p, q]) W = .ok (.enter 184 #[p, q]) W
    go_simp
  · show Sem.run Tryz.prog (callFunc 196 #[p, q]) W = .ok (.enter 196 #[p, q]) W
    go_simp
  · show Sem.run Tryz.prog (callFunc 113 #[p, q]) W = .ok (.enter 113 #[p, q]) W
    go_simp
  · show Sem.run Tryz.prog (callFunc 202 #[p, q]) W = .ok (.enter 202 #[p, q]) W
    go_simp
set_option maxRecDepth 100000 in
set_option maxHeartbeats 8000000 in
theorem text_const (c : Bool) : TextC (.const c) := by
  rintro v w B b bs rfl hb hB hs hl
  have hl : bs.length + 1 ≤ 10000000 := hl
  have H0 := Lib.hid (wb_any B b bs 48 w hb (by omega) hB)
  have H1 := Lib.hid (wb_any B b bs 49 w hb (by omega) hB)
  clear hb
  show Calls Tryz.prog 173 _ w _
  cases c
  · go_enter Tryz.func173, Tryz.ntmps173
    go_wp2_with fail
    refine H0.out.mono ?_
    rintro e w1 ⟨rfl, h1⟩
    go_wp2_with fail
    exact bodyPost_end (by simp [results, go_sem]) rfl ⟨rfl, h1⟩
  · go_enter Tryz.func173, Tryz.ntmps173
    go_wp2_with fail
    refine H1.out.mono ?_
    rintro e w1 ⟨rfl, h1⟩
    go_wp2_with fail
    exact bodyPost_end (by simp [results, go_sem]) rfl ⟨rfl, h1⟩
set_option maxRecDepth 100000 in
set_option maxHeartbeats 8000000 in
theorem text_var (n : Nat) : TextC (.var n) := by
  rintro v w B b bs rfl hb hB hs hl
  have hs : n ≤ 15 := hs
  have HI := Lib.hid (itoa_sm n w (by omega))
  have HT := Lib.hid (And.intro hb hl)
  have hlen : ¬ 9223372036854775807 < 1 + (Lib.decDigits n).length := by have := digs_len n (by omega); omega
  have hx : (⟨#[120]⟩ : ByteArray) ++ ⟨(Lib.decDigits n).toArray⟩ = ⟨(120 :: Lib.decDigits n).toArray⟩ := txt_append [120] _
  unfold txt at HI
  clear hb hl
  show Calls Tryz.prog 184 _ w _
  go_enter Tryz.func184, Tryz.ntmps184
  go_wp2_with fail
  refine HI.out.mono ?_
  rintro e w1 ⟨rfl, h1⟩
  have HW := Lib.hid (ws_any B b bs (120 :: Lib.decDigits n) w1 (IsBuf.on HT.out.1 h1) (by have := HT.out.2; simp only [Ex.textE] at this; omega) (Nat.le_trans hB h1.size))
  have H1 := Lib.hid h1
  clear h1
  go_wp2_with fail
  refine HW.out.mono ?_
  rintro e w2 ⟨⟨v2, rfl⟩, h2⟩
  go_wp2_with fail
  exact bodyPost_end (by simp [results, go_sem]) rfl ⟨rfl, ⟨h2.buf, (H1.out.mono hB).trans h2.below, (OthB.on H1.out).trans h2.oth⟩⟩
set_option maxRecDepth 100000 in
set_option maxHeartbeats 8000000 in
theorem text_not (x : Ex) (hx : TextC x) : TextC (.not x) := by
  rintro v w B b bs ⟨y, rfl, h⟩ hb hB hs hl
  have hl : bs.length + (x.textE.length + 1) ≤ 10000000 := hl
  obtain ⟨W, hW⟩ : ∃ W, W = w.alloc (.cells #[ifV y] 142) := ⟨_, rfl⟩
  have hbw : Below w.heap.size w W := by rw [hW]; exact (Below.refl _ _).alloc (Nat.le_refl _) _
  have hblk : Blk W w.heap.size 142 #[ifV y] := by rw [hW]; exact Blk.new _ _ _
  have hbl := IsBuf.lt hb
  have HT := Lib.hid (show TB B b bs w W from ⟨IsBuf.on hb hbw, hbw.mono hB, OthB.on hbw⟩)
  have H1 := Lib.hid (wb_any B b bs 33 W HT.out.buf (by omega) (Nat.le_trans hB hbw.size))
  have HX := Lib.hid hx
  have HM := fun n W => meth_text h n W
  have HCF := fun W => call_text x y.2 (.pointer (some ⟨b, 0, none⟩)) W
  have HH := Lib.hid (And.intro hblk (And.intro (h.below (hbw.mono hB)) (Nat.le_trans hB hbw.size)))
  have HS := Lib.hid (show x.Small from hs)
  have HWW := Lib.hid hW
  clear hx h hbw hblk hb hs
  show Calls Tryz.prog 196 _ w _
  go_enter Tryz.func196, Tryz.ntmps196
  go_wp2_with fail
  rw [← HWW.out]
  clear hW
  refine H1.out.mono ?_
  rintro e w1 ⟨rfl, h1⟩
  have hk1 := h1.oth.blk HH.out.1 (by decide) (by omega)
  have c0 : w1.cell? ⟨w.heap.size, 0, none⟩ = some (ifV y) := hk1.cell 0
  have hB1 := Nat.le_trans HH.out.2.2 h1.below.size
  have HY := Lib.hid (HX.out y w1 B b (bs ++ [33]) (HH.out.2.1.below h1.below) h1.buf hB1 HS.out (by simp; omega))
  have HT1 := Lib.hid (HT.out.trans h1)
  clear h1 hk1
  go_wp2_with fail
  refine HY.out.mono ?_
  rintro e w2 ⟨rfl, h2⟩
  have h3 := HT1.out.trans h2
  rw [List.append_assoc] at h3
  clear h2
  go_wp2_with fail
  exact bodyPost_end (by simp [results, go_sem]) rfl ⟨rfl, h3⟩
set_option maxRecDepth 100000 in
set_option maxHeartbeats 8000000 in
theorem text_pair (op : Nat) (x z : Ex) (hx : TextC x) (hz : TextC z) : TextC (.pair op x z) := by
  rintro v w B b bs ⟨y, u, rfl, h, k⟩ hb hB hs hl
  have hl : bs.length + (x.textE.length + z.textE.length + 3) ≤ 10000000 := by simp only [Ex.textE, List.length_cons, List.length_append, List.length_nil] at hl; omega
  obtain ⟨W, hW⟩ : ∃ W, W = w.alloc (.cells #[.int .u8 (op : Nat), ifV y, ifV u] 113) := ⟨_, rfl⟩
  have hbw : Below w.heap.size w W := by rw [hW]; exact (Below.refl _ _).alloc (Nat.le_refl _) _
  have hblk : Blk W w.heap.size 113 #[.int .u8 (op : Nat), ifV y, ifV u] := by rw [hW]; exact Blk.new _ _ _
  have hbl := IsBuf.lt hb
  have HT := Lib.hid (show TB B b bs w W from ⟨IsBuf.on hb hbw, hbw.mono hB, OthB.on hbw⟩)
  have H1 := Lib.hid (wb_any B b bs 40 W HT.out.buf (by omega) (Nat.le_trans hB hbw.size))
  have HX := Lib.hid hx
  have HZ := Lib.hid hz
  have HM1 := fun n W => meth_text h n W
  have HC1 := fun W => call_text x y.2 (.pointer (some ⟨b, 0, none⟩)) W
  have HM2 := fun n W => meth_text k n W
  have HC2 := fun W => call_text z u.2 (.pointer (some ⟨b, 0, none⟩)) W
  have HH := Lib.hid (And.intro hblk (And.intro (h.below (hbw.mono hB)) (And.intro (k.below (hbw.mono hB)) (Nat.le_trans hB hbw.size))))
  have HS := Lib.hid (show rk op ≠ 0 ∧ x.Small ∧ z.Small from hs)
  have hop := (op_byte HS.out.1).1
  have HWW := Lib.hid hW
  clear hx hz h k hbw hblk hb hs
  show Calls Tryz.prog 113 _ w _
  go_enter Tryz.func113, Tryz.ntmps113
  go_wp2_with fail
  rw [← HWW.out]
  clear hW
  refine H1.out.mono ?_
  rintro e w1 ⟨rfl, h1⟩
  have hk1 := h1.oth.blk HH.out.1 (by decide) (by omega)
  have c0 : w1.cell? ⟨w.heap.size, 1, none⟩ = some (ifV y) := hk1.cell 1
  have hB1 := Nat.le_trans HH.out.2.2.2 h1.below.size
  have HY := Lib.hid (HX.out y w1 B b (bs ++ [40]) (HH.out.2.1.below h1.below) h1.buf hB1 HS.out.2.1 (by simp; omega))
  have HT1 := Lib.hid h1
  have HK1 := Lib.hid hk1
  clear h1 hk1
  go_wp2_with fail
  refine HY.out.mono ?_
  rintro e w2 ⟨rfl, h2⟩
  have hk2 := h2.oth.blk HK1.out (by decide) (by omega)
  have c1 : w2.cell? ⟨w.heap.size, 0, none⟩ = some (.int .u8 (op : Nat)) := hk2.cell 0
  have hB2 := Nat.le_trans hB1 h2.below.size
  have HO := Lib.hid (wb_any B b (bs ++ [40] ++ x.textE) (UInt8.ofNat op) w2 h2.buf (by simp; omega) hB2)
  rw [hop] at HO
  have HT2 := Lib.hid (HT1.out.trans h2)
  have HK2 := Lib.hid hk2
  clear h2 hk2
  go_wp2_with fail
  refine HO.out.mono ?_
  rintro e w3 ⟨rfl, h3⟩
  have hk3 := h3.oth.blk HK2.out (by decide) (by omega)
  have c2 : w3.cell? ⟨w.heap.size, 2, none⟩ = some (ifV u) := hk3.cell 2
  have hB3 := Nat.le_trans hB2 h3.below.size
  have HU := Lib.hid (HZ.out u w3 B b (bs ++ [40] ++ x.textE ++ [UInt8.ofNat op]) ((HH.out.2.2.1.below HT2.out.below).below h3.below) h3.buf hB3 HS.out.2.2 (by simp; omega))
  have HT3 := Lib.hid (HT2.out.trans h3)
  clear h3 hk3
  go_wp2_with fail
  refine HU.out.mono ?_
  rintro e w4 ⟨rfl, h4⟩
  have HE := Lib.hid (wb_any B b (bs ++ [40] ++ x.textE ++ [UInt8.ofNat op] ++ z.textE) 41 w4 h4.buf (by simp; omega) (Nat.le_trans hB3 h4.below.size))
  have HT4 := Lib.hid (HT3.out.trans h4)
  clear h4
  go_wp2_with fail
  refine HE.out.mono ?_
  rintro e w5 ⟨rfl, h5⟩
  have h6 := HT.out.trans (HT4.out.trans h5)
  rw [show bs ++ [40] ++ x.textE ++ [UInt8.ofNat op] ++ z.textE ++ [41] = bs ++ (Ex.pair op x z).textE by simp [Ex.textE]] at h6
  clear h5
  go_wp2_with fail
  exact bodyPost_end (by simp [results, go_sem]) rfl ⟨rfl, h6⟩
/-- the text of the first k bound variables -/
def bndT (l : List Nat) (k : Nat) : List UInt8 := (l.take k).flatMap fun v => 32 :: 120 :: Lib.decDigits v
theorem bndT_step {l : List Nat} {k v : Nat} (h : l[k]? = some v) : bndT l (k + 1) = bndT l k ++ (32 :: 120 :: Lib.decDigits v) := by
  unfold bndT
  rw [List.take_add_one, h, List.flatMap_append]
  simp
theorem bndT_len (l : List Nat) (hl : ∀ v ∈ l, v ≤ 15) (k : Nat) : (bndT l k).length ≤ 4 * (l.take k).length := by
  unfold bndT
  have : ∀ m : List Nat, (∀ v ∈ m, v ≤ 15) → (m.flatMap fun v => 32 :: 120 :: Lib.decDigits v).length ≤ 4 * m.length := fun m => by
    induction m with
    | nil => intro _; simp
    | cons v m ih =>
      intro h
      have h1 := ih fun x hx => h x (by simp [hx])
      have h2 := dig_two (h v (by simp))
      simp only [List.flatMap_cons, List.length_append, List.length_cons]
      omega
  exact this _ fun v hv => hl v (List.mem_of_mem_take hv)
theorem bndT_le (l : List Nat) (k : Nat) : (bndT l k).length ≤ (bndT l l.length).length := by
  unfold bndT
  conv => rhs; rw [List.take_length, ← List.take_append_drop k l, List.flatMap_append, List.length_append]
  omega
set_option maxRecDepth 100000 in
set_option maxHeartbeats 16000000 in
theorem text_bound (each : Bool) (l : List Nat) (x : Ex) (hx : TextC x) : TextC (.bound each l x) := by
  rintro v w B b bs ⟨A, n, c, y, rfl, ho, hob, h⟩ hb hB hs hl
  obtain ⟨A', n', c', e, e1, e2⟩ := ho.form
  injection e with ea eb ec
  subst ea eb ec
  have hlen : l.length = n := by simpa using e1
  have hll : bs.length + (4 + (bndT l l.length).length + 1 + x.textE.length) ≤ 10000000 := by
    simp only [Ex.textE, List.length_append, List.length_cons] at hl
    have : (if each then [101, 97, 99, 104] else [115, 111, 109, 101] : List UInt8).length = 4 := by cases each <;> rfl
    unfold bndT
    rw [List.take_length]
    omega
  have hnm : n ≤ 9223372036854775807 := by have := ho.len_le; simp at this; omega
  obtain ⟨W, hW⟩ : ∃ W, W = w.alloc (.cells #[.bool each, .slice A n c, ifV y] 156) := ⟨_, rfl⟩
  have hbw : Below w.heap.size w W := by rw [hW]; exact (Below.refl _ _).alloc (Nat.le_refl _) _
  have hblk : Blk W w.heap.size 156 #[.bool each, .slice A n c, ifV y] := by rw [hW]; exact Blk.new _ _ _
  have hbl := IsBuf.lt hb
  have HT := Lib.hid (show TB B b bs w W from ⟨IsBuf.on hb hbw, hbw.mono hB, OthB.on hbw⟩)
  have hBW := Nat.le_trans hB hbw.size
  obtain ⟨q, hq⟩ : ∃ q : List UInt8, q = if each then [101, 97, 99, 104] else [115, 111, 109, 101] := ⟨_, rfl⟩
  have hq4 : q.length = 4 := by rw [hq]; cases each <;> rfl
  have H1 := Lib.hid (ws_any B b bs q W HT.out.buf (by omega) hBW)
  have HX := Lib.hid hx
  have HM1 := fun n W => meth_text h n W
  have HC1 := fun W => call_text x y.2 (.pointer (some ⟨b, 0, none⟩)) W
  have HH := Lib.hid (And.intro hblk (And.intro (h.below (hbw.mono hB)) (And.intro ho hob)))
  have HS := Lib.hid (show (∀ v ∈ l, v ≤ 15) ∧ x.Small from hs)
  have b0 : W.cell? ⟨w.heap.size, 0, none⟩ = some (.bool each) := hblk.cell 0
  have HWW := Lib.hid hW
  have HFIN : Hid (∀ w', TB B b (bs ++ q ++ bndT l l.length ++ [46] ++ x.textE) w w' → TB B b (bs ++ (Ex.bound each l x).textE) w w') := Lib.hid (fun w' h => by
    rw [show bs ++ q ++ bndT l l.length ++ [46] ++ x.textE = bs ++ (Ex.bound each l x).textE by
      unfold bndT; rw [List.take_length, hq]; simp [Ex.textE]] at h
    exact h)
  have HE := Lib.hid hq
  clear hx h hbw hblk hb hs e1 hl ho hob hq
  show Calls Tryz.prog 202 _ w _
  have J : ∀ (w1 : World), TB B b (bs ++ q) W w1 → Lib.hid (True.intro) = Lib.hid (True.intro) := fun _ _ => rfl
  clear J
  cases each
  all_goals
    have hq2 := HE.out
    simp only [if_true, if_false, Bool.false_eq_true] at hq2
    subst hq2
    clear HE
    have HLL := Lib.hid hll
    have HLEN := Lib.hid hlen
    clear hll hlen hq4
    go_enter Tryz.func202, Tryz.ntmps202
    go_wp2_with fail
    rw [← HWW.out]
    clear hW
    go_wp2_with fail
    refine H1.out.mono ?_
    rintro e w1 ⟨⟨v2, rfl⟩, h1⟩
    have hk1 := h1.oth.blk HH.out.1 (by decide) (by omega)
    have c1 : w1.cell? ⟨w.heap.size, 1, none⟩ = some (.slice A n c) := hk1.cell 1
    have HT1 := Lib.hid h1
    clear h1 hk1
    go_wp2_with fail
    go_loopw [15] (fun i wr => ∃ k : Nat, k ≤ n ∧ i = .int .i64 (k : Nat) ∧ TB B b (bs ++ _ ++ bndT l k) W wr) (fun i _ => n - (intOf i).toNat)
    case atStart => exact ⟨0, Nat.zero_le _, rfl, by have := HT1.out; simpa [bndT] using this⟩
    case round =>
      obtain ⟨k, hk, rfl, htb⟩ := hrel
      have ho : OwnI wr 0 (.slice A n c) (l.map fun (k : Nat) => (k : Int)) := HH.out.2.2.1.keep HH.out.2.2.2 (fun j hj _ => (htb.below.block j hj).trans (HT.out.below.block j hj))
      have hBr : B ≤ wr.heap.size := Nat.le_trans hBW htb.below.size
      have HTB := Lib.hid htb
      have HO := Lib.hid ho
      clear htb ho c1
      by_cases hk2 : k < n
      · obtain ⟨gb, cap, hgb, _, _, hgb3⟩ := HO.out.head (by have := HLEN.out; simp; omega)
        injection hgb with e1 e2' e3
        subst e1 e3
        clear e2'
        obtain ⟨v, hv⟩ : ∃ v, l[k]? = some v := ⟨_, List.getElem?_eq_getElem (by have := HLEN.out; omega)⟩
        have q0 : wr.cell? ⟨gb, k, none⟩ = some (.int .i64 (v : Nat)) := by have := (OwnF.at_ HO.out k (by have := HLEN.out; simp; omega)).1; rw [List.getElem?_map, hv] at this; exact this
        have hv15 : v ≤ 15 := HS.out.1 v (List.mem_of_getElem? hv)
        have HI := Lib.hid (itoa_sm v wr (by omega))
        unfold txt at HI
        have hlen : ¬ 9223372036854775807 < 2 + (Lib.decDigits v).length := by have := digs_len v (by omega); omega
        have hx : (⟨#[32, 120]⟩ : ByteArray) ++ ⟨(Lib.decDigits v).toArray⟩ = ⟨(32 :: 120 :: Lib.decDigits v).toArray⟩ := txt_append [32, 120] _
        have HST := Lib.hid (bndT_step hv)
        have HLE := Lib.hid (show (bndT l (k + 1)).length ≤ (bndT l l.length).length from bndT_le l _)
        have hki : (k : Int) < (n : Int) := by omega
        clear hv
        go_wp2_with fail
        refine HI.out.mono ?_
        rintro e w2 ⟨rfl, h2⟩
        have ht2 := HTB.out.on hBr h2
        have HW := Lib.hid (ws_any B b _ (32 :: 120 :: Lib.decDigits v) w2 ht2.buf (by have h1 := HLL.out; have h2 := HLE.out; rw [HST.out] at h2; simp only [List.length_append, List.length_cons, List.length_nil] at h2 ⊢; omega) (Nat.le_trans hBr h2.size))
        have HT2 := Lib.hid ht2
        clear h2 ht2
        go_wp2_with fail
        refine HW.out.mono ?_
        rintro e w3 ⟨⟨v3, rfl⟩, h3⟩
        have h4 := HT2.out.trans h3
        rw [List.append_assoc, ← HST.out] at h4
        have H4 := Lib.hid h4
        clear h3 h4
        go_wp2_with fail
        go_roundw
        case rel => exact ⟨k + 1, by omega, by go_num, H4.out⟩
        case measure => simp [intOf]; omega
      · have hkn : k = l.length := by have := HLEN.out; omega
        have hki : ¬ (k : Int) < (n : Int) := by omega
        subst hkn
        have hkb := HTB.out.oth.blk HH.out.1 (by decide) (by omega)
        have HW := Lib.hid (wb_any B b _ 46 wr HTB.out.buf (by have h1 := HLL.out; simp only [List.length_append, List.length_cons, List.length_nil]; omega) hBr)
        have HKB := Lib.hid hkb
        clear hkb
        go_wp2_with fail
        refine HW.out.mono ?_
        rintro e w2 ⟨rfl, h2⟩
        have hk2 := h2.oth.blk HKB.out (by decide) (by omega)
        have c2 : w2.cell? ⟨w.heap.size, 2, none⟩ = some (ifV y) := hk2.cell 2
        have HXX := Lib.hid (HX.out y w2 B b _ ((HH.out.2.1.below HTB.out.below).below h2.below) h2.buf (Nat.le_trans hBr h2.below.size) HS.out.2 (by have h1 := HLL.out; simp only [List.length_append, List.length_cons, List.length_nil]; omega))
        have HT2 := Lib.hid (HTB.out.trans h2)
        clear hk2 h2
        go_wp2_with fail
        refine HXX.out.mono ?_
        rintro e w3 ⟨rfl, h3⟩
        have h4 := HFIN.out _ (HT.out.trans (HT2.out.trans h3))
        clear h3
        go_wp2_with fail
        exact bodyPost_end (by simp [results, go_sem]) rfl ⟨rfl, h4⟩
/-- the text of any expression -/
theorem text_all : ∀ (x : Ex), TextC x
  | .const b => text_const b
  | .var n => text_var n
  | .not x => text_not x (text_all x)
  | .pair op a b => text_pair op a b (text_all a) (text_all b)
  | .bound each l x => text_bound each l x (text_all x)
theorem text_ne : ∀ (x : Ex), x.textE ≠ []
  | .const _ => by simp [Ex.textE]
  | .var _ => by simp [Ex.textE]
  | .not _ => by simp [Ex.textE]
  | .pair _ _ _ => by simp [Ex.textE]
  | .bound _ _ _ => by simp [Ex.textE]
set_option maxRecDepth 100000 in
set_option maxHeartbeats 8000000 in
theorem exprText_any (g : Nat) (x : Ex) (w : World) (h : ExprIs w g x) (hs : x.Small) (hl : x.textE.length ≤ 10000000) : Calls Tryz.prog 11 #[.pointer (some ⟨g, 0, none⟩)] w fun e w' => e = .returned (.string ⟨x.textE.toArray⟩) ∧ Below w.heap.size w w' := by
  obtain ⟨v, hb, he⟩ := h
  have hg := hb.lt
  obtain ⟨W, hW⟩ : ∃ W, W = w.alloc (.cells #[.pointer none, .slice none 0 0] 96) := ⟨_, rfl⟩
  have hbw : Below w.heap.size w W := by rw [hW]; exact (Below.refl _ _).alloc (Nat.le_refl _) _
  have hbuf : IsBuf w.heap.size w.heap.size (Lib.byteCells []) W := by rw [hW]; exact IsBuf.fresh w
  have c0 : w.cell? ⟨g, 0, none⟩ = some (ifV v) := hb.cell 0
  have HX := Lib.hid (text_all x v W w.heap.size w.heap.size [] (he.below hbw) hbuf hbw.size hs (by simpa using hl))
  have HM1 := fun n W => meth_text he n W
  have HC1 := fun W => call_text x v.2 (.pointer (some ⟨w.heap.size, 0, none⟩)) W
  have HWW := Lib.hid hW
  have HBW := Lib.hid hbw
  clear hb he hbw hbuf hW
  go_enter Tryz.func11, Tryz.ntmps11
  go_wp2_with fail
  rw [← HWW.out]
  refine HX.out.mono ?_
  rintro e w1 ⟨rfl, h1⟩
  have HS := Lib.hid (Tryz.Builder_String w.heap.size w.heap.size x.textE w1 (by simpa using h1.buf) (text_ne x))
  have H1 := Lib.hid h1
  clear h1
  go_wp2_with fail
  refine HS.out.mono ?_
  rintro e w2 ⟨rfl, h2⟩
  go_wp2_with fail
  go_ret
  exact ⟨rfl, (HBW.out.trans H1.out.below).trans h2⟩
end Go.Proofs.YtpjciaomhfeeeaaGreatDoor
