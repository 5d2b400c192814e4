/- Edges as arguments. Slices of records as arguments. Sets, lists of ints and texts as arguments. -/
import Derived.Test.YtpjciaomhfeeeaaGreatDoorMc
import Derived.Test.YtpjciaomhfeeeaaGreatDoorRows
import Derived.WalkKit
import Derived.ProofKit
import Derived.OpenShut
import Derived.ShutString
import Derived.ChangeOld
import Derived.Lib.SmallJoins
import Derived.Test.YtpjciaomhfeeeaaGreatDoorMa
import Derived.Deep.Slices
import Derived.Test.YtpjciaomhfeeeaaGreatDoorMd
import Derived.ChangeSlices
import Derived.ChangeMaps5
section
namespace Go.Proofs.YtpjciaomhfeeeaaGreatDoor
open Go.RowKit Go.ChangeShapes Go.WideShapes Go.ChangeAt Go.Joins
set_option linter.unusedSimpArgs false
set_option linter.unusedVariables false

theorem u8_wf {n : Int} (h : (Lit.int .u8 n).wf = true) : 0 ≤ n ∧ n ≤ 255 := by simpa [Lit.wf, IntKind.min, IntKind.max, IntKind.signed, IntKind.bits] using h
theorem u32_wf {n : Int} (h : (Lit.int .u32 n).wf = true) : 0 ≤ n ∧ n ≤ 4294967295 := by simpa [Lit.wf, IntKind.min, IntKind.max, IntKind.signed, IntKind.bits] using h
theorem edge_cells : Tryz.prog.cellsOf 32 = 2 := by kernel_rfl
set_option maxRecDepth 100000 in
theorem edge_arg {H : Type} {enc : TypeId × Value → H} {W : World} {base : Nat} {v : Value} {d : DataW H} {p : List MemPlace} (hv : Value.okWide Tryz.prog W .any base 32 v) (h : DataW.Trod enc Tryz.prog W 0 (fun _ => true) true 32 v d p) :
    ∃ e : Edg, v = .agg e.cells.toArray ∧ e.Wf := by
  obtain ⟨c0, c1, y0, y1, m, rfl, rfl, rfl, hy0, hy1⟩ := open_agg2 Tryz.underlying32 (by kernel_rfl) edge_cells hv h
  obtain ⟨a, e0, rfl, wa⟩ := DataW.trod_int Tryz.underlying5 hy0
  obtain ⟨b, e1, rfl, wb⟩ := DataW.trod_int Tryz.underlying30 hy1
  simp at e0 e1
  subst e0 e1
  have h1 := u8_wf wa
  have h2 := u32_wf wb
  exact ⟨⟨a, b⟩, rfl, h1.1, h1.2, h2.1, h2.2⟩
end Go.Proofs.YtpjciaomhfeeeaaGreatDoor
end

section
namespace Go.Proofs.YtpjciaomhfeeeaaGreatDoor
open Go.RowKit Go.ChangeShapes Go.WideShapes Go.ChangeAt Go.Joins Go.Deep
set_option linter.unusedSimpArgs false
set_option linter.unusedVariables false

theorem cellsForm : Tryz.prog.cellsOf 35 = 1 := by kernel_rfl
theorem cellsU8 : Tryz.prog.cellsOf 5 = 1 := by kernel_rfl
theorem cellsU32 : Tryz.prog.cellsOf 30 = 1 := by kernel_rfl
theorem cellsRec : Tryz.prog.cellsOf 118 = 7 := by kernel_rfl
section
variable {H : Type} {enc : TypeId × Value → H} {W : World} {base : Nat} {spare : Nat → Bool} {held : Bool} {n : Nat} {x : DataW H × List MemPlace}
set_option maxRecDepth 100000 in
theorem edge_cells_of {cs : List Value} (h : DataW.trod enc Tryz.prog W base spare held n 32 cs = some x) : ∃ e : Edg, cs = e.cells ∧ e.Wf := by
  obtain ⟨xs, m, _, _, hlen, hx, hg⟩ := DataW.trod_struct Tryz.underlying32 h
  rw [edge_cells] at hlen
  match cs, hlen with
  | [c0, c1], _ =>
    match xs, hx with
    | [y0, y1], _ =>
      have g0 := hg 0 _ rfl
      have g1 := hg 1 _ rfl
      simp only [List.getElem_toArray, List.getElem_cons_zero, List.getElem_cons_succ, cellsU8, cellsU32] at g0 g1
      obtain ⟨a, e0, rfl, wa⟩ := DataW.trod_int Tryz.underlying5 g0
      obtain ⟨b, e1, rfl, wb⟩ := DataW.trod_int Tryz.underlying30 g1
      simp at e0 e1
      subst e0 e1
      have h1 := u8_wf wa
      have h2 := u32_wf wb
      exact ⟨⟨a, b⟩, rfl, h1.1, h1.2, h2.1, h2.2⟩
set_option maxRecDepth 100000 in
theorem rec_cells_of {cs : List Value} (h : DataW.trod enc Tryz.prog W base spare held n 118 cs = some x) : ∃ r : Rec, cs = r.cells ∧ r.Wf := by
  obtain ⟨xs, m, _, _, hlen, hx, hg⟩ := DataW.trod_struct Tryz.underlying118 h
  rw [cellsRec] at hlen
  match cs, hlen with
  | [c0, c1, c2, c3, c4, c5, c6], _ =>
    match xs, hx with
    | [y0, y1, y2, y3, y4], _ =>
      have g0 := hg 0 _ rfl
      have g1 := hg 1 _ rfl
      have g2 := hg 2 _ rfl
      have g3 := hg 3 _ rfl
      have g4 := hg 4 _ rfl
      simp only [List.getElem_toArray, List.getElem_cons_zero, List.getElem_cons_succ, cellsU8, cellsForm, edge_cells] at g0 g1 g2 g3 g4
      obtain ⟨a, e0, rfl, wa⟩ := DataW.trod_int Tryz.underlying35 g0
      obtain ⟨b, e1, rfl, wb⟩ := DataW.trod_int Tryz.underlying5 g1
      obtain ⟨c, e2, rfl, wc⟩ := DataW.trod_int Tryz.underlying5 g2
      obtain ⟨lo, e3, wlo⟩ := edge_cells_of g3
      obtain ⟨hi, e4, whi⟩ := edge_cells_of g4
      simp [Edg.cells] at e0 e1 e2 e3 e4
      obtain ⟨e5, e6⟩ := e3
      obtain ⟨e7, e8⟩ := e4
      subst e0 e1 e2 e5 e6 e7 e8
      exact ⟨⟨a, b, c, lo, hi⟩, rfl, u8_wf wa, u8_wf wb, u8_wf wc, wlo, whi⟩
end
/-- a slice of records that came in -/
def RecsArg (w : World) (A : Option Addr) (n c : Nat) (rs : List Rec) : Prop :=
  rs.length = n ∧ n ≤ c ∧ c ≤ maxLen ∧ RowS 7 Rec.cells w w.heap.size A rs ∧ ∀ r ∈ rs, r.Wf
end Go.Proofs.YtpjciaomhfeeeaaGreatDoor
end

section
namespace Go.Proofs.YtpjciaomhfeeeaaGreatDoor
open Go.RowKit Go.ChangeShapes Go.WideShapes Go.ChangeAt Go.Joins Go.Deep
set_option linter.unusedSimpArgs false
set_option linter.unusedVariables false

theorem cellsInt : Tryz.prog.cellsOf 3 = 1 := by kernel_rfl
theorem cellsU64 : Tryz.prog.cellsOf 132 = 1 := by kernel_rfl
theorem cellsSet : Tryz.prog.cellsOf 26 = 2 := by kernel_rfl
set_option maxRecDepth 100000 in
theorem ints_arg {H : Type} {enc : TypeId × Value → H} {W : World} {base : Nat} {v : Value} {d : DataW H} {p : List MemPlace} (hv : Value.okWide Tryz.prog W .any base 42 v) (h : DataW.Trod enc Tryz.prog W 0 (fun _ => true) true 42 v d p) :
    ∃ (A : Option Addr) (n c : Nat) (rs : List Int), v = .slice A n c ∧ IntsArg W A n c rs := by
  obtain ⟨A, n, c, rfl⟩ := okWide_slice Tryz.underlying42 hv
  obtain ⟨fuel, hf⟩ := h
  have ho : ∃ ys : List Int, ys.length = n ∧ n ≤ maxLen ∧ RowF (Value.int .i64) 0 W W.heap.size A ys ∧ (∀ x ∈ ys, (Lit.int .i64 x).wf = true) ∧ n ≤ c ∧ c ≤ maxLen := by
    rcases ChangeShapes.open_ints Tryz.underlying42 Tryz.underlying3 cellsInt hf with ⟨hcs, _⟩ | ⟨a, len, cap, zs, hcs, _, hl, hm, hz, _, hcell, hwz⟩
    · simp [Value.cells] at hcs
      obtain ⟨rfl, rfl, rfl⟩ := hcs
      exact ints_of_row (cap := 0) (.inl ⟨rfl, rfl, rfl, rfl⟩)
    · simp [Value.cells] at hcs
      obtain ⟨rfl, rfl, rfl⟩ := hcs
      exact ints_of_row (.inr ⟨_, rfl, hl, hm, by simpa using hz, hcell, hwz⟩)
  obtain ⟨ys, h1, _, h2, h3, h4, h5⟩ := ho
  exact ⟨A, n, c, ys, rfl, h1, h4, h5, h2, h3⟩
theorem u64_of_wf {n : Int} (h : (Lit.int .u64 n).wf = true) : 0 ≤ n ∧ n ≤ 18446744073709551615 := by simpa [Lit.wf, IntKind.min, IntKind.max, IntKind.signed, IntKind.bits] using h
set_option maxRecDepth 100000 in
theorem set_arg {H : Type} {enc : TypeId × Value → H} {W : World} {base : Nat} {v : Value} {d : DataW H} {p : List MemPlace} (hv : Value.okWide Tryz.prog W .any base 26 v) (h : DataW.Trod enc Tryz.prog W 0 (fun _ => true) true 26 v d p) :
    ∃ (m : Int) (A : Option Addr) (n c : Nat) (ws : List Nat), v = .agg #[.int .i64 m, .slice A n c] ∧ SetArg W m A n c ws := by
  obtain ⟨c0, c1, y0, y1, k, rfl, rfl, rfl, hy0, hy1⟩ := open_agg2 Tryz.underlying26 (by kernel_rfl) cellsSet hv h
  obtain ⟨m, e0, rfl, wm⟩ := DataW.trod_int Tryz.underlying3 hy0
  simp at e0
  subst e0
  have ho : ∃ (A : Option Addr) (n c : Nat) (ys : List Int), c1 = .slice A n c ∧ ys.length = n ∧ n ≤ maxLen ∧ RowF (Value.int .u64) 0 W W.heap.size A ys ∧ (∀ x ∈ ys, (Lit.int .u64 x).wf = true) ∧ n ≤ c ∧ c ≤ maxLen := by
    rcases ChangeShapes.open_ints Tryz.underlying24 Tryz.underlying132 cellsU64 hy1 with ⟨hcs, _⟩ | ⟨a, len, cap, zs, hcs, _, hl, hm, hz, _, hcell, hwz⟩
    · simp at hcs
      subst hcs
      obtain ⟨ys, h⟩ := ints_of_row (k := .u64) (w := W) (a := none) (len := 0) (cap := 0) (zs := []) (.inl ⟨rfl, rfl, rfl, rfl⟩)
      exact ⟨none, 0, 0, ys, rfl, h⟩
    · simp at hcs
      subst hcs
      obtain ⟨ys, h⟩ := ints_of_row (k := .u64) (w := W) (.inr ⟨a, rfl, hl, hm, by simpa using hz, hcell, hwz⟩)
      exact ⟨_, _, _, ys, rfl, h⟩
  obtain ⟨A, n, c, ys, rfl, h1, _, h2, h3, h4, h5⟩ := ho
  refine ⟨m, A, n, c, ys.map Int.toNat, rfl, by simpa using h1, h4, h5, fun hn => ?_, fun v hv => ?_, wm⟩
  · obtain ⟨b, off, rfl, hb, hcell⟩ := h2 (by simpa using hn)
    refine ⟨b, off, rfl, hb, fun j hj => ?_⟩
    rw [List.length_map] at hj
    rw [hcell j hj, List.getElem?_map, List.getElem?_eq_getElem hj]
    have hw := u64_of_wf (h3 _ (List.getElem_mem hj))
    simp only [Option.getD_some, Option.map_some]
    unfold U
    rw [Int.toNat_of_nonneg hw.1]
  · obtain ⟨x, hx, rfl⟩ := List.mem_map.1 hv
    have hw := u64_of_wf (h3 x hx)
    omega
set_option maxRecDepth 100000 in
theorem string_arg {H : Type} {enc : TypeId × Value → H} {W : World} {base : Nat} {t : TypeId} {v : Value} {d : DataW H} {p : List MemPlace} (ht : Tryz.prog.underlying t = some .string) (hv : Value.okWide Tryz.prog W .any base t v) (h : DataW.Trod enc Tryz.prog W 0 (fun _ => true) true t v d p) :
    ∃ s : ByteArray, v = .string s ∧ s.size ≤ maxLen := by
  obtain ⟨s, h1, _, _, h2⟩ := Go.ChangeMaps.open_string ht hv h
  exact ⟨s, h1, h2⟩
end Go.Proofs.YtpjciaomhfeeeaaGreatDoor
end
