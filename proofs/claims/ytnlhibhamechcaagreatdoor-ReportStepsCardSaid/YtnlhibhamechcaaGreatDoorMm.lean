/- Edges as arguments. Slices of records as arguments. -/
import Derived.Test.YtnlhibhamechcaaGreatDoorMc
import Derived.Test.YtnlhibhamechcaaGreatDoorRows
import Derived.WalkKit
import Derived.ProofKit
import Derived.OpenShut
import Derived.ShutString
import Derived.ChangeOld
import Derived.Lib.SmallJoins
import Derived.Test.YtnlhibhamechcaaGreatDoorMa
import Derived.Deep.Slices
section
namespace Go.Proofs.YtnlhibhamechcaaGreatDoor
open Go.RowKit Go.ChangeShapes Go.WideShapes Go.ChangeAt Go.Joins
set_option linter.unusedSimpArgs false
set_option linter.unusedVariables false

theorem u8_wf {n : Int} (h : (Lit.int .u8 n).wf = true) : 0 ≤ n ∧ n ≤ 255 := by simpa [Lit.wf, IntKind.min, IntKind.max, IntKind.signed, IntKind.bits] using h
theorem u32_wf {n : Int} (h : (Lit.int .u32 n).wf = true) : 0 ≤ n ∧ n ≤ 4294967295 := by simpa [Lit.wf, IntKind.min, IntKind.max, IntKind.signed, IntKind.bits] using h
theorem edge_cells : Tryz.prog.cellsOf 63 = 2 := by kernel_rfl
set_option maxRecDepth 100000 in
theorem edge_arg {H : Type} {enc : TypeId × Value → H} {W : World} {base : Nat} {v : Value} {d : DataW H} {p : List MemPlace} (hv : Value.okWide Tryz.prog W .any base 63 v) (h : DataW.Trod enc Tryz.prog W 0 (fun _ => true) true 63 v d p) :
    ∃ e : Edg, v = .agg e.cells.toArray ∧ e.Wf := by
  obtain ⟨c0, c1, y0, y1, m, rfl, rfl, rfl, hy0, hy1⟩ := open_agg2 Tryz.underlying63 (by kernel_rfl) edge_cells hv h
  obtain ⟨a, e0, rfl, wa⟩ := DataW.trod_int Tryz.underlying5 hy0
  obtain ⟨b, e1, rfl, wb⟩ := DataW.trod_int Tryz.underlying61 hy1
  simp at e0 e1
  subst e0 e1
  have h1 := u8_wf wa
  have h2 := u32_wf wb
  exact ⟨⟨a, b⟩, rfl, h1.1, h1.2, h2.1, h2.2⟩
end Go.Proofs.YtnlhibhamechcaaGreatDoor
end

section
namespace Go.Proofs.YtnlhibhamechcaaGreatDoor
open Go.RowKit Go.ChangeShapes Go.WideShapes Go.ChangeAt Go.Joins Go.Deep
set_option linter.unusedSimpArgs false
set_option linter.unusedVariables false

theorem cellsForm : Tryz.prog.cellsOf 60 = 1 := by kernel_rfl
theorem cellsU8 : Tryz.prog.cellsOf 5 = 1 := by kernel_rfl
theorem cellsU32 : Tryz.prog.cellsOf 61 = 1 := by kernel_rfl
theorem cellsRec : Tryz.prog.cellsOf 87 = 7 := by kernel_rfl
section
variable {H : Type} {enc : TypeId × Value → H} {W : World} {base : Nat} {spare : Nat → Bool} {held : Bool} {n : Nat} {x : DataW H × List MemPlace}
set_option maxRecDepth 100000 in
theorem edge_cells_of {cs : List Value} (h : DataW.trod enc Tryz.prog W base spare held n 63 cs = some x) : ∃ e : Edg, cs = e.cells ∧ e.Wf := by
  obtain ⟨xs, m, _, _, hlen, hx, hg⟩ := DataW.trod_struct Tryz.underlying63 h
  rw [edge_cells] at hlen
  match cs, hlen with
  | [c0, c1], _ =>
    match xs, hx with
    | [y0, y1], _ =>
      have g0 := hg 0 _ rfl
      have g1 := hg 1 _ rfl
      simp only [List.getElem_toArray, List.getElem_cons_zero, List.getElem_cons_succ, cellsU8, cellsU32] at g0 g1
      obtain ⟨a, e0, rfl, wa⟩ := DataW.trod_int Tryz.underlying5 g0
      obtain ⟨b, e1, rfl, wb⟩ := DataW.trod_int Tryz.underlying61 g1
      simp at e0 e1
      subst e0 e1
      have h1 := u8_wf wa
      have h2 := u32_wf wb
      exact ⟨⟨a, b⟩, rfl, h1.1, h1.2, h2.1, h2.2⟩
set_option maxRecDepth 100000 in
theorem rec_cells_of {cs : List Value} (h : DataW.trod enc Tryz.prog W base spare held n 87 cs = some x) : ∃ r : Rec, cs = r.cells ∧ r.Wf := by
  obtain ⟨xs, m, _, _, hlen, hx, hg⟩ := DataW.trod_struct Tryz.underlying87 h
  rw [cellsRec] at hlen
  match cs, hlen with
  | [c0, c1, c2, c3, c4, c5, c6], _ =>
    match xs, hx with
    | [y0, y1, y2, y3, y4], _ =>
      have g0 := hg 0 _ rfl
      have g1 := hg 1 _ rfl
      have g2 := hg 2 _ rfl
      have g3 := hg 3 _ rfl
      have g4 := hg 4 _ rfl
      simp only [List.getElem_toArray, List.getElem_cons_zero, List.getElem_cons_succ, cellsU8, cellsForm, edge_cells] at g0 g1 g2 g3 g4
      obtain ⟨a, e0, rfl, wa⟩ := DataW.trod_int Tryz.underlying60 g0
      obtain ⟨b, e1, rfl, wb⟩ := DataW.trod_int Tryz.underlying5 g1
      obtain ⟨c, e2, rfl, wc⟩ := DataW.trod_int Tryz.underlying5 g2
      obtain ⟨lo, e3, wlo⟩ := edge_cells_of g3
      obtain ⟨hi, e4, whi⟩ := edge_cells_of g4
      simp [Edg.cells] at e0 e1 e2 e3 e4
      obtain ⟨e5, e6⟩ := e3
      obtain ⟨e7, e8⟩ := e4
      subst e0 e1 e2 e5 e6 e7 e8
      exact ⟨⟨a, b, c, lo, hi⟩, rfl, u8_wf wa, u8_wf wb, u8_wf wc, wlo, whi⟩
end
/-- a slice of records that came in -/
def RecsArg (w : World) (A : Option Addr) (n c : Nat) (rs : List Rec) : Prop :=
  rs.length = n ∧ n ≤ c ∧ c ≤ maxLen ∧ RowS 7 Rec.cells w w.heap.size A rs ∧ ∀ r ∈ rs, r.Wf
end Go.Proofs.YtnlhibhamechcaaGreatDoor
end
