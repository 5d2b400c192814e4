/- Steps and bytes as arguments. -/
import Derived.Test.YtnlhibhamechcaaGreatDoorMm
import Derived.Test.YtnlhibhamechcaaGreatDoorScP
import Derived.Deep.Slices
import Derived.ChangeSlices
namespace Go.Proofs.YtnlhibhamechcaaGreatDoor
open Go.RowKit Go.ChangeShapes Go.WideShapes Go.ChangeAt Go.Joins Go.Deep
set_option linter.unusedSimpArgs false
set_option linter.unusedVariables false

set_option maxRecDepth 100000 in
theorem bytes_arg {H : Type} {enc : TypeId × Value → H} {W : World} {base : Nat} {v : Value} {d : DataW H} {p : List MemPlace} (hv : Value.okWide Tryz.prog W .any base 40 v) (h : DataW.Trod enc Tryz.prog W 0 (fun _ => true) true 40 v d p) :
    ∃ (A : Option Addr) (n c : Nat) (rs : List Nat), v = .slice A n c ∧ BytesArg W A n c rs := by
  obtain ⟨A, n, c, rfl⟩ := okWide_slice Tryz.underlying40 hv
  obtain ⟨fuel, hf⟩ := h
  have ho : ∃ ys : List Int, ys.length = n ∧ n ≤ maxLen ∧ RowF (Value.int .u8) 0 W W.heap.size A ys ∧ (∀ x ∈ ys, (Lit.int .u8 x).wf = true) ∧ n ≤ c ∧ c ≤ maxLen := by
    rcases ChangeShapes.open_ints Tryz.underlying40 Tryz.underlying5 cellsU8 hf with ⟨hcs, _⟩ | ⟨a, len, cap, zs, hcs, _, hl, hm, hz, _, hcell, hwz⟩
    · simp [Value.cells] at hcs
      obtain ⟨rfl, rfl, rfl⟩ := hcs
      exact ints_of_row (cap := 0) (.inl ⟨rfl, rfl, rfl, rfl⟩)
    · simp [Value.cells] at hcs
      obtain ⟨rfl, rfl, rfl⟩ := hcs
      exact ints_of_row (.inr ⟨_, rfl, hl, hm, by simpa using hz, hcell, hwz⟩)
  obtain ⟨ys, h1, _, h2, h3, h4, h5⟩ := ho
  refine ⟨A, n, c, ys.map Int.toNat, rfl, by simpa using h1, h4, h5, fun hn => ?_, fun v hv => ?_⟩
  · obtain ⟨b, off, rfl, hb, hcell⟩ := h2 (by simpa using hn)
    refine ⟨b, off, rfl, hb, fun j hj => ?_⟩
    rw [List.length_map] at hj
    rw [hcell j hj, List.getElem?_map, List.getElem?_eq_getElem hj]
    have hw := u8_wf (h3 _ (List.getElem_mem hj))
    simp only [Option.getD_some, Option.map_some]
    unfold Y
    rw [Int.toNat_of_nonneg hw.1]
  · obtain ⟨x, hx, rfl⟩ := List.mem_map.1 hv
    have hw := u8_wf (h3 x hx)
    omega
theorem u16_wf {n : Int} (h : (Lit.int .u16 n).wf = true) : 0 ≤ n ∧ n ≤ 65535 := by simpa [Lit.wf, IntKind.min, IntKind.max, IntKind.signed, IntKind.bits] using h
theorem cellsI64 : Tryz.prog.cellsOf 3 = 1 := by kernel_rfl
theorem cellsU16 : Tryz.prog.cellsOf 22 = 1 := by kernel_rfl
theorem cellsBool : Tryz.prog.cellsOf 4 = 1 := by kernel_rfl
theorem cellsStp : Tryz.prog.cellsOf 24 = 8 := by kernel_rfl
set_option maxRecDepth 100000 in
theorem step_arg {H : Type} {enc : TypeId × Value → H} {W : World} {base : Nat} {v : Value} {d : DataW H} {p : List MemPlace} (hv : Value.okWide Tryz.prog W .any base 24 v) (h : DataW.Trod enc Tryz.prog W 0 (fun _ => true) true 24 v d p) :
    ∃ s : Stp, v = .agg s.cells.toArray ∧ s.Wf := by
  obtain ⟨cs, rfl, _⟩ := okWide_struct Tryz.underlying24 hv
  obtain ⟨fuel, hf⟩ := h
  obtain ⟨xs, m, _, _, hlen, hx, hg⟩ := DataW.trod_struct Tryz.underlying24 hf
  rw [cellsStp] at hlen
  obtain ⟨cs⟩ := cs
  simp [Value.cells] at hlen
  match cs, hlen with
  | [c0, c1, c2, c3, c4, c5, c6, c7], _ =>
    match xs, hx with
    | [y0, y1, y2, y3, y4, y5, y6, y7], _ =>
      have g0 := hg 0 _ rfl
      have g1 := hg 1 _ rfl
      have g2 := hg 2 _ rfl
      have g3 := hg 3 _ rfl
      have g4 := hg 4 _ rfl
      have g5 := hg 5 _ rfl
      have g6 := hg 6 _ rfl
      have g7 := hg 7 _ rfl
      simp only [List.getElem_toArray, List.getElem_cons_zero, List.getElem_cons_succ, cellsU8, cellsI64, cellsU16, cellsBool] at g0 g1 g2 g3 g4 g5 g6 g7
      obtain ⟨a0, e0, rfl, w0⟩ := DataW.trod_int Tryz.underlying5 g0
      obtain ⟨a1, e1, rfl, w1⟩ := DataW.trod_int Tryz.underlying5 g1
      obtain ⟨a2, e2, rfl, w2⟩ := DataW.trod_int Tryz.underlying3 g2
      obtain ⟨a3, e3, rfl, w3⟩ := DataW.trod_int Tryz.underlying3 g3
      obtain ⟨a4, e4, rfl, w4⟩ := DataW.trod_int Tryz.underlying3 g4
      obtain ⟨a5, e5, rfl, w5⟩ := DataW.trod_int Tryz.underlying3 g5
      obtain ⟨a6, e6, rfl, w6⟩ := DataW.trod_int Tryz.underlying22 g6
      obtain ⟨a7, e7, rfl⟩ := DataW.trod_bool Tryz.underlying4 g7
      simp [Value.cells] at e0 e1 e2 e3 e4 e5 e6 e7
      subst e0 e1 e2 e3 e4 e5 e6 e7
      exact ⟨⟨a0, a1, a2, a3, a4, a5, a6, a7⟩, rfl, u8_wf w0, u8_wf w1, w2, w3, w4, w5, u16_wf w6⟩
end Go.Proofs.YtnlhibhamechcaaGreatDoor
