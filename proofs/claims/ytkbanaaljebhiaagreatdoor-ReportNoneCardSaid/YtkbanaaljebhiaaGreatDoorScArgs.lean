/- Steps and bytes as arguments. -/
import Derived.Test.YtkbanaaljebhiaaGreatDoorMm
import Derived.Test.YtkbanaaljebhiaaGreatDoorScP
import Derived.Deep.Slices
import Derived.ChangeSlices
namespace Go.Proofs.YtkbanaaljebhiaaGreatDoor
open Go.RowKit Go.ChangeShapes Go.WideShapes Go.ChangeAt Go.Joins Go.Deep
set_option linter.unusedSimpArgs false
set_option linter.unusedVariables false

set_option maxRecDepth 100000 in
theorem bytes_arg {H : Type} {enc : TypeId × Value → H} {W : World} {base : Nat} {v : Value} {d : DataW H} {p : List MemPlace} (hv : Value.okWide Tryz.prog W .any base 22 v) (h : DataW.Trod enc Tryz.prog W 0 (fun _ => true) true 22 v d p) :
    ∃ (A : Option Addr) (n c : Nat) (rs : List Nat), v = .slice A n c ∧ BytesArg W A n c rs := by
  obtain ⟨A, n, c, rfl⟩ := okWide_slice Tryz.underlying22 hv
  obtain ⟨fuel, hf⟩ := h
  have ho : ∃ ys : List Int, ys.length = n ∧ n ≤ maxLen ∧ RowF (Value.int .u8) 0 W W.heap.size A ys ∧ (∀ x ∈ ys, (Lit.int .u8 x).wf = true) ∧ n ≤ c ∧ c ≤ maxLen := by
    rcases ChangeShapes.open_ints Tryz.underlying22 Tryz.underlying5 cellsU8 hf with ⟨hcs, _⟩ | ⟨a, len, cap, zs, hcs, _, hl, hm, hz, _, hcell, hwz⟩
    · simp [Value.cells] at hcs
      obtain ⟨rfl, rfl, rfl⟩ := hcs
      exact ints_of_row (cap := 0) (.inl ⟨rfl, rfl, rfl, rfl⟩)
    · simp [Value.cells] at hcs
      obtain ⟨rfl, rfl, rfl⟩ := hcs
      exact ints_of_row (.inr ⟨_, rfl, hl, hm, by simpa using hz, hcell, hwz⟩)
  obtain ⟨ys, h1, _, h2, h3, h4, h5⟩ := ho
  refine ⟨A, n, c, ys.map Int.toNat, rfl, by simpa using h1, h4, h5, fun hn => ?_, fun v hv => ?_⟩
  · obtain ⟨b, off, rfl, hb, hcell⟩ := h2 (by simpa using hn)
    refine ⟨b, off, rfl, hb, fun j hj => ?_⟩
    rw [List.length_map] at hj
    rw [hcell j hj, List.getElem?_map, List.getElem?_eq_getElem hj]
    have hw := u8_wf (h3 _ (List.getElem_mem hj))
    simp only [Option.getD_some, Option.map_some]
    unfold Y
    rw [Int.toNat_of_nonneg hw.1]
  · obtain ⟨x, hx, rfl⟩ := List.mem_map.1 hv
    have hw := u8_wf (h3 x hx)
    omega
theorem u16_wf {n : Int} (h : (Lit.int .u16 n).wf = true) : 0 ≤ n ∧ n ≤ 65535 := by simpa [Lit.wf, IntKind.min, IntKind.max, IntKind.signed, IntKind.bits] using h
theorem cellsI64 : Tryz.prog.cellsOf 3 = 1 := by kernel_rfl
theorem cellsU16 : Tryz.prog.cellsOf 27 = 1 := by kernel_rfl
theorem cellsBool : Tryz.prog.cellsOf 4 = 1 := by kernel_rfl
end Go.Proofs.YtkbanaaljebhiaaGreatDoor
