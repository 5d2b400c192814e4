/- A record as an argument. -/
import Derived.Test.YtfcklfpgjadfmaaDoorArgsR
namespace Go.Proofs.YtfcklfpgjadfmaaDoor
open Go.RowKit Go.ChangeShapes Go.WideShapes Go.ChangeAt
set_option linter.unusedSimpArgs false
set_option linter.unusedVariables false

set_option maxRecDepth 100000 in
theorem rec_arg {H : Type} {enc : TypeId × Value → H} {W : World} {base : Nat} {v : Value} {d : DataW H} {p : List MemPlace} (hv : Value.okWide Tryd.prog W .any base 27 v) (h : DataW.Trod enc Tryd.prog W 0 (fun _ => true) true 27 v d p) :
    ∃ r : Rec, v = .agg r.cells.toArray ∧ r.Wf := by
  obtain ⟨cs, rfl, _⟩ := okWide_struct Tryd.underlying27 hv
  obtain ⟨fuel, hf⟩ := h
  obtain ⟨r, hr, hw⟩ := rec_cells_of hf
  refine ⟨r, ?_, hw⟩
  have : cs.toList = r.cells := hr
  rw [← this]
end Go.Proofs.YtfcklfpgjadfmaaDoor
