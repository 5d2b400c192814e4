/- Lists of ints as arguments. -/
import Derived.Test.YtpjciaomhfeeeaaGreatMm
import Derived.Test.YtpjciaomhfeeeaaGreatMb
import Derived.Deep.Slices
import Derived.ChangeSlices
namespace Go.Proofs.YtpjciaomhfeeeaaGreat
open Go.RowKit Go.ChangeShapes Go.WideShapes Go.ChangeAt Go.Joins Go.Deep
set_option linter.unusedSimpArgs false
set_option linter.unusedVariables false

/-- a list of ints as an argument -/
def IArg (W : World) (A : Option Addr) (n c : Nat) (rs : List Int) : Prop := rs.length = n ∧ n ≤ maxLen ∧ n ≤ c ∧ c ≤ maxLen ∧ Ints W W.heap.size A rs ∧ ∀ x ∈ rs, (Lit.int .i64 x).wf = true
theorem cellsInt1 : Tryz.prog.cellsOf 3 = 1 := by kernel_rfl
set_option maxRecDepth 100000 in
theorem ints1_arg {H : Type} {enc : TypeId × Value → H} {W : World} {base : Nat} {v : Value} {d : DataW H} {p : List MemPlace} (hv : Value.okWide Tryz.prog W .any base 23 v) (h : DataW.Trod enc Tryz.prog W 0 (fun _ => true) true 23 v d p) :
    ∃ (A : Option Addr) (n c : Nat) (rs : List Int), v = .slice A n c ∧ IArg W A n c rs := by
  obtain ⟨A, n, c, rfl⟩ := okWide_slice Tryz.underlying23 hv
  obtain ⟨fuel, hf⟩ := h
  have ho : ∃ ys : List Int, ys.length = n ∧ n ≤ maxLen ∧ RowF (Value.int .i64) 0 W W.heap.size A ys ∧ (∀ x ∈ ys, (Lit.int .i64 x).wf = true) ∧ n ≤ c ∧ c ≤ maxLen := by
    rcases ChangeShapes.open_ints Tryz.underlying23 Tryz.underlying3 cellsInt1 hf with ⟨hcs, _⟩ | ⟨a, len, cap, zs, hcs, _, hl, hm, hz, _, hcell, hwz⟩
    · simp [Value.cells] at hcs
      obtain ⟨rfl, rfl, rfl⟩ := hcs
      exact ints_of_row (cap := 0) (.inl ⟨rfl, rfl, rfl, rfl⟩)
    · simp [Value.cells] at hcs
      obtain ⟨rfl, rfl, rfl⟩ := hcs
      exact ints_of_row (.inr ⟨_, rfl, hl, hm, by simpa using hz, hcell, hwz⟩)
  obtain ⟨ys, h1, h0, h2, h3, h4, h5⟩ := ho
  exact ⟨A, n, c, ys, rfl, h1, h0, h4, h5, h2, h3⟩
end Go.Proofs.YtpjciaomhfeeeaaGreat
