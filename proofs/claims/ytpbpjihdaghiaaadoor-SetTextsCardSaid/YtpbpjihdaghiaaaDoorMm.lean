/- Edges as arguments. Slices of records as arguments. Sets, lists of ints and texts as arguments. -/
import Derived.Test.YtpbpjihdaghiaaaDoorMc
import Derived.Test.YtpbpjihdaghiaaaDoorRows
import Derived.WalkKit
import Derived.ProofKit
import Derived.OpenShut
import Derived.ShutString
import Derived.ChangeOld
import Derived.Lib.SmallJoins
import Derived.Test.YtpbpjihdaghiaaaDoorMa
import Derived.Deep.Slices
import Derived.Test.YtpbpjihdaghiaaaDoorMd
import Derived.ChangeSlices
import Derived.ChangeMaps5
section
namespace Go.Proofs.YtpbpjihdaghiaaaDoor
open Go.RowKit Go.ChangeShapes Go.WideShapes Go.ChangeAt Go.Joins
set_option linter.unusedSimpArgs false
set_option linter.unusedVariables false

theorem u8_wf {n : Int} (h : (Lit.int .u8 n).wf = true) : 0 ≤ n ∧ n ≤ 255 := by simpa [Lit.wf, IntKind.min, IntKind.max, IntKind.signed, IntKind.bits] using h
theorem u32_wf {n : Int} (h : (Lit.int .u32 n).wf = true) : 0 ≤ n ∧ n ≤ 4294967295 := by simpa [Lit.wf, IntKind.min, IntKind.max, IntKind.signed, IntKind.bits] using h
end Go.Proofs.YtpbpjihdaghiaaaDoor
end

section
namespace Go.Proofs.YtpbpjihdaghiaaaDoor
open Go.RowKit Go.ChangeShapes Go.WideShapes Go.ChangeAt Go.Joins Go.Deep
set_option linter.unusedSimpArgs false
set_option linter.unusedVariables false

theorem cellsU8 : Tryd.prog.cellsOf 5 = 1 := by kernel_rfl
theorem cellsU32 : Tryd.prog.cellsOf 127 = 1 := by kernel_rfl
section
variable {H : Type} {enc : TypeId × Value → H} {W : World} {base : Nat} {spare : Nat → Bool} {held : Bool} {n : Nat} {x : DataW H × List MemPlace}
end
/-- a slice of records that came in -/
def RecsArg (w : World) (A : Option Addr) (n c : Nat) (rs : List Rec) : Prop :=
  rs.length = n ∧ n ≤ c ∧ c ≤ maxLen ∧ RowS 7 Rec.cells w w.heap.size A rs ∧ ∀ r ∈ rs, r.Wf
end Go.Proofs.YtpbpjihdaghiaaaDoor
end

section
namespace Go.Proofs.YtpbpjihdaghiaaaDoor
open Go.RowKit Go.ChangeShapes Go.WideShapes Go.ChangeAt Go.Joins Go.Deep
set_option linter.unusedSimpArgs false
set_option linter.unusedVariables false

theorem cellsInt : Tryd.prog.cellsOf 3 = 1 := by kernel_rfl
theorem cellsU64 : Tryd.prog.cellsOf 71 = 1 := by kernel_rfl
theorem cellsSet : Tryd.prog.cellsOf 24 = 2 := by kernel_rfl
set_option maxRecDepth 100000 in
theorem ints_arg {H : Type} {enc : TypeId × Value → H} {W : World} {base : Nat} {v : Value} {d : DataW H} {p : List MemPlace} (hv : Value.okWide Tryd.prog W .any base 25 v) (h : DataW.Trod enc Tryd.prog W 0 (fun _ => true) true 25 v d p) :
    ∃ (A : Option Addr) (n c : Nat) (rs : List Int), v = .slice A n c ∧ IntsArg W A n c rs := by
  obtain ⟨A, n, c, rfl⟩ := okWide_slice Tryd.underlying25 hv
  obtain ⟨fuel, hf⟩ := h
  have ho : ∃ ys : List Int, ys.length = n ∧ n ≤ maxLen ∧ RowF (Value.int .i64) 0 W W.heap.size A ys ∧ (∀ x ∈ ys, (Lit.int .i64 x).wf = true) ∧ n ≤ c ∧ c ≤ maxLen := by
    rcases ChangeShapes.open_ints Tryd.underlying25 Tryd.underlying3 cellsInt hf with ⟨hcs, _⟩ | ⟨a, len, cap, zs, hcs, _, hl, hm, hz, _, hcell, hwz⟩
    · simp [Value.cells] at hcs
      obtain ⟨rfl, rfl, rfl⟩ := hcs
      exact ints_of_row (cap := 0) (.inl ⟨rfl, rfl, rfl, rfl⟩)
    · simp [Value.cells] at hcs
      obtain ⟨rfl, rfl, rfl⟩ := hcs
      exact ints_of_row (.inr ⟨_, rfl, hl, hm, by simpa using hz, hcell, hwz⟩)
  obtain ⟨ys, h1, _, h2, h3, h4, h5⟩ := ho
  exact ⟨A, n, c, ys, rfl, h1, h4, h5, h2, h3⟩
theorem u64_of_wf {n : Int} (h : (Lit.int .u64 n).wf = true) : 0 ≤ n ∧ n ≤ 18446744073709551615 := by simpa [Lit.wf, IntKind.min, IntKind.max, IntKind.signed, IntKind.bits] using h
set_option maxRecDepth 100000 in
theorem set_arg {H : Type} {enc : TypeId × Value → H} {W : World} {base : Nat} {v : Value} {d : DataW H} {p : List MemPlace} (hv : Value.okWide Tryd.prog W .any base 24 v) (h : DataW.Trod enc Tryd.prog W 0 (fun _ => true) true 24 v d p) :
    ∃ (m : Int) (A : Option Addr) (n c : Nat) (ws : List Nat), v = .agg #[.int .i64 m, .slice A n c] ∧ SetArg W m A n c ws := by
  obtain ⟨c0, c1, y0, y1, k, rfl, rfl, rfl, hy0, hy1⟩ := open_agg2 Tryd.underlying24 (by kernel_rfl) cellsSet hv h
  obtain ⟨m, e0, rfl, wm⟩ := DataW.trod_int Tryd.underlying3 hy0
  simp at e0
  subst e0
  have ho : ∃ (A : Option Addr) (n c : Nat) (ys : List Int), c1 = .slice A n c ∧ ys.length = n ∧ n ≤ maxLen ∧ RowF (Value.int .u64) 0 W W.heap.size A ys ∧ (∀ x ∈ ys, (Lit.int .u64 x).wf = true) ∧ n ≤ c ∧ c ≤ maxLen := by
    rcases ChangeShapes.open_ints Tryd.underlying22 Tryd.underlying71 cellsU64 hy1 with ⟨hcs, _⟩ | ⟨a, len, cap, zs, hcs, _, hl, hm, hz, _, hcell, hwz⟩
    · simp at hcs
      subst hcs
      obtain ⟨ys, h⟩ := ints_of_row (k := .u64) (w := W) (a := none) (len := 0) (cap := 0) (zs := []) (.inl ⟨rfl, rfl, rfl, rfl⟩)
      exact ⟨none, 0, 0, ys, rfl, h⟩
    · simp at hcs
      subst hcs
      obtain ⟨ys, h⟩ := ints_of_row (k := .u64) (w := W) (.inr ⟨a, rfl, hl, hm, by simpa using hz, hcell, hwz⟩)
      exact ⟨_, _, _, ys, rfl, h⟩
  obtain ⟨A, n, c, ys, rfl, h1, _, h2, h3, h4, h5⟩ := ho
  refine ⟨m, A, n, c, ys.map Int.toNat, rfl, by simpa using h1, h4, h5, fun hn => ?_, fun v hv => ?_, wm⟩
  · obtain ⟨b, off, rfl, hb, hcell⟩ := h2 (by simpa using hn)
    refine ⟨b, off, rfl, hb, fun j hj => ?_⟩
    rw [List.length_map] at hj
    rw [hcell j hj, List.getElem?_map, List.getElem?_eq_getElem hj]
    have hw := u64_of_wf (h3 _ (List.getElem_mem hj))
    simp only [Option.getD_some, Option.map_some]
    unfold U
    rw [Int.toNat_of_nonneg hw.1]
  · obtain ⟨x, hx, rfl⟩ := List.mem_map.1 hv
    have hw := u64_of_wf (h3 x hx)
    omega
set_option maxRecDepth 100000 in
theorem string_arg {H : Type} {enc : TypeId × Value → H} {W : World} {base : Nat} {t : TypeId} {v : Value} {d : DataW H} {p : List MemPlace} (ht : Tryd.prog.underlying t = some .string) (hv : Value.okWide Tryd.prog W .any base t v) (h : DataW.Trod enc Tryd.prog W 0 (fun _ => true) true t v d p) :
    ∃ s : ByteArray, v = .string s ∧ s.size ≤ maxLen := by
  obtain ⟨s, h1, _, _, h2⟩ := Go.ChangeMaps.open_string ht hv h
  exact ⟨s, h1, h2⟩
end Go.Proofs.YtpbpjihdaghiaaaDoor
end
