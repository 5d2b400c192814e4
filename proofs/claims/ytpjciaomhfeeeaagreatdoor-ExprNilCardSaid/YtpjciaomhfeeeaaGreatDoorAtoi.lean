/- Contract: strconv.Atoi; bytes as lists. -/
import Derived.Test.YtpjciaomhfeeeaaGreatDoorNum
import Derived.Lib.AtoiErrMem
import Derived.Lib.AtoiAll
import Derived.Lib.IndexMore
namespace Go.Proofs.YtpjciaomhfeeeaaGreatDoor
open Go.RowKit Go.Sort
set_option linter.unusedSimpArgs false
set_option linter.unusedVariables false

/-- the library's variables that Parse reads -/
structure PV (w : World) : Prop where
  mx : ∃ m, w.cell? ⟨0, 0, none⟩ = some (.int .i64 m)
  es : ∃ te pe, w.cell? ⟨1, 0, none⟩ = some (.iface te pe)
  er : ∃ te pe, w.cell? ⟨2, 0, none⟩ = some (.iface te pe)
theorem PV.on {w w' : World} (h : PV w) (hb : Below w.heap.size w w') : PV w' := by
  obtain ⟨⟨m, h1⟩, ⟨a, b, h2⟩, ⟨c, d, h3⟩⟩ := h
  exact ⟨⟨m, (hb.cell (p := ⟨0, 0, none⟩) (Lib.lt_of_cell h1)).trans h1⟩, ⟨a, b, (hb.cell (p := ⟨1, 0, none⟩) (Lib.lt_of_cell h2)).trans h2⟩, ⟨c, d, (hb.cell (p := ⟨2, 0, none⟩) (Lib.lt_of_cell h3)).trans h3⟩⟩
/-- how Atoi ends -/
def AtoiPost (l : List UInt8) (w : World) (e : Ending) (w' : World) : Prop :=
  ((∃ v, Lib.atoiAll l = .ok v ∧ e = .returned (.tuple #[.int .i64 v, .nilIface])) ∨ ((∀ v, Lib.atoiAll l ≠ .ok v) ∧ ∃ z te pe, e = .returned (.tuple #[.int .i64 z, .iface te pe]))) ∧ Below w.heap.size w w'
theorem atoi_any (s : ByteArray) (hs : s.size < 4294967281) (w : World) (hV : PV w) : Calls Tryz.prog 41 #[.string s] w (AtoiPost s.data.toList w) := by
  cases h : Lib.atoiAll s.data.toList with
  | ok v =>
    refine (Tryz.strconv_Atoi_ok s (by omega) v h w).mono ?_
    rintro e w' ⟨he, hw⟩
    refine ⟨.inl ⟨v, h, he⟩, ?_⟩
    rcases hw with rfl | ⟨t, rfl⟩
    · exact Below.refl _ _
    · exact Lib.bytesWorld_below _ _ _
  | «syntax» =>
    obtain ⟨te, pe, hv⟩ := hV.es
    refine (Tryz.strconv_Atoi_syntax s (by omega) h _ w hv (.inr ⟨te, pe, rfl⟩)).mono ?_
    rintro e w' ⟨N, he, _, _, hb⟩
    exact ⟨.inr ⟨fun v hh => (by rw [h] at hh; cases hh), _, _, _, he⟩, hb⟩
  | range =>
    obtain ⟨te, pe, hv⟩ := hV.er
    refine (Tryz.strconv_Atoi_range s (by omega) h _ w hv (.inr ⟨te, pe, rfl⟩)).mono ?_
    rintro e w' ⟨N, he, _, _, hb⟩
    exact ⟨.inr ⟨fun v hh => (by rw [h] at hh; cases hh), _, _, _, he⟩, hb⟩
theorem bytes_eq {s : ByteArray} {l : List UInt8} (h : s.data.toList = l) : s = ⟨l.toArray⟩ := by
  subst h
  obtain ⟨d⟩ := s
  simp
theorem bytes_ne {a b : ByteArray} (h : a ≠ b) : (a.toList == b.toList) = false := by
  rw [beq_eq_false_iff_ne, Lib.toList_data, Lib.toList_data]
  intro e
  exact h (by rw [bytes_eq e])
theorem bytes_size (l : List UInt8) : (⟨l.toArray⟩ : ByteArray).size = l.length := by simp [ByteArray.size]
end Go.Proofs.YtpjciaomhfeeeaaGreatDoor
