/- Contracts: the report's page: word, num, end. -/
import Derived.Test.YtkbanaaljebhiaaGreatDoorPage
import Derived.Test.YtkbanaaljebhiaaGreatDoorScNum
namespace Go.Proofs.YtkbanaaljebhiaaGreatDoor
open Go.RowKit Go.Sort
set_option linter.unusedSimpArgs false
set_option linter.unusedVariables false

theorem cells_app (l : List UInt8) (t : List UInt8) : Lib.byteCells l ++ Lib.strCells ⟨t.toArray⟩ = Lib.byteCells (l ++ t) := by
  rw [Lib.byteCells_append, Lib.strCells_eq]
theorem cells_app1 (l : List UInt8) (t : UInt8) (x : Int) (hx : x = (t.toNat : Int)) : Lib.byteCells l ++ [Value.int .u8 x] = Lib.byteCells (l ++ [t]) := by
  rw [Lib.byteCells_append, hx]
  rfl
theorem cells_len (l : List UInt8) : (Lib.byteCells l).length = l.length := Lib.byteCells_length l
/-- a word behind what stands in the line -/
def sep (g : Bool) : List UInt8 := if g then [32] else []
set_option maxHeartbeats 2000000 in
set_option maxRecDepth 100000 in
theorem pword_any (B b : Nat) (l t : List UInt8) (g : Bool) (w : World) (h : IsPage B b (Lib.byteCells l) g w) (hlen : l.length + t.length + 1 ≤ 140737488355328) (hBw : B ≤ w.heap.size) :
    Calls Tryz.prog 41 #[.pointer (some ⟨b, 0, none⟩), txt t] w fun e w' => e = .returned (.tuple #[]) ∧ (IsPage B b (Lib.byteCells (l ++ sep g ++ t)) true w' ∧ Below B w w' ∧ Oth b w w') := by
  have HP := Lib.hid h
  have c2 := h.cell2
  have hB := h.ge
  unfold txt sep
  cases g with
  | false =>
    clear h
    go_enter Tryz.func41, Tryz.ntmps41
    go_wp2_with fail
    refine (pstr_any B b _ _ _ _ HP.out (by rw [cells_len]; simp [ByteArray.size]; omega) hBw).mono ?_
    rintro e w1 ⟨rfl, h1, hb1, ho1⟩
    rw [cells_app] at h1
    have f2 := h1.frozen 2
    have d2 := h1.cell2
    have H1 := Lib.hid h1
    clear h1 c2
    go_wp2_with fail
    go_end0
    refine ⟨rfl, ?_, hb1.setCell (p := ⟨b, 2, none⟩) hB _, ho1.setCell ⟨b, 2, none⟩ rfl _⟩
    have := IsPage.set_ (.inr H1.out) true
    simpa using this
  | true =>
    clear h
    go_enter Tryz.func41, Tryz.ntmps41
    go_wp2_with fail
    refine (pbyte_any B b _ _ _ _ HP.out (by rw [cells_len]; omega) hBw).mono ?_
    rintro e w1 ⟨rfl, h1, hb1, ho1⟩
    rw [cells_app1 l 32 32 rfl] at h1
    have H1 : Hid (IsPage B b (Lib.byteCells (l ++ [32])) true w1) := Lib.hid (.inr h1)
    clear h1 c2
    have hBw1 := Nat.le_trans hBw hb1.size
    go_wp2_with fail
    refine (pstr_any B b _ _ _ _ H1.out (by rw [cells_len]; simp [ByteArray.size]; omega) hBw1).mono ?_
    rintro e w2 ⟨rfl, h2, hb2, ho2⟩
    rw [cells_app] at h2
    have f2 := h2.frozen 2
    have d2 := h2.cell2
    have H2 := Lib.hid h2
    clear h2
    go_wp2_with fail
    go_end0
    refine ⟨rfl, ?_, (hb1.trans hb2).setCell (p := ⟨b, 2, none⟩) hB _, (Lib.OthersKept.trans ho1 ho2).setCell ⟨b, 2, none⟩ rfl _⟩
    have := IsPage.set_ (.inr H2.out) true
    simpa using this
set_option maxHeartbeats 2000000 in
set_option maxRecDepth 100000 in
theorem pend_any (B b : Nat) (l : List UInt8) (g : Bool) (w : World) (h : IsPage B b (Lib.byteCells l) g w) (hlen : l.length + 1 ≤ 140737488355328) (hBw : B ≤ w.heap.size) :
    Calls Tryz.prog 45 #[.pointer (some ⟨b, 0, none⟩)] w fun e w' => e = .returned (.tuple #[]) ∧ (IsPage B b (Lib.byteCells (l ++ [10])) false w' ∧ Below B w w' ∧ Oth b w w') := by
  have HP := Lib.hid h
  have hB := h.ge
  clear h
  go_enter Tryz.func45, Tryz.ntmps45
  go_wp2_with fail
  refine (pbyte_any B b _ _ _ _ HP.out (by rw [cells_len]; omega) hBw).mono ?_
  rintro e w1 ⟨rfl, h1, hb1, ho1⟩
  rw [cells_app1 l 10 10 rfl] at h1
  have f2 := h1.frozen 2
  have d2 := h1.cell2
  have H1 : Hid (IsPage B b (Lib.byteCells (l ++ [10])) g w1) := Lib.hid (.inr h1)
  clear h1
  go_wp2_with fail
  go_end0
  exact ⟨rfl, H1.out.set_ false, hb1.setCell (p := ⟨b, 2, none⟩) hB _, ho1.setCell ⟨b, 2, none⟩ rfl _⟩
set_option maxHeartbeats 2000000 in
set_option maxRecDepth 100000 in
theorem pnum_any (B b : Nat) (l : List UInt8) (n : Int) (hn : (Lit.int .i64 n).wf = true) (g : Bool) (w : World) (hP : Pow w) (h : IsPage B b (Lib.byteCells l) g w) (hlen : l.length + 30 ≤ 140737488355328) (hBw : B ≤ w.heap.size) :
    Calls Tryz.prog 43 #[.pointer (some ⟨b, 0, none⟩), .int .i64 n] w fun e w' => e = .returned (.tuple #[]) ∧ (IsPage B b (Lib.byteCells (l ++ sep g ++ Lib.itoa n)) true w' ∧ Below B w w' ∧ Oth b w w') := by
  have HP := Lib.hid h
  have HI := Lib.hid (itoa_any n hn w hP)
  have hl := itoa_len n hn
  have HW := Lib.hid (fun w1 h1 h2 => pword_any B b l (Lib.itoa n) g w1 h1 (by omega) h2)
  generalize Lib.itoa n = t at *
  unfold txt at *
  clear h hP
  go_enter Tryz.func43, Tryz.ntmps43
  go_wp2_with fail
  refine HI.out.mono ?_
  rintro e w1 ⟨rfl, hb1⟩
  have h1 := HP.out.on hb1
  have ho1 : Oth b w w1 := Oth.on hb1
  have H1 := Lib.hid h1
  clear h1
  have hB1 := hb1.mono hBw
  have hB2 := Nat.le_trans hBw hb1.size
  go_wp2_with fail
  refine (HW.out _ H1.out hB2).mono ?_
  rintro e w2 ⟨rfl, h2, hb2, ho2⟩
  have H2 := Lib.hid h2
  clear h2
  go_wp2_with fail
  go_end0
  exact ⟨rfl, H2.out, hB1.trans hb2, Lib.OthersKept.trans ho1 ho2⟩
end Go.Proofs.YtkbanaaljebhiaaGreatDoor
