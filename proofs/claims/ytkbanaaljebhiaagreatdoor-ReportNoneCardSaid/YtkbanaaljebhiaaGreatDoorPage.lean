/- Contracts: the report's page: its Builder's WriteByte, WriteString, String. -/
import Derived.Test.YtkbanaaljebhiaaGreatDoorBuf
import Derived.Test.YtkbanaaljebhiaaGreatDoorMa
import Derived.Lib.Strings
import Derived.Lib.Slices
import Derived.Lib.Walk
import Derived.Lib.Builder
import Derived.Lib.AppendStr
import Derived.Lib.UnsafeStr
import Derived.Laws.Externs
import Derived.Lib.ItoaWalk
import Derived.Lib.OthersKept
import Derived.Lib.BufferKept
namespace Go.Proofs.YtkbanaaljebhiaaGreatDoor
open Go.RowKit Go.Sort
set_option linter.unusedSimpArgs false
set_option linter.unusedVariables false

theorem liesPage : liesAt Tryz.prog Tryz.prog.depth 49 (3 / Tryz.prog.cellsOf 49) 0 47 1 = true := by kernel_rfl
set_option maxHeartbeats 1000000 in
set_option maxRecDepth 100000 in
theorem pcheck_fresh (b : Nat) (w : World) (h0 : w.cell? ⟨b, 0, none⟩ = some (.pointer none)) (hsh : w.shape? b = some (49, 3)) (hfz : w.frozen? ⟨b, 0, none⟩ = false) :
    Calls Tryz.prog 188 #[.pointer (some ⟨b, 0, none⟩)] w fun e w' => e = .returned (.tuple #[]) ∧ w' = w.setCell ⟨b, 0, none⟩ (.pointer (some ⟨b, 0, none⟩)) := by
  obtain ⟨j, hj, hjs⟩ := Option.map_eq_some_iff.1 sizeBuilder
  go_enter Tryz.func188, Tryz.ntmps188
  go_wp2
  rw [Lib.run_to_unsafe w ⟨b, 0, none⟩ Tryz.underlying45 Tryz.underlying365 hj (by rw [hjs]; decide) hsh (Nat.zero_lt_succ 2)]
  simp only [Result.andThen]
  rw [Oper.upon_value]
  go_wp2
  rw [run_callFunc_extern Tryz.func253 (by kernel_rfl) (by kernel_rfl) (by kernel_rfl) (e := Extern.AbiNoEscape.same) (by kernel_rfl)]
  rw [Lib.run_noEscape]
  simp only [Result.andThen]
  rw [Oper.upon_value]
  go_wp2
  rw [Lib.run_from_unsafe w ⟨b, 0, none⟩ Tryz.underlying365 Tryz.underlying45 hj hsh liesPage]
  simp only [Result.andThen]
  rw [Oper.upon_value]
  go_wp2
  go_end0
  exact ⟨rfl, rfl⟩
/-- all blocks but the page's and rows of bytes are as they were -/
abbrev Oth (b : Nat) (w w' : World) : Prop := Lib.OthersKept 5 (some b) w w'
theorem own_u8 {w : World} {B n : Nat} {v : Value} {xs : List Value} (h : w.ownsRow B 5 1 v n xs) (g : Nat) (hg : v.ownBlock = some g) : ∃ c fz, w.heap[g]? = some (.cells c 5 fz) := by
  rcases h.2 with ⟨rfl, _⟩ | ⟨g', cap, cur, rfl, _, hh, _⟩
  · cases hg
  · injection hg with hg
    subst hg
    exact ⟨_, _, hh⟩
theorem Oth.on {b : Nat} {w w' : World} (hb : Below w.heap.size w w') : Oth b w w' := Lib.OthersKept.below (Lib.OthersKept.refl _ _ w) hb
/-- a page of the call's own: its text, and whether a word stands in the line -/
def PageAt (B b : Nat) (p : Value) (bs : List Value) (g : Bool) (w : World) : Prop :=
  B ≤ b ∧ ∃ v, w.heap[b]? = some (.cells #[p, v, .bool g] 49 (0, 0)) ∧ w.ownsRow B 5 1 v bs.length bs ∧ v.ownBlock ≠ some b
def IsPage (B b : Nat) (bs : List Value) (g : Bool) (w : World) : Prop :=
  PageAt B b (.pointer none) bs g w ∨ PageAt B b (.pointer (some ⟨b, 0, none⟩)) bs g w
section
variable {B b : Nat} {p : Value} {bs : List Value} {g : Bool} {w : World}
theorem PageAt.cell0 (h : PageAt B b p bs g w) : w.cell? ⟨b, 0, none⟩ = some p := by
  obtain ⟨_, v, hb, _⟩ := h
  simp [World.cell?, hb]
theorem PageAt.cell2 (h : PageAt B b p bs g w) : w.cell? ⟨b, 2, none⟩ = some (.bool g) := by
  obtain ⟨_, v, hb, _⟩ := h
  simp [World.cell?, hb]
theorem PageAt.shape (h : PageAt B b p bs g w) : w.shape? b = some (49, 3) := by
  obtain ⟨_, v, hb, _⟩ := h
  simp [World.shape?, hb]
theorem PageAt.frozen (h : PageAt B b p bs g w) (j : Nat) : w.frozen? ⟨b, j, none⟩ = false := by
  obtain ⟨_, v, hb, _⟩ := h
  simp [World.frozen?, hb]
theorem PageAt.lt (h : PageAt B b p bs g w) : b < w.heap.size := by
  obtain ⟨_, v, hb, _⟩ := h
  rcases Nat.lt_or_ge b w.heap.size with h' | h'
  · exact h'
  · simp [Array.getElem?_eq_none h'] at hb
theorem PageAt.set_ (h : PageAt B b p bs g w) (g' : Bool) : PageAt B b p bs g' (w.setCell ⟨b, 2, none⟩ (.bool g')) := by
  obtain ⟨hB, v, hb, hown, hne⟩ := h
  refine ⟨hB, v, ?_, ?_, hne⟩
  · simp [World.setCell, Array.getElem?_modify, hb]
  · exact hown.kept (row := some b) ⟨rfl, rfl, rfl, by simp [World.setCell], fun k _ hk => Below.heap_setCell _ _ _ _ (fun e => hk (by simp [e]))⟩ (Or.inr hne)
theorem PageAt.used (h : PageAt B b p bs g w) (q : Value) : PageAt B b q bs g (w.setCell ⟨b, 0, none⟩ q) := by
  obtain ⟨hB, v, hb, hown, hne⟩ := h
  refine ⟨hB, v, ?_, ?_, hne⟩
  · simp [World.setCell, Array.getElem?_modify, hb]
  · exact hown.kept (row := some b) ⟨rfl, rfl, rfl, by simp [World.setCell], fun k _ hk => Below.heap_setCell _ _ _ _ (fun e => hk (by simp [e]))⟩ (Or.inr hne)
theorem PageAt.put {v v' : Value} {bs' : List Value} (hB : B ≤ b) (hb : w.heap[b]? = some (.cells #[p, v, .bool g] 49 (0, 0))) (hown : w.ownsRow B 5 1 v' bs'.length bs') : PageAt B b p bs' g (w.setCell ⟨b, 1, none⟩ v') := by
  have hne := Lib.ownBlock_ne hown hb (by decide)
  refine ⟨hB, v', ?_, ?_, hne⟩
  · simp [World.setCell, Array.getElem?_modify, hb]
  · exact hown.kept (row := some b) ⟨rfl, rfl, rfl, by simp [World.setCell], fun k _ hk => Below.heap_setCell _ _ _ _ (fun e => hk (by simp [e]))⟩ (Or.inr hne)
theorem PageAt.on {w' : World} (h : PageAt B b p bs g w) (hb : Below w.heap.size w w') : PageAt B b p bs g w' := by
  obtain ⟨hB, v, hbk, hown, hne⟩ := h
  exact ⟨hB, v, (hb.block b (PageAt.lt ⟨hB, v, hbk, hown, hne⟩)).trans hbk, own_below hown hb, hne⟩
theorem IsPage.on {w' : World} (h : IsPage B b bs g w) (hb : Below w.heap.size w w') : IsPage B b bs g w' := h.imp (·.on hb) (·.on hb)
theorem IsPage.ge (h : IsPage B b bs g w) : B ≤ b := by rcases h with h | h <;> exact h.1
theorem IsPage.lt (h : IsPage B b bs g w) : b < w.heap.size := by rcases h with h | h <;> exact h.lt
theorem IsPage.cell2 (h : IsPage B b bs g w) : w.cell? ⟨b, 2, none⟩ = some (.bool g) := by rcases h with h | h <;> exact h.cell2
theorem IsPage.frozen (h : IsPage B b bs g w) (j : Nat) : w.frozen? ⟨b, j, none⟩ = false := by rcases h with h | h <;> exact h.frozen j
theorem IsPage.set_ (h : IsPage B b bs g w) (g' : Bool) : IsPage B b bs g' (w.setCell ⟨b, 2, none⟩ (.bool g')) := h.imp (·.set_ g') (·.set_ g')
theorem IsPage.fresh (w : World) : IsPage w.heap.size w.heap.size [] false (w.alloc (.cells #[.pointer none, .slice none 0 0, .bool false] 49)) :=
  Or.inl ⟨Nat.le_refl _, .slice none 0 0, heap_alloc_new w _, World.ownsRow_nil _ _ _ _, by simp [Value.ownBlock]⟩
end
theorem pcheck_any (B b : Nat) (bs : List Value) (w : World) (g : Bool) (h : IsPage B b bs g w) :
    Calls Tryz.prog 188 #[.pointer (some ⟨b, 0, none⟩)] w fun e w' => e = .returned (.tuple #[]) ∧ (PageAt B b (.pointer (some ⟨b, 0, none⟩)) bs g w' ∧ Below B w w' ∧ Oth b w w') := by
  rcases h with h | h
  · refine (pcheck_fresh b w h.cell0 h.shape (h.frozen 0)).mono ?_
    rintro e w' ⟨rfl, rfl⟩
    exact ⟨rfl, h.used _, (Below.refl B w).setCell (p := ⟨b, 0, none⟩) h.1 _, (Lib.OthersKept.refl _ _ w).setCell ⟨b, 0, none⟩ rfl _⟩
  · refine (check_used b w h.cell0).mono ?_
    rintro e w' ⟨rfl, rfl⟩
    exact ⟨rfl, h, Below.refl _ _, Lib.OthersKept.refl _ _ _⟩
set_option maxHeartbeats 2000000 in
set_option maxRecDepth 100000 in
theorem pbyte_any (B b : Nat) (bs : List Value) (c : Int) (w : World) (g : Bool) (h : IsPage B b bs g w) (hlen : bs.length + 1 ≤ 140737488355328) (hBw : B ≤ w.heap.size) :
    Calls Tryz.prog 102 #[.pointer (some ⟨b, 0, none⟩), .int .u8 c] w fun e w' => e = .returned .nilIface ∧ (PageAt B b (.pointer (some ⟨b, 0, none⟩)) (bs ++ [.int .u8 c]) g w' ∧ Below B w w' ∧ Oth b w w') := by
  obtain ⟨i0, hi, hz0, hz1, hz2⟩ := info_parts info_byte
  go_enter Tryz.func102, Tryz.ntmps102
  go_wp2_with fail
  refine (pcheck_any B b bs _ g h).mono ?_
  rintro e w1 ⟨rfl, h1, hb1, ho1⟩
  obtain ⟨hB, v, hbk, hown, hne⟩ := h1
  have c0 : w1.cell? ⟨b, 0, none⟩ = some (.pointer (some ⟨b, 0, none⟩)) := by rw [Lib.cell_of_heap hbk]; rfl
  have c1 : w1.cell? ⟨b, 1, none⟩ = some v := by rw [Lib.cell_of_heap hbk]; rfl
  go_wp2_with (at_builtin; refine wpList_append_own _ rfl _ _ 22 rfl B 5 i0 (.int .u8 0) 1 1 Tryz.underlying22 hi hz0 hz1 hz2 rfl (by decide) _ _ _ rfl (hown.alloc _) ⟨w1.heap.size, 0, none⟩ 1 1 [.int .u8 c] rfl rfl ?c1 ?c2 ?c3 ?c4 ?c5 ?_)
  case c1 =>
    intro j u hj
    match j, hj with
    | 0, hj => simp at hj; subst hj; simp [Addr.add]
  case c2 => intro u hu; simp at hu; subst hu; rfl
  case c3 => unfold maxLen; omega
  case c4 => omega
  case c5 => have := hb1.size; simp; omega
  intro v' w2 hown' hgrow _
  have hlt : b < w1.heap.size := by
    rcases Nat.lt_or_ge b w1.heap.size with h' | h'
    · exact h'
    · simp [Array.getElem?_eq_none h'] at hbk
  have hb2 : w2.heap[b]? = some (.cells #[.pointer (some ⟨b, 0, none⟩), v, .bool g] 49 (0, 0)) := by
    rw [hgrow.block b (by simp; omega) (fun e => hne e.symm), Lib.alloc_old w1 _ b hlt]
    exact hbk
  have d0 : w2.cell? ⟨b, 0, none⟩ = some (.pointer (some ⟨b, 0, none⟩)) := by rw [Lib.cell_of_heap hb2]; rfl
  have d1 : w2.cell? ⟨b, 1, none⟩ = some v := by rw [Lib.cell_of_heap hb2]; rfl
  have f1 : w2.frozen? ⟨b, 1, none⟩ = false := Lib.frozen_of_heap hb2 1
  obtain ⟨g', cap, rfl⟩ : ∃ g' cap, v' = .slice (some ⟨g', 0, none⟩) (bs.length + 1) cap := by
    rcases hown'.2 with ⟨_, h0⟩ | ⟨g', cap, cur, hv, _⟩
    · omega
    · exact ⟨g', cap, hv⟩
  go_wp2
  go_ret
  refine ⟨rfl, ?_, ?_, ?_⟩
  · exact PageAt.put hB hb2 (bs' := bs ++ [.int .u8 c]) (by simpa using hown')
  · exact ((hb1.alloc (by have := hb1.size; omega) _).grown hgrow (by have := hb1.size; simp; omega) (fun k hk => (hown.lt k hk).1)).setCell (p := ⟨b, 1, none⟩) hB _
  · exact ((Lib.OthersKept.alloc ho1 _).grown hgrow (fun g0 hg0 => own_u8 (hown.alloc _) g0 hg0)).setCell ⟨b, 1, none⟩ rfl _
set_option maxHeartbeats 2000000 in
set_option maxRecDepth 100000 in
theorem pstr_any (B b : Nat) (bs : List Value) (s : ByteArray) (w : World) (g : Bool) (h : IsPage B b bs g w) (hlen : bs.length + s.size ≤ 140737488355328) (hBw : B ≤ w.heap.size) :
    Calls Tryz.prog 103 #[.pointer (some ⟨b, 0, none⟩), .string s] w fun e w' => e = .returned (.tuple #[.int .i64 s.size, .nilIface]) ∧ (PageAt B b (.pointer (some ⟨b, 0, none⟩)) (bs ++ Lib.strCells s) g w' ∧ Below B w w' ∧ Oth b w w') := by
  obtain ⟨i0, hi, hz0, hz1, hz2⟩ := info_parts info_byte
  go_enter Tryz.func103, Tryz.ntmps103
  go_wp2_with fail
  refine (pcheck_any B b bs _ g h).mono ?_
  rintro e w1 ⟨rfl, h1, hb1, ho1⟩
  obtain ⟨hB, v, hbk, hown, hne⟩ := h1
  have c0 : w1.cell? ⟨b, 0, none⟩ = some (.pointer (some ⟨b, 0, none⟩)) := by rw [Lib.cell_of_heap hbk]; rfl
  have c1 : w1.cell? ⟨b, 1, none⟩ = some v := by rw [Lib.cell_of_heap hbk]; rfl
  go_wp2_with (at_builtin; refine Lib.wpList_append_own_string _ rfl _ _ 22 9 rfl B 5 i0 Tryz.underlying22 Tryz.underlying9 hi hz0 hz1 hz2 _ _ _ rfl hown s rfl ?c3 ?c4 ?c5 ?_)
  case c3 => unfold maxLen; omega
  case c4 => omega
  case c5 => have := hb1.size; omega
  intro v' w2 hown' hgrow _
  have hlt : b < w1.heap.size := by
    rcases Nat.lt_or_ge b w1.heap.size with h' | h'
    · exact h'
    · simp [Array.getElem?_eq_none h'] at hbk
  have hb2 : w2.heap[b]? = some (.cells #[.pointer (some ⟨b, 0, none⟩), v, .bool g] 49 (0, 0)) := by
    rw [hgrow.block b hlt (fun e => hne e.symm)]
    exact hbk
  have d0 : w2.cell? ⟨b, 0, none⟩ = some (.pointer (some ⟨b, 0, none⟩)) := by rw [Lib.cell_of_heap hb2]; rfl
  have d1 : w2.cell? ⟨b, 1, none⟩ = some v := by rw [Lib.cell_of_heap hb2]; rfl
  have f1 : w2.frozen? ⟨b, 1, none⟩ = false := Lib.frozen_of_heap hb2 1
  obtain ⟨ao, n', cap, rfl⟩ : ∃ ao n' cap, v' = .slice ao n' cap := by
    rcases hown'.2 with ⟨hv, _⟩ | ⟨g, cap, cur, hv, _⟩
    · exact ⟨_, _, _, hv⟩
    · exact ⟨_, _, _, hv⟩
  go_wp2
  go_ret2
  refine ⟨rfl, ?_, ?_, ?_⟩
  · exact PageAt.put hB hb2 (bs' := bs ++ Lib.strCells s) (by simpa [Lib.strCells_length] using hown')
  · exact (hb1.grown hgrow (by have := hb1.size; omega) (fun k hk => (hown.lt k hk).1)).setCell (p := ⟨b, 1, none⟩) hB _
  · exact (Lib.OthersKept.grown ho1 hgrow (fun g0 hg0 => own_u8 hown g0 hg0)).setCell ⟨b, 1, none⟩ rfl _
theorem cellsByte : Tryz.prog.cellsOf 5 = 1 := by kernel_rfl
set_option maxHeartbeats 2000000 in
set_option maxRecDepth 100000 in
theorem pString_any (B b : Nat) (l : List UInt8) (w : World) (g : Bool) (h : IsPage B b (Lib.byteCells l) g w) (h0 : l ≠ []) :
    Calls Tryz.prog 16 #[.pointer (some ⟨b, 0, none⟩)] w fun e w' => e = .returned (.string ⟨l.toArray⟩) ∧ Below B w w' := by
  obtain ⟨p, hB, v, hbk, hown, hne⟩ : ∃ p, PageAt B b p (Lib.byteCells l) g w := by
    rcases h with h | h
    · exact ⟨_, h⟩
    · exact ⟨_, h⟩
  have hl0 : l.length ≠ 0 := by simpa using h0
  rw [Lib.byteCells_length] at hown
  obtain ⟨g', cap, cur, rfl, hbg, hg, hnc, hcm, hcs, htake⟩ : ∃ g' cap cur, v = .slice (some ⟨g', 0, none⟩) l.length cap ∧ B ≤ g' ∧ w.heap[g']? = some (.cells cur 5 (0, 0)) ∧ l.length ≤ cap ∧ cap ≤ maxLen ∧ cur.size = cap * 1 ∧ cur.toList.take (l.length * 1) = Lib.byteCells l := by
    rcases hown.2 with ⟨_, hz⟩ | ⟨g', cap, cur, hv, r⟩
    · exact absurd hz hl0
    · exact ⟨g', cap, cur, hv, r⟩
  have c1 : w.drew.cell? ⟨b, 1, none⟩ = some (.slice (some ⟨g', 0, none⟩) l.length cap) := by
    have : w.drew.heap[b]? = some (.cells #[p, .slice (some ⟨g', 0, none⟩) l.length cap, .bool g] 49 (0, 0)) := hbk
    rw [Lib.cell_of_heap this]; rfl
  have hSD : (Builtin.unsafeSliceData_ #[22] 113 #[.slice (some ⟨g', 0, none⟩) l.length cap]).run Tryz.prog w.drew = .ok (.pointer (some ⟨g', 0, none⟩)) w.drew :=
    Lib.run_unsafeSliceData_row _ _ _ _ _ _ (by omega)
  have hUS : (Builtin.unsafeString_ #[113, 3] 9 #[.pointer (some ⟨g', 0, none⟩), .int .i64 l.length]).run Tryz.prog w.drew = .ok (.string ⟨l.toArray⟩) (w.drew.freeze ⟨g', 0, none⟩ l.length) := by
    refine Lib.run_unsafeString_row w.drew 113 3 9 5 Tryz.underlying113 cellsByte g' cur.size (by have hg' : w.drew.heap[g']? = some (.cells cur 5 (0, 0)) := hg; simp [World.shape?, hg']) l h0 (by omega) (by unfold maxLen at hcm; omega) ?_
    intro j x hx
    have := hown.cells (g := g') rfl j (.int .u8 x.toNat) (by simp [Lib.byteCells, hx])
    exact this
  have mixed : Tryz.prog.follows Departure.mixedOrders = true := by kernel_rfl
  clear htake hown hg hne hbk h
  go_enter Tryz.func16, Tryz.ntmps16
  go_wp2
  go_region_o
  all_goals (go_wp2; go_ret; exact ⟨rfl, Lib.below_freeze (Below.drew (Below.refl B w)) (p := ⟨g', 0, none⟩) hbg _⟩)
end Go.Proofs.YtkbanaaljebhiaaGreatDoor
