/- Edges as arguments. Slices of records as arguments. -/
import Derived.Test.YtpjciaomhfeeeaaGreatMc
import Derived.Test.YtpjciaomhfeeeaaGreatRows
import Derived.WalkKit
import Derived.ProofKit
import Derived.OpenShut
import Derived.ShutString
import Derived.ChangeOld
import Derived.Lib.SmallJoins
import Derived.Test.YtpjciaomhfeeeaaGreatMa
import Derived.Deep.Slices
section
namespace Go.Proofs.YtpjciaomhfeeeaaGreat
open Go.RowKit Go.ChangeShapes Go.WideShapes Go.ChangeAt Go.Joins
set_option linter.unusedSimpArgs false
set_option linter.unusedVariables false

theorem u8_wf {n : Int} (h : (Lit.int .u8 n).wf = true) : 0 ≤ n ∧ n ≤ 255 := by simpa [Lit.wf, IntKind.min, IntKind.max, IntKind.signed, IntKind.bits] using h
theorem u32_wf {n : Int} (h : (Lit.int .u32 n).wf = true) : 0 ≤ n ∧ n ≤ 4294967295 := by simpa [Lit.wf, IntKind.min, IntKind.max, IntKind.signed, IntKind.bits] using h
theorem edge_cells : Tryz.prog.cellsOf 26 = 2 := by kernel_rfl
set_option maxRecDepth 100000 in
theorem edge_arg {H : Type} {enc : TypeId × Value → H} {W : World} {base : Nat} {v : Value} {d : DataW H} {p : List MemPlace} (hv : Value.okWide Tryz.prog W .any base 26 v) (h : DataW.Trod enc Tryz.prog W 0 (fun _ => true) true 26 v d p) :
    ∃ e : Edg, v = .agg e.cells.toArray ∧ e.Wf := by
  obtain ⟨c0, c1, y0, y1, m, rfl, rfl, rfl, hy0, hy1⟩ := open_agg2 Tryz.underlying26 (by kernel_rfl) edge_cells hv h
  obtain ⟨a, e0, rfl, wa⟩ := DataW.trod_int Tryz.underlying5 hy0
  obtain ⟨b, e1, rfl, wb⟩ := DataW.trod_int Tryz.underlying24 hy1
  simp at e0 e1
  subst e0 e1
  have h1 := u8_wf wa
  have h2 := u32_wf wb
  exact ⟨⟨a, b⟩, rfl, h1.1, h1.2, h2.1, h2.2⟩
end Go.Proofs.YtpjciaomhfeeeaaGreat
end

section
namespace Go.Proofs.YtpjciaomhfeeeaaGreat
open Go.RowKit Go.ChangeShapes Go.WideShapes Go.ChangeAt Go.Joins Go.Deep
set_option linter.unusedSimpArgs false
set_option linter.unusedVariables false

theorem cellsForm : Tryz.prog.cellsOf 32 = 1 := by kernel_rfl
theorem cellsU8 : Tryz.prog.cellsOf 5 = 1 := by kernel_rfl
theorem cellsU32 : Tryz.prog.cellsOf 24 = 1 := by kernel_rfl
theorem cellsRec : Tryz.prog.cellsOf 62 = 7 := by kernel_rfl
section
variable {H : Type} {enc : TypeId × Value → H} {W : World} {base : Nat} {spare : Nat → Bool} {held : Bool} {n : Nat} {x : DataW H × List MemPlace}
set_option maxRecDepth 100000 in
theorem edge_cells_of {cs : List Value} (h : DataW.trod enc Tryz.prog W base spare held n 26 cs = some x) : ∃ e : Edg, cs = e.cells ∧ e.Wf := by
  obtain ⟨xs, m, _, _, hlen, hx, hg⟩ := DataW.trod_struct Tryz.underlying26 h
  rw [edge_cells] at hlen
  match cs, hlen with
  | [c0, c1], _ =>
    match xs, hx with
    | [y0, y1], _ =>
      have g0 := hg 0 _ rfl
      have g1 := hg 1 _ rfl
      simp only [List.getElem_toArray, List.getElem_cons_zero, List.getElem_cons_succ, cellsU8, cellsU32] at g0 g1
      obtain ⟨a, e0, rfl, wa⟩ := DataW.trod_int Tryz.underlying5 g0
      obtain ⟨b, e1, rfl, wb⟩ := DataW.trod_int Tryz.underlying24 g1
      simp at e0 e1
      subst e0 e1
      have h1 := u8_wf wa
      have h2 := u32_wf wb
      exact ⟨⟨a, b⟩, rfl, h1.1, h1.2, h2.1, h2.2⟩
set_option maxRecDepth 100000 in
theorem rec_cells_of {cs : List Value} (h : DataW.trod enc Tryz.prog W base spare held n 62 cs = some x) : ∃ r : Rec, cs = r.cells ∧ r.Wf := by
  obtain ⟨xs, m, _, _, hlen, hx, hg⟩ := DataW.trod_struct Tryz.underlying62 h
  rw [cellsRec] at hlen
  match cs, hlen with
  | [c0, c1, c2, c3, c4, c5, c6], _ =>
    match xs, hx with
    | [y0, y1, y2, y3, y4], _ =>
      have g0 := hg 0 _ rfl
      have g1 := hg 1 _ rfl
      have g2 := hg 2 _ rfl
      have g3 := hg 3 _ rfl
      have g4 := hg 4 _ rfl
      simp only [List.getElem_toArray, List.getElem_cons_zero, List.getElem_cons_succ, cellsU8, cellsForm, edge_cells] at g0 g1 g2 g3 g4
      obtain ⟨a, e0, rfl, wa⟩ := DataW.trod_int Tryz.underlying32 g0
      obtain ⟨b, e1, rfl, wb⟩ := DataW.trod_int Tryz.underlying5 g1
      obtain ⟨c, e2, rfl, wc⟩ := DataW.trod_int Tryz.underlying5 g2
      obtain ⟨lo, e3, wlo⟩ := edge_cells_of g3
      obtain ⟨hi, e4, whi⟩ := edge_cells_of g4
      simp [Edg.cells] at e0 e1 e2 e3 e4
      obtain ⟨e5, e6⟩ := e3
      obtain ⟨e7, e8⟩ := e4
      subst e0 e1 e2 e5 e6 e7 e8
      exact ⟨⟨a, b, c, lo, hi⟩, rfl, u8_wf wa, u8_wf wb, u8_wf wc, wlo, whi⟩
end
/-- a slice of records that came in -/
def RecsArg (w : World) (A : Option Addr) (n c : Nat) (rs : List Rec) : Prop :=
  rs.length = n ∧ n ≤ c ∧ c ≤ maxLen ∧ RowS 7 Rec.cells w w.heap.size A rs ∧ ∀ r ∈ rs, r.Wf
set_option maxRecDepth 100000 in
theorem recs_arg {H : Type} {enc : TypeId × Value → H} {W : World} {base : Nat} {v : Value} {d : DataW H} {p : List MemPlace} (hv : Value.okWide Tryz.prog W .any base 22 v) (h : DataW.Trod enc Tryz.prog W 0 (fun _ => true) true 22 v d p) :
    ∃ (A : Option Addr) (n c : Nat) (rs : List Rec), v = .slice A n c ∧ RecsArg W A n c rs := by
  obtain ⟨A, n, c, rfl⟩ := okWide_slice Tryz.underlying22 hv
  obtain ⟨fuel, hf⟩ := h
  rcases open_slice Tryz.underlying22 hf with ⟨hcs, _⟩ | ⟨a, len, cap, m, n', D, Pl, hcs, hb, hl, hm, hmm, _, hx⟩
  · simp [Value.cells] at hcs
    obtain ⟨rfl, rfl, rfl⟩ := hcs
    exact ⟨none, 0, 0, [], rfl, rfl, by omega, by unfold maxLen; omega, RowS.nil_, by simp⟩
  · simp [Value.cells] at hcs
    obtain ⟨rfl, rfl, rfl⟩ := hcs
    have hm2 : n ≤ m := by rw [hmm]; simp; omega
    have hex : ∀ i, ∃ r : Rec, i < n → W.cells? 0 (a.add (i * 7)) 7 = some r.cells ∧ r.Wf := fun i => by
      rcases Nat.lt_or_ge i n with hi | hi
      · obtain ⟨cs', hc, ht⟩ := hx i (by omega)
        obtain ⟨r, rfl, hw⟩ := rec_cells_of ht
        rw [cellsRec] at hc
        exact ⟨r, fun _ => ⟨hc, hw⟩⟩
      · exact ⟨Rec.nil, fun h => by omega⟩
    obtain ⟨f, hf⟩ := Classical.axiomOfChoice hex
    refine ⟨some a, n, c, (List.range n).map f, rfl, by simp, hl, hm, fun hn => ?_, ?_⟩
    · have h0 := (hf 0 (by simpa using hn)).1
      obtain ⟨_, hcl, hat⟩ := World.cells?_some h0
      have hc0 := hat (i := 0) (by omega)
      obtain ⟨b, off, spot⟩ := a
      have hspot : spot = none := by
        have := World.cell?_spot hc0
        simpa [Addr.add] using this
      subst hspot
      refine ⟨b, off, rfl, ?_, fun i r hr => ?_⟩
      · rcases Nat.lt_or_ge b W.heap.size with h | h
        · exact h
        · rw [Addr.add_lit, Addr.add_lit] at hc0
          simp [World.cell?, Array.getElem?_eq_none h, Rec.cells] at hc0
      · rw [List.getElem?_map] at hr
        have hi : i < n := by
          rcases Nat.lt_or_ge i n with h | h
          · exact h
          · rw [List.getElem?_eq_none (by simpa using h)] at hr; cases hr
        rw [List.getElem?_range hi] at hr
        injection hr with hr
        subst hr
        obtain ⟨_, hcl, hat⟩ := World.cells?_some (hf i hi).1
        intro j v hv
        have hj : j < 7 := by
          have := (List.getElem?_eq_some_iff.1 hv).1
          exact this
        have h7 := hat (i := j) hj
        rw [Addr.add_lit, Addr.add_lit] at h7
        rw [h7]
        exact hv
    · intro r hr
      obtain ⟨i, hi, rfl⟩ := List.mem_map.1 hr
      exact (hf i (List.mem_range.1 hi)).2
end Go.Proofs.YtpjciaomhfeeeaaGreat
end
