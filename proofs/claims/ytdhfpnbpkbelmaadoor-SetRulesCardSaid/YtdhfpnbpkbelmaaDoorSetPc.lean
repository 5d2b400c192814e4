/- Contracts: set.Op of others, ite, Ite. -/
import Derived.Test.YtdhfpnbpkbelmaaDoorSetPb
namespace Go.Proofs.YtdhfpnbpkbelmaaDoor
open Go.RowKit Go.Sort
set_option linter.unusedSimpArgs false
set_option linter.unusedVariables false

set_option maxRecDepth 100000 in
set_option maxHeartbeats 4000000 in
theorem sopS_no (o m m' : Int) (A A' : Option Addr) (len len' c c' : Nat) (ws ws' : List Nat) (w : World) (h : SetArg w m A len c ws) (h' : SetArg w m' A' len' c' ws') (hno : ¬ (pairB m m' ws ws' = true ∧ 0 ≤ o ∧ o ≤ 15)) :
    Calls Tryd.prog 29 #[.int .i64 o, setA m A len c, setA m' A' len' c'] w (SetErr w 1) := by
  have HPR := Lib.hid (fun W' (h1 : SetArg W' m A len c ws) (h2 : SetArg W' m' A' len' c' ws') => spair_any m m' A A' len len' c c' ws ws' W' h1 h2)
  unfold SetErr
  have hv1 := SetVar.new h
  have hv2 := SetVar.new (h'.alloc (.cells #[.int .i64 m, .slice A len c] 24))
  rw [World.size_alloc] at hv2
  unfold setA at *
  obtain ⟨W, hW⟩ : ∃ W, W = ((w.alloc (.cells #[.int .i64 m, .slice A len c] 24)).alloc (.cells #[.int .i64 m', .slice A' len' c'] 24)).alloc (.cells #[.int .i64 0, .slice none 0 0] 24) := ⟨_, rfl⟩
  have hbW : Below w.heap.size w W := by rw [hW]; exact (((Below.refl _ _).alloc (Nat.le_refl _) _).alloc (by simp) _).alloc (by simp; omega) _
  have hV1 : SetVar W w.heap.size m A len c ws := by rw [hW]; exact (hv1.alloc _).alloc _
  have hV2 : SetVar W (w.heap.size + 1) m' A' len' c' ws' := by rw [hW]; exact hv2.alloc _
  have hR : Blk W (w.heap.size + 2) 24 #[.int .i64 0, .slice none 0 0] := by
    rw [hW]
    have := Blk.new ((w.alloc (.cells #[.int .i64 m, .slice A len c] 24)).alloc (.cells #[.int .i64 m', .slice A' len' c'] 24)) 24 #[.int .i64 0, .slice none 0 0]
    rwa [World.size_alloc, World.size_alloc] at this
  have HWW := Lib.hid hW
  have HbW := Lib.hid hbW
  have V1 := Lib.hid hV1
  have V2 := Lib.hid hV2
  have HR := Lib.hid hR
  generalize pairB m m' ws ws' = pb at *
  have hc : pb = false ∨ (pb = true ∧ o < 0) ∨ (pb = true ∧ ¬ o < 0 ∧ 15 < o) := by
    cases pb
    · exact .inl rfl
    · simp at hno; right; by_cases h0 : o < 0
      · exact .inl ⟨rfl, h0⟩
      · exact .inr ⟨rfl, h0, by omega⟩
  clear h h' hbW hV1 hV2 hR hv1 hv2 hno
  have k10 := V1.out.c0
  have k11 := V1.out.c1
  have k20 := V2.out.c0
  have k21 := V2.out.c1
  rcases hc with rfl | ⟨rfl, ho⟩ | ⟨rfl, ho0, ho⟩
  all_goals
    go_enter Tryd.func29, Tryd.ntmps29
    go_wp2_with fail
    rw [← HWW.out]
    clear hW
    go_wp2_with fail
    refine (HPR.out _ V1.out.arg V2.out.arg).mono ?_
    rintro e w1 ⟨rfl, hb1'⟩
    have hR := HR.out.onB hb1'
    have n0 : w1.cell? ⟨w.heap.size + 2, 0, none⟩ = some (.int .i64 0) := hR.cell 0
    have n1 : w1.cell? ⟨w.heap.size + 2, 1, none⟩ = some (.slice none 0 0) := hR.cell 1
    have z0 := hR.frozen 0
    have z1 := hR.frozen 1
    have HB := Lib.hid (HbW.out.trans (hb1'.mono HbW.out.size))
    clear hR hb1' k10 k11 k20 k21
    go_wp2_with fail
    refine bodyPost_ret (v := .tuple #[.agg #[.int .i64 0, .slice none 0 0], .int .u8 1]) ?_ rfl ⟨rfl, ?_⟩
    · simp [results, Tryd.results29, go_sem, *]
    · first | exact HB.out | exact (HB.out.setCell (by simp only; omega) _).setCell (by simp only; omega) _
end Go.Proofs.YtdhfpnbpkbelmaaDoor
