/- node.One; the walks of NodePlain, NodeRight, NodeHashes. -/
import Derived.Test.YtfcklfpgjadfmaaDoorNodeD
namespace Go.Proofs.YtfcklfpgjadfmaaDoor
open Go.RowKit Go.Sort
set_option linter.unusedSimpArgs false
set_option linter.unusedVariables false

/-- the edge at the end -/
def oneE (f n : Int) : Edg := if 1 ≤ f ∧ f ≤ 5 ∧ 0 ≤ n ∧ n ≤ 16 then (if f = 5 then ⟨n, 1⟩ else ⟨0, 1⟩) else ⟨0, 0⟩
theorem form_cases {f : Int} (h : 0 ≤ f) : f = 0 ∨ f = 1 ∨ f = 2 ∨ f = 3 ∨ f = 4 ∨ f = 5 ∨ 5 < f := by omega
theorem isF_yes {f : Int} (h : 1 ≤ f ∧ f ≤ 5) : isFormB f = true := decide_eq_true h
theorem isF_no {f : Int} (h : ¬ (1 ≤ f ∧ f ≤ 5)) : isFormB f = false := decide_eq_false h
theorem may_yes {n : Int} (h : 0 ≤ n ∧ n ≤ 16) : mayB n = true := decide_eq_true h
theorem may_no {n : Int} (h : ¬ (0 ≤ n ∧ n ≤ 16)) : mayB n = false := decide_eq_false h
theorem ch_yes {f : Int} (h : f = 3 ∨ f = 4) : chainedB f = true := decide_eq_true h
theorem ch_no {f : Int} (h : ¬ (f = 3 ∨ f = 4)) : chainedB f = false := decide_eq_false h
set_option maxRecDepth 100000 in
set_option maxHeartbeats 4000000 in
theorem one_any (f n : Int) (hf : 0 ≤ f ∧ f ≤ 255) (w : World) : Calls Tryd.prog 19 #[.int .u8 f, .int .i64 n] w fun e w' => e = .returned (.agg (oneE f n).cells.toArray) ∧ Below w.heap.size w w' := by
  have hIF := isForm_any f (w.alloc (.cells #[.int .u8 0, .int .u32 0] 25))
  have hMA := nodeMay_any n (w.alloc (.cells #[.int .u8 0, .int .u32 0] 25))
  by_cases h1 : 1 ≤ f ∧ f ≤ 5
  · rw [isF_yes h1] at hIF
    by_cases h2 : 0 ≤ n ∧ n ≤ 16
    · rw [may_yes h2] at hMA
      have HIF := Lib.hid hIF
      have HMA := Lib.hid hMA
      clear hIF hMA
      by_cases h5 : f = 5
      · have ho : oneE f n = ⟨n, 1⟩ := by unfold oneE; rw [if_pos (by omega), if_pos h5]
        rw [ho]
        subst h5
        have hw8 : IntKind.u8.wrap n = n := by rw [IntKind.wrap_u8]; omega
        clear ho
        go_enter Tryd.func19, Tryd.ntmps19
        go_wp2_with fail
        refine HIF.out.mono ?_
        rintro e w' ⟨rfl, rfl⟩
        go_wp2_with fail
        refine HMA.out.mono ?_
        rintro e w' ⟨rfl, rfl⟩
        go_wp2_with fail
        refine bodyPost_ret (v := .agg #[.int .u8 n, .int .u32 1]) ?_ rfl ⟨rfl, ?_⟩
        · simp [results, Tryd.results19, go_sem, *]
        · first | exact (Below.refl _ _).alloc (Nat.le_refl _) _ | exact (((Below.refl _ _).alloc (Nat.le_refl _) _).setCell (Nat.le_refl _) _).setCell (Nat.le_refl _) _
      · have ho : oneE f n = ⟨0, 1⟩ := by unfold oneE; rw [if_pos (by omega), if_neg h5]
        have e5 : (f == 5) = false := by rw [beq_eq_false_iff_ne]; exact h5
        rw [ho]
        clear ho h5
        go_enter Tryd.func19, Tryd.ntmps19
        go_wp2_with fail
        refine HIF.out.mono ?_
        rintro e w' ⟨rfl, rfl⟩
        go_wp2_with fail
        refine HMA.out.mono ?_
        rintro e w' ⟨rfl, rfl⟩
        go_wp2_with fail
        refine bodyPost_ret (v := .agg #[.int .u8 0, .int .u32 1]) ?_ rfl ⟨rfl, ?_⟩
        · simp [results, Tryd.results19, go_sem, *]
        · first | exact (Below.refl _ _).alloc (Nat.le_refl _) _ | exact (((Below.refl _ _).alloc (Nat.le_refl _) _).setCell (Nat.le_refl _) _).setCell (Nat.le_refl _) _
    · rw [may_no h2] at hMA
      have ho : oneE f n = ⟨0, 0⟩ := by unfold oneE; rw [if_neg (by omega)]
      rw [ho]
      have HIF := Lib.hid hIF
      have HMA := Lib.hid hMA
      clear hIF hMA ho h1 h2
      go_enter Tryd.func19, Tryd.ntmps19
      go_wp2_with fail
      refine HIF.out.mono ?_
      rintro e w' ⟨rfl, rfl⟩
      go_wp2_with fail
      refine HMA.out.mono ?_
      rintro e w' ⟨rfl, rfl⟩
      go_wp2_with fail
      refine bodyPost_ret (v := .agg #[.int .u8 0, .int .u32 0]) ?_ rfl ⟨rfl, ?_⟩
      · simp [results, Tryd.results19, go_sem, *]
      · first | exact (Below.refl _ _).alloc (Nat.le_refl _) _ | exact (((Below.refl _ _).alloc (Nat.le_refl _) _).setCell (Nat.le_refl _) _).setCell (Nat.le_refl _) _
  · rw [isF_no h1] at hIF
    have ho : oneE f n = ⟨0, 0⟩ := by unfold oneE; rw [if_neg (by omega)]
    rw [ho]
    have HIF := Lib.hid hIF
    clear hIF hMA ho h1
    go_enter Tryd.func19, Tryd.ntmps19
    go_wp2_with fail
    refine HIF.out.mono ?_
    rintro e w' ⟨rfl, rfl⟩
    go_wp2_with fail
    refine bodyPost_ret (v := .agg #[.int .u8 0, .int .u32 0]) ?_ rfl ⟨rfl, ?_⟩
    · simp [results, Tryd.results19, go_sem, *]
    · first | exact (Below.refl _ _).alloc (Nat.le_refl _) _ | exact (((Below.refl _ _).alloc (Nat.le_refl _) _).setCell (Nat.le_refl _) _).setCell (Nat.le_refl _) _
theorem eqlE (lt lp ht hp : Int) (x : Bool) (hx : decide ((⟨lt, lp⟩ : Edg) = ⟨ht, hp⟩) = x) (w : World) : (binOp .eql 25 (.agg #[.int .u8 lt, .int .u32 lp]) (.agg #[.int .u8 ht, .int .u32 hp])).run Tryd.prog w = .ok (.bool x) w := by
  subst hx
  by_cases h1 : lt = ht
  · by_cases h2 : lp = hp
    · subst h1 h2
      rw [decide_eq_true rfl]
      go_simp
    · rw [decide_eq_false (fun e => h2 (by injection e))]
      have e2 : (lp == hp) = false := by simpa using h2
      subst h1
      go_simp
  · rw [decide_eq_false (fun e => h1 (by injection e))]
    go_simp

end Go.Proofs.YtfcklfpgjadfmaaDoor
