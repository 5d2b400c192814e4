/- Contracts: why an edge may not be asked: the document's (17, 18, 22). -/
import Derived.Test.YtpjciaomhfeeeaaGreatMbrC
import Derived.Test.YtpjciaomhfeeeaaGreatMaa
namespace Go.Proofs.YtpjciaomhfeeeaaGreat
open Go.RowKit Go.Sort
set_option linter.unusedSimpArgs false
set_option linter.unusedVariables false

theorem ris17_any (f : Int) (w : World) : Calls Tryz.prog 56 #[.int .u8 f] w fun e w' => e = .returned (.bool (decide (1 ≤ f ∧ f ≤ 5))) ∧ w = w' := by
  by_cases h1 : 1 ≤ f
  · by_cases h2 : f ≤ 5
    · rw [decide_eq_true ⟨h1, h2⟩]
      have d2 : decide (f ≤ 5) = true := by simpa using h2
      go_enter Tryz.func56, Tryz.ntmps56
      go_wp2_with fail
      go_ret
      exact ⟨rfl, rfl⟩
    · rw [decide_eq_false (fun h => h2 h.2)]
      have d2 : decide (f ≤ 5) = false := by simpa using h2
      go_enter Tryz.func56, Tryz.ntmps56
      go_wp2_with fail
      go_ret
      exact ⟨rfl, rfl⟩
  · rw [decide_eq_false (fun h => h1 h.1)]
    have d1 : decide (1 ≤ f) = false := by simpa using h1
    go_enter Tryz.func56, Tryz.ntmps56
    go_wp2_with fail
    go_ret
    exact ⟨rfl, rfl⟩
/-- what the document's May of 18 tells -/
def may18C (n len : Nat) (f : Int) : Nat := if len ≠ n then 1 else if ¬ (1 ≤ f ∧ f ≤ 5) then 4 else 0
set_option maxRecDepth 100000 in
theorem rmay18_any (n len c : Nat) (A : Option Addr) (f : Int) (w : World) : Calls Tryz.prog 26 #[.int .i64 (n : Nat), .slice A len c, .int .u8 f] w fun e w' => e = .returned (.int .i64 (may18C n len f : Nat)) ∧ w = w' := by
  have HI := Lib.hid (fun W => ris17_any f W)
  unfold may18C
  by_cases h1 : len = n
  · rw [if_neg (by simpa using h1)]
    subst h1
    by_cases hf : 1 ≤ f ∧ f ≤ 5
    · rw [if_neg (by simpa using hf)]
      rw [decide_eq_true hf] at HI
      clear hf
      go_enter Tryz.func26, Tryz.ntmps26
      go_wp2_with fail
      refine (HI.out _).mono ?_
      rintro e w' ⟨rfl, rfl⟩
      go_wp2_with fail
      go_ret
      exact ⟨rfl, rfl⟩
    · rw [if_pos hf]
      rw [decide_eq_false hf] at HI
      clear hf
      go_enter Tryz.func26, Tryz.ntmps26
      go_wp2_with fail
      refine (HI.out _).mono ?_
      rintro e w' ⟨rfl, rfl⟩
      go_wp2_with fail
      go_ret
      exact ⟨rfl, rfl⟩
  · rw [if_pos h1]
    have t1 : ((len : Int) != (n : Int)) = true := by simpa using (by omega : ¬ (len : Int) = n)
    have t2 : (len != n) = true := by simpa using h1
    clear h1
    go_enter Tryz.func26, Tryz.ntmps26
    go_wp2_with fail
    go_ret
    exact ⟨rfl, rfl⟩
theorem startC_ref (cs : List (Option Rec)) (n len : Nat) (f : Int) (e : Edg) : startC cs n len f e = if may18C n len f ≠ 0 then may18C n len f else if leads cs n f e 0 then 0 else 1 := by
  unfold startC may18C mayC
  by_cases h1 : len = n
  · subst h1
    have h0 : ¬ ((len : Nat) : Int) < 0 := by omega
    by_cases hf : 1 ≤ f ∧ f ≤ 5
    · simp [hf, h0]
    · simp [hf]
  · have h2 : ¬ n = len := fun h => h1 h.symm
    simp [h1, h2]
set_option maxRecDepth 100000 in
set_option maxHeartbeats 4000000 in
theorem rmay22_any (F : List Nat) (g n room : Nat) (rs : List Rec) (f : Int) (e : Edg) (A : Option Addr) (len c : Nat) (w : World) (h : RefAt w F g n room rs) (hf : 0 ≤ f ∧ f ≤ 255) (he : e.Wf) (hlen : rs.length ≤ 1048576) (hwf : ∀ r ∈ rs, r.Wf) :
    Calls Tryz.prog 9 #[.pointer (some ⟨g, 0, none⟩), .slice A len c, .int .u8 f, .agg e.cells.toArray] w fun r w' => r = .returned (.int .i64 (startC (rs.map some) n len f e : Nat)) ∧ Below w.heap.size w w' := by
  rw [startC_ref]
  obtain ⟨W, hW⟩ : ∃ W, W = w.alloc (.cells #[.int .u8 e.tag, .int .u32 e.pos] 26) := ⟨_, rfl⟩
  have hbW : Below w.heap.size w W := by rw [hW]; exact (Below.refl _ _).alloc (Nat.le_refl _) _
  have hK : Blk W w.heap.size 26 #[.int .u8 e.tag, .int .u32 e.pos] := by rw [hW]; exact Blk.new w _ _
  have j0 : W.cell? ⟨w.heap.size, 0, none⟩ = some (.int .u8 e.tag) := hK.cell 0
  have j1 : W.cell? ⟨w.heap.size, 1, none⟩ = some (.int .u32 e.pos) := hK.cell 1
  have HM := Lib.hid (fun W => rmay18_any n len c A f W)
  have HL := Lib.hid (refLeads_any F g n room rs f e 0 W (h.on hbW) hf he hlen hwf)
  obtain ⟨A0, len0, c0, hB, hO, hl, hFe, hnd⟩ := h.on hbW
  have hc3 : W.cell? ⟨g, 3, none⟩ = some (.int .i64 (n : Nat)) := hB.cell 3
  have HB := Lib.hid hbW
  have HWW := Lib.hid hW
  have hm4 : may18C n len f = 0 ∨ may18C n len f = 1 ∨ may18C n len f = 4 := by unfold may18C; (repeat' split) <;> simp
  simp only [Edg.cells] at HL ⊢
  generalize may18C n len f = m at *
  generalize leads (rs.map some) n f e 0 = ld at *
  clear h hbW hK hB hO hl hFe hnd hwf he hlen hf
  rcases hm4 with rfl | rfl | rfl
  · cases ld
    all_goals
      go_enter Tryz.func9, Tryz.ntmps9
      go_upto_region 1 with fail
      rw [← HWW.out]
      clear hW
      go_wp2_with fail
      refine (HM.out _).mono ?_
      rintro r w' ⟨rfl, rfl⟩
      go_wp2_with fail
      refine HL.out.mono ?_
      rintro r w1 ⟨rfl, hb1⟩
      go_wp2_with fail
      go_ret
      exact ⟨rfl, HB.out.trans (hb1.mono HB.out.size)⟩
  all_goals
    go_enter Tryz.func9, Tryz.ntmps9
    go_upto_region 1 with fail
    rw [← HWW.out]
    clear hW
    go_wp2_with fail
    refine (HM.out _).mono ?_
    rintro r w' ⟨rfl, rfl⟩
    go_wp2_with fail
    go_ret
    exact ⟨rfl, HB.out⟩
theorem startC_zero {cs : List (Option Rec)} {n len : Nat} {f : Int} {e : Edg} (h : startC cs n len f e = 0) : n = len ∧ (f = 1 ∨ f = 2 ∨ f = 3 ∨ f = 4 ∨ f = 5) ∧ leads cs n f e 0 = true := by
  unfold startC mayC at h
  by_cases h1 : n = len
  · rw [if_neg (by simpa using h1)] at h
    by_cases h2 : 1 ≤ f ∧ f ≤ 5
    · rw [if_neg (by simpa using h2)] at h
      split at h
      · omega
      · split at h
        · rename_i h3; exact ⟨h1, by omega, h3⟩
        · omega
    · rw [if_pos h2] at h; omega
  · rw [if_pos h1] at h; omega
end Go.Proofs.YtpjciaomhfeeeaaGreat
