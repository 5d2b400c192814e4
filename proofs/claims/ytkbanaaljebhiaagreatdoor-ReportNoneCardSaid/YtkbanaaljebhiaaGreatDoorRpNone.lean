/- ReportNone: the walk. -/
import Derived.Test.YtkbanaaljebhiaaGreatDoorRepA
namespace Go.Proofs.YtkbanaaljebhiaaGreatDoor
open Go Go.RowKit
set_option linter.unusedSimpArgs false
set_option linter.unusedVariables false

theorem msame_nil (v : Value) (w : World) : Calls Tryz.prog 69 #[.pointer none, v] w fun e w' => e = .returned (.tuple #[.int .u8 0, .int .u8 2]) ∧ w = w' := by
  go_enter Tryz.func69, Tryz.ntmps69
  go_wp2_with fail
  go_ret2
  exact ⟨rfl, rfl⟩
theorem mform_nil (a : Int) (w : World) : Calls Tryz.prog 34 #[.pointer none, .int .i64 a] w fun e w' => e = .returned (.tuple #[.int .u8 0, .int .u8 2]) ∧ Below w.heap.size w w' := by
  go_enter Tryz.func34, Tryz.ntmps34
  go_wp2_with fail
  refine (msame_nil _ _).mono ?_
  rintro e w' ⟨rfl, rfl⟩
  go_wp2_with fail
  go_ret2
  exact ⟨rfl, (Below.refl _ _).alloc (Nat.le_refl _) _⟩
set_option maxRecDepth 100000 in
set_option maxHeartbeats 4000000 in
theorem pline_nil (p : Value) (a : Int) (w : World) : Calls Tryz.prog 15 #[p, .pointer none, .int .i64 a] w fun e w' => e = .returned (.int .u8 2) ∧ Below w.heap.size w w' := by
  go_enter Tryz.func15, Tryz.ntmps15
  go_wp2_with fail
  refine (mform_nil _ _).mono ?_
  rintro e w' ⟨rfl, hb⟩
  go_wp2_with fail
  go_ret
  exact ⟨rfl, hb⟩
theorem line_nil (a : Int) (w : World) : Calls Tryz.prog 8 #[.pointer none, .int .i64 a] w fun e w' => e = .returned (.tuple #[.string ⟨#[]⟩, .int .u8 2]) ∧ Below w.heap.size w w' := by
  go_enter Tryz.func8, Tryz.ntmps8
  go_wp2_with fail
  refine (pline_nil _ _ _).mono ?_
  rintro e w' ⟨rfl, hb⟩
  go_wp2_with fail
  go_ret2
  exact ⟨rfl, ((Below.refl _ _).alloc (Nat.le_refl _) _).trans (hb.mono (by simp))⟩
theorem report_nil (w : World) : Calls Tryz.prog 9 #[.pointer none] w fun e w' => e = .returned (.string ⟨#[]⟩) ∧ w = w' := by
  go_enter Tryz.func9, Tryz.ntmps9
  go_wp2_with fail
  go_ret
  exact ⟨rfl, rfl⟩
/-- why there is no manager -/
def NewErr (n room q : Int) : Prop := ((n < 0 ∨ 16 < n) ∧ q = 3) ∨ (0 ≤ n ∧ n ≤ 16 ∧ (room < 0 ∨ 1048576 < room) ∧ q = 1)
theorem storeNew_err (n room q : Int) (w : World) (h : NewErr n room q) : Calls Tryz.prog 29 #[.int .i64 n, .int .i64 room] w fun e w' => e = .returned (.tuple #[.pointer none, .int .u8 q]) ∧ w = w' := by
  rcases h with ⟨h, rfl⟩ | ⟨h0, h1, h2, rfl⟩
  · exact storeNew_var n room w h
  · exact storeNew_arg n room w h0 h1 h2
set_option maxRecDepth 100000 in
set_option maxHeartbeats 4000000 in
theorem mgrNew_err (n room q : Int) (w : World) (h : NewErr n room q) : Calls Tryz.prog 14 #[.int .i64 n, .int .i64 room] w fun e w' => e = .returned (.tuple #[.pointer none, .int .u8 q]) ∧ Below w.heap.size w w' := by
  have HS := Lib.hid (fun W => storeNew_err n room q W h)
  have hq : q = 3 ∨ q = 1 := by unfold NewErr at h; omega
  have HQ := Lib.hid hq
  clear h hq
  go_enter Tryz.func14, Tryz.ntmps14
  go_wp2_with fail
  refine (HS.out _).mono ?_
  rintro e w' ⟨rfl, rfl⟩
  rcases HQ.out with rfl | rfl
  all_goals
    go_wp2_with fail
    go_ret2
    exact ⟨rfl, Below.refl _ _⟩
set_option maxRecDepth 100000 in
set_option maxHeartbeats 4000000 in
theorem log_err (n room q : Int) (b : Value) (w : World) (h : NewErr n room q) : Calls Tryz.prog 10 #[.int .i64 n, .int .i64 room, b] w fun e w' => e = .returned (.tuple #[.string ⟨#[]⟩, .int .u8 q]) ∧ Below w.heap.size w w' := by
  have HS := Lib.hid (fun W => mgrNew_err n room q W h)
  have hq : q = 3 ∨ q = 1 := by unfold NewErr at h; omega
  have HQ := Lib.hid hq
  clear h hq
  go_enter Tryz.func10, Tryz.ntmps10
  go_wp2_with fail
  refine (HS.out _).mono ?_
  rintro e w' ⟨rfl, hb⟩
  rcases HQ.out with rfl | rfl
  all_goals
    go_wp2_with fail
    go_ret2
    exact ⟨rfl, hb⟩
set_option maxRecDepth 100000 in
set_option maxHeartbeats 8000000 in
theorem rnone_walk (n room h : Int) (A : Option Addr) (m c : Nat) (w : World) (hn : (Lit.int .i64 n).wf = true) (hr : (Lit.int .i64 room).wf = true) (hm : m ≤ maxLen) (hP : Pow w) :
    Calls Tryz.prog 4 #[.int .i64 n, .int .i64 room, .int .i64 h, .slice A m c] w fun e w' => e = .returned (.bool true) ∧ Below w.heap.size w w' := by
  have HAL := Lib.hid (alive32_any w hP)
  have HL := Lib.hid (fun W => line_nil h W)
  unfold maxLen at hm
  have hn' := i64_of_wf hn
  have hr' := i64_of_wf hr
  clear hn hr hP
  by_cases hg : 8 < m ∨ (0 ≤ n ∧ n ≤ 16 ∧ 0 ≤ room ∧ room ≤ 1048576)
  · have hg' : 8 < m ∨ (m ≤ 8 ∧ 0 ≤ n ∧ n ≤ 16 ∧ 0 ≤ room ∧ room ≤ 1048576) := by omega
    clear hg
    rcases hg' with hg0 | ⟨hg0, hg1, hg2, hg3, hg4⟩
    all_goals
      go_enter Tryz.func4, Tryz.ntmps4
      go_wp2_with fail
      refine HAL.out.mono ?_
      rintro e w1 ⟨rfl, hb1⟩
      have HB1 := Lib.hid hb1
      clear hb1
      go_wp2_with fail
      refine (HL.out _).mono ?_
      rintro e w2 ⟨rfl, hb2⟩
      have HB2 := Lib.hid (HB1.out.trans (hb2.mono HB1.out.size))
      clear hb2
      go_wp2_with fail
      refine (report_nil _).mono ?_
      rintro e w' ⟨rfl, rfl⟩
      go_wp2_with fail
      go_ret
      exact ⟨rfl, HB2.out⟩
  · obtain ⟨q, hq, hqc⟩ : ∃ q, NewErr n room q ∧ ((q = 3 ∧ (n < 0 ∨ 16 < n)) ∨ (q = 1 ∧ 0 ≤ n ∧ n ≤ 16)) := by
      by_cases h0 : n < 0 ∨ 16 < n
      · exact ⟨3, .inl ⟨h0, rfl⟩, .inl ⟨rfl, h0⟩⟩
      · exact ⟨1, .inr ⟨by omega, by omega, by omega, rfl⟩, .inr ⟨rfl, by omega, by omega⟩⟩
    have HE := Lib.hid (fun b W => log_err n room q b W hq)
    have hm8 : m ≤ 8 := by omega
    have hnr : (n < 0 ∧ q = 3) ∨ (0 ≤ n ∧ 16 < n ∧ q = 3) ∨ (0 ≤ n ∧ n ≤ 16 ∧ room < 0 ∧ q = 1) ∨ (0 ≤ n ∧ n ≤ 16 ∧ 0 ≤ room ∧ 1048576 < room ∧ q = 1) := by omega
    clear hq hqc hg
    rcases hnr with ⟨h1, rfl⟩ | ⟨h1, h2, rfl⟩ | ⟨h1, h2, h3, rfl⟩ | ⟨h1, h2, h3, h4, rfl⟩
    all_goals
      go_enter Tryz.func4, Tryz.ntmps4
      go_wp2_with fail
      refine HAL.out.mono ?_
      rintro e w1 ⟨rfl, hb1⟩
      have HB1 := Lib.hid hb1
      clear hb1
      go_wp2_with fail
      refine (HL.out _).mono ?_
      rintro e w2 ⟨rfl, hb2⟩
      have HB2 := Lib.hid (HB1.out.trans (hb2.mono HB1.out.size))
      clear hb2
      go_wp2_with fail
      refine (report_nil _).mono ?_
      rintro e w' ⟨rfl, rfl⟩
      go_wp2_with fail
      refine (HE.out _ _).mono ?_
      rintro e w3 ⟨rfl, hb3⟩
      have HB3 := Lib.hid (HB2.out.trans (hb3.mono HB2.out.size))
      clear hb3
      go_wp2_with fail
      go_ret
      exact ⟨rfl, HB3.out⟩
end Go.Proofs.YtkbanaaljebhiaaGreatDoor
