/- SetQuants: the walk. -/
import Derived.Test.YtbhbhfplpbcfiaaGreatDoorMh
import Derived.Deep.DeepCutAuto
namespace Go.Proofs.YtbhbhfplpbcfiaaGreatDoor
open Go.RowKit Go.Sort
set_option linter.unusedSimpArgs false
set_option linter.unusedVariables false

theorem rexists_tab (n vars : Nat) (each : Bool) (hn : n ≤ 16) (hvars : vars < 65536) (A : Option Addr) (c : Nat) (t : List Bool) (w : World) (h : TabArg w A (2 ^ n) c t) :
    Calls Tryz.prog 39 #[.slice A (2 ^ n : Nat) c, .int .i64 (vars : Nat), .bool each] w fun e w' => ∃ B d, e = .returned (.slice B (2 ^ n) d) ∧ TabArg w' B (2 ^ n) d (quantT (exO each) vars t n) ∧ Below w.heap.size w w' := by
  refine (rexists_any n vars each hn hvars A c t w h).mono ?_
  rintro e w' ⟨B, d, rfl, hown, hbel⟩
  have hl : (quantT (exO each) vars t n).length = 2 ^ n := by rw [quantT_length, h.hlen]
  rw [hl] at hown ⊢
  exact ⟨B, d, rfl, own_tab hown hl (pow16 hn), hbel⟩
theorem sExists_ans (n vars : Nat) (hvars : vars < 2 ^ n) (A : Option Addr) (len c : Nat) (ws : List Nat) (w : World) (h : SetArg w n A len c ws) (hok : SOk n ws) :
    Calls Tryz.prog 238 #[setA n A len c, .int .u16 (vars : Nat)] w (SetAns w n 0 (quantT 14 vars (tabS n ws) n)) :=
  (sExists_any n vars hvars A len c (tabS n ws) w hok.n16 (tabS_length n ws) (by rw [hok.pack_tab]; exact h)).mono fun _ _ hr => hr.ans hok.n16 (by rw [quantT_length, tabS_length])
theorem sForall_ans (n vars : Nat) (hvars : vars < 2 ^ n) (A : Option Addr) (len c : Nat) (ws : List Nat) (w : World) (h : SetArg w n A len c ws) (hok : SOk n ws) :
    Calls Tryz.prog 237 #[setA n A len c, .int .u16 (vars : Nat)] w (SetAns w n 0 (quantT 8 vars (tabS n ws) n)) :=
  (sForall_any n vars hvars A len c (tabS n ws) w hok.n16 (tabS_length n ws) (by rw [hok.pack_tab]; exact h)).mono fun _ _ hr => hr.ans hok.n16 (by rw [quantT_length, tabS_length])
end Go.Proofs.YtbhbhfplpbcfiaaGreatDoor
