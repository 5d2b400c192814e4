/- Contract: report.Report of a manager without handles and nodes; the chapter's example holds. -/
import Derived.Test.YtkbanaaljebhiaaGreatDoorRep
namespace Go.Proofs.YtkbanaaljebhiaaGreatDoor
open Go Go.RowKit
set_option linter.unusedSimpArgs false
set_option linter.unusedVariables false

theorem rep_ne (n : Nat) : repT n ≠ [] := by
  unfold repT
  simp
theorem rep_two : repT 2 = [118, 97, 114, 115, 32, 50, 32, 111, 114, 100, 101, 114, 32, 48, 32, 49, 10, 104, 97, 110, 100, 108, 101, 115, 32, 48, 32, 110, 111, 100, 101, 115, 32, 48, 10] := by decide +kernel
set_option maxRecDepth 100000 in
set_option maxHeartbeats 4000000 in
theorem report_any (m n room : Nat) (hn : n ≤ 16) (w : World) (hP : Pow w) (hm : MgrAt w m n room) :
    Calls Tryz.prog 9 #[.pointer (some ⟨m, 0, none⟩)] w fun e w' => e = .returned (txt (repT n)) ∧ Below w.heap.size w w' := by
  have hb : Below w.heap.size w (w.alloc (.cells #[.pointer none, .slice none 0 0, .bool false] 49)) := (Below.refl _ _).alloc (Nat.le_refl _) _
  have HR := Lib.hid (preport_any w.heap.size m n room hn w _ hP hm hb (IsPage.fresh w))
  have HS := Lib.hid (fun W h => pString_any w.heap.size w.heap.size (repT n) W false h (rep_ne n))
  unfold txt
  clear hb hP hm
  go_enter Tryz.func9, Tryz.ntmps9
  go_wp2_with fail
  refine HR.out.mono ?_
  rintro e w1 ⟨rfl, hg, hb1⟩
  have HG := Lib.hid hg
  clear hg
  go_wp2_with fail
  refine (HS.out _ HG.out).mono ?_
  rintro e w2 ⟨rfl, hb2⟩
  go_wp2_with fail
  go_ret
  exact ⟨rfl, hb1.trans hb2⟩
set_option maxRecDepth 100000 in
set_option maxHeartbeats 4000000 in
theorem alive32_any (w : World) (hP : Pow w) : Calls Tryz.prog 7 #[] w fun e w' => e = .returned (.bool true) ∧ Below w.heap.size w w' := by
  have HN := Lib.hid (mgrNew_any 2 9 w (by omega) (by omega) (by omega) (by omega))
  have HR := Lib.hid (fun m W hP h => report_any m 2 9 (by omega) W hP h)
  rw [rep_two] at HR
  have HP := Lib.hid hP
  unfold txt at HR
  clear hP
  go_enter Tryz.func7, Tryz.ntmps7
  go_wp2_with fail
  refine HN.out.mono ?_
  rintro e w1 ⟨⟨m, rfl, hm, _⟩, hb1⟩
  have HM := Lib.hid hm
  have HB := Lib.hid hb1
  clear hm hb1
  go_wp2_with fail
  refine (HR.out _ _ (HP.out.on HB.out) HM.out).mono ?_
  rintro e w2 ⟨rfl, hb2⟩
  go_wp2_with fail
  go_ret
  exact ⟨rfl, HB.out.trans (hb2.mono HB.out.size)⟩
end Go.Proofs.YtkbanaaljebhiaaGreatDoor
