/- The chapter's example holds. -/
import Derived.Test.YtkbanaaljebhiaaGreatDoorScDec
import Derived.Test.YtkbanaaljebhiaaGreatDoorScPlain
namespace Go.Proofs.YtkbanaaljebhiaaGreatDoor
open Go.RowKit Go.Sort
set_option linter.unusedSimpArgs false
set_option linter.unusedVariables false

theorem bytes_lit (w : World) (bs : List Nat) (h : ∀ x ∈ bs, x ≤ 255) (hl : bs.length ≤ 1000) : BytesArg (w.alloc (.cells (bs.map Y).toArray 5)) (some ⟨w.heap.size, 0, none⟩) bs.length bs.length bs :=
  ⟨rfl, Nat.le_refl _, by unfold maxLen; omega, RowF.lit w _ bs, h⟩
theorem dec_ex : decode [3, 1, 0, 0, 0, 0, 8, 0] = [⟨3, 1, 0, 0, 0, 0, 8, false⟩] := by
  rw [decode_cons (by simp), show List.drop 8 [3, 1, 0, 0, 0, 0, 8, 0] = ([] : List Nat) from rfl, decode_nil]
  rfl
theorem text_ex : (⟨3, 1, 0, 0, 0, 0, 8, false⟩ : Stp).text = [111, 102, 32, 49, 32, 48, 32, 48, 32, 48, 32, 48, 32, 56, 32, 48] := by decide +kernel
set_option maxRecDepth 100000 in
set_option maxHeartbeats 4000000 in
theorem scalive_any (w : World) (hP : Pow w) (hA : Asc w) :
    Calls Tryz.prog 5 #[] w fun e w' => e = .returned (.bool true) ∧ Below w.heap.size w w' := by
  obtain ⟨W, hW⟩ : ∃ W, W = w.alloc (.cells #[.int .u8 3, .int .u8 1, .int .u8 0, .int .u8 0, .int .u8 0, .int .u8 0, .int .u8 8, .int .u8 0] 5) := ⟨_, rfl⟩
  have hb : Below w.heap.size w W := by rw [hW]; exact (Below.refl _ _).alloc (Nat.le_refl _) _
  have harg : BytesArg W (some ⟨w.heap.size, 0, none⟩) 8 8 [3, 1, 0, 0, 0, 0, 8, 0] := by rw [hW]; exact bytes_lit w [3, 1, 0, 0, 0, 0, 8, 0] (by decide) (by decide)
  have HD := Lib.hid (sdecode_any _ _ _ _ W harg (by omega))
  have HTX := Lib.hid (fun W hP hA => stext_any ⟨3, 1, 0, 0, 0, 0, 8, false⟩ (by unfold Stp.Wf; simp [Lit.wf, IntKind.min, IntKind.max, IntKind.signed, IntKind.bits]) W hP hA)
  rw [text_ex] at HTX
  rw [dec_ex] at HD
  unfold txt Stp.cells at HTX
  have HB := Lib.hid hb
  have HP := Lib.hid (hP.on hb)
  have HA := Lib.hid (hA.on hb)
  have HWW := Lib.hid hW
  clear hb harg hP hA
  go_enter Tryz.func5, Tryz.ntmps5
  go_wp2_with fail
  rw [← HWW.out]
  clear hW
  refine HD.out.mono ?_
  rintro e w1 ⟨v, rfl, hown, hb1⟩
  obtain ⟨g, c, rfl, hg0, hg1, hc⟩ := hown.head (by simp)
  have hat := (OwnS.at_ Stp.cells_len hown 0 _ rfl).1
  simp only [List.length_singleton, Nat.zero_mul] at *
  have k0 := hat 0 _ rfl
  have k1 := hat 1 _ rfl
  have k2 := hat 2 _ rfl
  have k3 := hat 3 _ rfl
  have k4 := hat 4 _ rfl
  have k5 := hat 5 _ rfl
  have k6 := hat 6 _ rfl
  have k7 := hat 7 _ rfl
  simp only [Nat.zero_add, Nat.add_zero] at k0 k1 k2 k3 k4 k5 k6 k7
  have HB1 := Lib.hid hb1
  clear hat hown hb1
  go_wp2_with fail
  refine (HTX.out _ (HP.out.on HB1.out) (HA.out.on HB1.out)).mono ?_
  rintro e w2 ⟨rfl, hb2⟩
  have HB2 := Lib.hid (HB.out.trans ((HB1.out.trans (hb2.mono HB1.out.size)).mono HB.out.size))
  clear hb2
  go_wp2_with fail
  go_ret
  exact ⟨rfl, HB2.out⟩
end Go.Proofs.YtkbanaaljebhiaaGreatDoor
