/- MemberNil: the law answers true. -/
import Derived.Test.YtbhbhfplpbcfiaaMbrF
namespace Go.Proofs.Ytbhbhfplpbcfiaa
open Go Go.RowKit Go.Shelf
set_option linter.unusedSimpArgs false
set_option linter.unusedVariables false

set_option maxRecDepth 200000 in
set_option maxHeartbeats 16000000 in
theorem mnil_walk (f : Int) (e : Edg) (k : Int) (A : Option Addr) (n c : Nat) (w : World) :
    Calls Try.prog 3 #[.int .u8 f, .agg e.cells.toArray, .int .i64 k, .slice A n c] w fun e w' => e = .returned (.bool true) ∧ Below w.heap.size w w' := by
  obtain ⟨t, p⟩ := e
  unfold Edg.cells
  obtain ⟨W, hW⟩ : ∃ W, W = w.alloc (.cells #[.int .u8 t, .int .u32 p] 24) := ⟨_, rfl⟩
  have hbW : Below w.heap.size w W := by rw [hW]; exact (Below.refl _ _).alloc (Nat.le_refl _) _
  have b1 : Blk W w.heap.size 24 #[.int .u8 t, .int .u32 p] := by rw [hW]; exact Blk.new w _ _
  have HWW := Lib.hid hW
  have HB := Lib.hid hbW
  have B := Lib.hid b1
  clear hbW b1
  have HN1 := Lib.hid (fun go W => mnone_any none (some ⟨go, 0, none⟩) (.inl rfl) f t p k A n c W)
  have HN2 := Lib.hid (fun g W => mnone_any (some ⟨g, 0, none⟩) none (.inr rfl) f t p k A n c W)
  go_enter Try.func3, Try.ntmps3
  go_wp2_with fail
  rw [← HWW.out]
  clear hW
  refine (alive22_any _).mono ?_
  rintro e w1 ⟨rfl, hb1⟩
  have HB1 := Lib.hid hb1
  clear hb1
  go_wp2_with fail
  refine (storeNew_yes 2 5 _ (by decide) (by decide) (by decide) (by decide)).mono ?_
  rintro e w2 ⟨⟨g, F, rfl, hS, hF⟩, hb2⟩
  have HB2 := Lib.hid (HB1.out.trans (hb2.mono HB1.out.size))
  clear hS hF hb2
  go_wp2_with fail
  refine (orderNew_yes 2 _ (by decide) (by decide)).mono ?_
  rintro e w3 ⟨go, G, ls, rfl, hO, hI, hG, hb3⟩
  have HB3 := Lib.hid (HB2.out.trans (hb3.mono HB2.out.size))
  clear hO hI hG hb3
  have k30 : w3.cell? ⟨w.heap.size, 0, none⟩ = some (.int .u8 t) := ((B.out.onB HB3.out).cell 0)
  have k31 : w3.cell? ⟨w.heap.size, 1, none⟩ = some (.int .u32 p) := ((B.out.onB HB3.out).cell 1)
  go_wp2_with fail
  clear k30 k31
  refine (HN1.out go _).mono ?_
  rintro e w4 ⟨rfl, hb4⟩
  have HB4 := Lib.hid (HB3.out.trans (hb4.mono HB3.out.size))
  clear hb4
  have k40 : w4.cell? ⟨w.heap.size, 0, none⟩ = some (.int .u8 t) := ((B.out.onB HB4.out).cell 0)
  have k41 : w4.cell? ⟨w.heap.size, 1, none⟩ = some (.int .u32 p) := ((B.out.onB HB4.out).cell 1)
  go_wp2_with fail
  clear k40 k41
  refine (HN2.out g _).mono ?_
  rintro e w5 ⟨rfl, hb5⟩
  have HB5 := Lib.hid (HB4.out.trans (hb5.mono HB4.out.size))
  clear hb5
  go_wp2_with fail
  go_ret
  exact ⟨rfl, HB.out.trans (HB5.out.mono HB.out.size)⟩
end Go.Proofs.Ytbhbhfplpbcfiaa
