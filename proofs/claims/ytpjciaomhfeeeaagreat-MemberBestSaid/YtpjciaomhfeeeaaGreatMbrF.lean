/- Contracts: the chapter's example stands; what member tells without a store or an order. -/
import Derived.Test.YtpjciaomhfeeeaaGreatMap
import Derived.Test.YtpjciaomhfeeeaaGreatMam
import Derived.Test.YtpjciaomhfeeeaaGreatRInts
import Derived.Test.YtpjciaomhfeeeaaGreatLeads
namespace Go.Proofs.YtpjciaomhfeeeaaGreat
open Go Go.RowKit Go.Shelf
set_option linter.unusedSimpArgs false
set_option linter.unusedVariables false

theorem allM_ex : allM [] 2 [1, 0] 1 ⟨0, 1⟩ = [0, 1, 2, 3] := by decide
set_option maxRecDepth 200000 in
set_option maxHeartbeats 16000000 in
theorem alive22_any (w : World) : Calls Tryz.prog 4 #[] w fun e w' => e = .returned (.bool true) ∧ Below w.heap.size w w' := by
  have HP : Hid (IsPerm [1, 0]) := Lib.hid (by decide)
  go_enter Tryz.func4, Tryz.ntmps4
  go_wp2_with fail
  refine (storeNew_yes 2 5 _ (by decide) (by decide) (by decide) (by decide)).mono ?_
  rintro e w1 ⟨⟨g, F, rfl, hS, hF⟩, hb1⟩
  have HS := Lib.hid hS
  have HB1 := Lib.hid hb1
  clear hS hF hb1
  go_wp2_with fail
  refine (orderOf_yes _ 2 2 [1, 0] _ rfl HP.out (RowF.lit w1 3 [1, 0])).mono ?_
  rintro e w2 ⟨go, G, ls, rfl, hO, hI, hG, hb2⟩
  have hb12 : Below w1.heap.size w1 w2 := ((Below.refl w1.heap.size w1).alloc (Nat.le_refl _) _).trans (hb2.mono (by simp))
  have HB2 := Lib.hid (HB1.out.trans (hb12.mono HB1.out.size))
  have HS2 := Lib.hid (HS.out.on hb12)
  have HO := Lib.hid (And.intro hO hI)
  clear hb12 hb2 hO hI hG
  go_wp2_with fail
  refine (mall_any (some ⟨g, 0, none⟩) (some ⟨go, 0, none⟩) 1 0 1 _).mono ?_
  rintro e w3 ⟨rfl, hw3⟩
  have hb23 : Below w2.heap.size w2 w3 := by rw [hw3]; exact ((((Below.refl _ _).alloc (Nat.le_refl _) _).alloc (by simp) _).alloc (by simp; omega) _).alloc (by simp; omega) _
  have k0 : Blk w3 w2.heap.size 28 #[.pointer (some ⟨g, 0, none⟩)] := by rw [hw3]; exact (((Blk.new _ _ _).alloc _).alloc _).alloc _
  have k1 : Blk w3 (w2.heap.size + 1) 33 #[.pointer (some ⟨go, 0, none⟩)] := by rw [hw3]; exact ((Blk.new_at (by simp) _ _).alloc _).alloc _
  have k2 : Blk w3 (w2.heap.size + 1 + 1) 32 #[.int .u8 1] := by rw [hw3]; exact (Blk.new_at (by simp) _ _).alloc _
  have k3 : Blk w3 (w2.heap.size + 1 + 1 + 1) 26 #[.int .u8 0, .int .u32 1] := by rw [hw3]; exact Blk.new_at (by simp) _ _
  have hsz : w3.heap.size = w2.heap.size + 1 + 1 + 1 + 1 := by rw [hw3]; simp
  have hS3 := HS2.out.on hb23
  have hO3 := HO.out.1.on hb23
  have hrun := all_runs F G g go _ _ _ _ _ _ [] [] [1, 0] ls 1 ⟨0, 1⟩ w3 hS3 hO3 ⟨HP.out, HO.out.2⟩ (by decide) (by unfold Edg.Wf; decide) (fun id r h => by rw [recAt_nil] at h; cases h) k0 k1 k2 k3
  rw [show ((2 : Int).toNat) = 2 from rfl, allM_ex] at hrun
  have HR := Lib.hid hrun
  have HL : Hid (∀ k, allR F G w2.heap.size (w2.heap.size + 1) (w2.heap.size + 1 + 1) (w2.heap.size + 1 + 1 + 1) k → k < w3.heap.size) := Lib.hid (fun k hk => by
    rcases hk with h | h | h | h | h | h
    · exact hS3.lt k h
    · exact hO3.lt k h
    all_goals omega)
  have HB3 := Lib.hid (HB2.out.trans (hb23.mono HB2.out.size))
  clear hw3 hb23 k0 k1 k2 k3 hsz hS3 hO3 hrun
  go_wp2_with fail
  refine (collect_any 9 (by omega) _ _ (enters_of Tryz.func40 (by kernel_rfl) rfl) _ [0, 1, 2, 3] _ HR.out HL.out (by decide)).mono ?_
  rintro e w4 ⟨v, rfl, hown, hb4⟩
  obtain ⟨A4, n4, c4, rfl, hn4, hc4⟩ := hown.form
  have hn : n4 = 4 := by simpa using hn4.symm
  subst hn
  have hints : Ints w4 w4.heap.size A4 [0, 1, 2, 3] := by
    intro hne
    obtain ⟨b, off, e1, e2, e3⟩ := OwnF.rows (d := (0 : Nat)) hown (by decide)
    refine ⟨b, off, e1, e2, fun j hj => ?_⟩
    rw [e3 j hj]
    match j, hj with
    | 0, _ => rfl
    | 1, _ => rfl
    | 2, _ => rfl
    | 3, _ => rfl
  have HI := Lib.hid hints
  have HB4 := Lib.hid (HB3.out.trans (hb4.mono HB3.out.size))
  clear hown hb4 hn4 hc4 hints
  go_wp2_with fail
  refine (rints_same A4 (some ⟨w4.heap.size, 0, none⟩) 4 c4 4 [0, 1, 2, 3] _ rfl (by decide) (RowF.alloc' HI.out _) (RowF.lit w4 3 [0, 1, 2, 3])).mono ?_
  rintro e w5 ⟨rfl, hb5⟩
  have HB5 := Lib.hid (HB4.out.trans ((((Below.refl w4.heap.size w4).alloc (Nat.le_refl _) _).trans (hb5.mono (by simp))).mono HB4.out.size))
  clear hb5
  go_wp2_with fail
  go_ret
  exact ⟨rfl, HB5.out⟩
end Go.Proofs.YtpjciaomhfeeeaaGreat
