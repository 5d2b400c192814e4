/- Contract: manager.New. -/
import Derived.Test.YtkbanaaljebhiaaGreatDoorCache
import Derived.Deep.MidRow
namespace Go.Proofs.YtkbanaaljebhiaaGreatDoor
open Go.RowKit
set_option linter.unusedSimpArgs false
set_option linter.unusedVariables false

/-- block m is a manager without handles and nodes -/
def MgrAt (w : World) (m n room : Nat) : Prop :=
  ∃ gs Fs go Fo ls, w.cell? ⟨m, 3, none⟩ = some (.pointer (some ⟨gs, 0, none⟩)) ∧ w.cell? ⟨m, 4, none⟩ = some (.pointer (some ⟨go, 0, none⟩)) ∧ w.rangeAt m 5 (List.replicate 257 (.bool false)) ∧ m < w.heap.size ∧
    StoreAt w Fs gs n room [] [] ∧ OrdAt w Fo go (iota n) ls
theorem MgrAt.on {w w' : World} {m n room : Nat} (h : MgrAt w m n room) (hb : Below w.heap.size w w') : MgrAt w' m n room := by
  obtain ⟨gs, Fs, go, Fo, ls, h1, h2, h3, h4, h5, h6⟩ := h
  exact ⟨gs, Fs, go, Fo, ls, (hb.cell (p := ⟨m, 3, none⟩) h4).trans h1, (hb.cell (p := ⟨m, 4, none⟩) h4).trans h2, fun j v hv => (hb.cell (p := ⟨m, 5 + j, none⟩) h4).trans (h3 j v hv), Nat.lt_of_lt_of_le h4 hb.size, h5.on hb, h6.on hb⟩
theorem zero_live : (Tryz.zeroCells87.toList.drop 5).take 257 = List.replicate 257 (.bool false) := by kernel_rfl
theorem zero_size : Tryz.zeroCells87.size = 1033 := by kernel_rfl
theorem zero_head : Tryz.zeroCells87.toList.take 5 = List.replicate 5 (.pointer none) := by kernel_rfl
theorem zero_at (j : Nat) (h : j < 257) : Tryz.zeroCells87[5 + j]? = some (.bool false) := by
  have e := congrArg (fun l => l[j]?) zero_live
  simp only [List.getElem?_take, if_pos h, List.getElem?_drop, Array.getElem?_toList, List.getElem?_replicate] at e
  exact e
theorem zero_ptr (j : Nat) (h : j < 5) : Tryz.zeroCells87[j]? = some (.pointer none) := by
  have e := congrArg (fun l => l[j]?) zero_head
  simp only [List.getElem?_take, if_pos h, Array.getElem?_toList, List.getElem?_replicate] at e
  exact e
set_option maxRecDepth 100000 in
set_option maxHeartbeats 8000000 in
theorem mgrNew_any (n room : Int) (w : World) (h0 : 0 ≤ n) (h1 : n ≤ 16) (h2 : 0 ≤ room) (h3 : room ≤ 1048576) : Calls Tryz.prog 14 #[.int .i64 n, .int .i64 room] w fun e w' => (∃ m, e = .returned (.tuple #[.pointer (some ⟨m, 0, none⟩), .int .u8 0]) ∧ MgrAt w' m n.toNat room.toNat ∧ w.heap.size ≤ m) ∧ Below w.heap.size w w' := by
  have HS := Lib.hid (fun W => storeNew_yes n room W h0 h1 h2 h3)
  have HO := Lib.hid (fun W => orderNew_yes n W h0 h1)
  have HA := Lib.hid (fun g W => applyNew_any g W)
  have HQ := Lib.hid (fun c g k W h => quantNew_any c g k W h)
  have HF := Lib.hid (fun c g k W h => familyNew_any c g k W h)
  go_enter Tryz.func14, Tryz.ntmps14
  go_wp2_with fail
  refine (HS.out _).mono ?_
  rintro e w1 ⟨⟨gs, Fs, rfl, hst, hF⟩, hb1⟩
  have HST := Lib.hid hst
  have HB1 := Lib.hid hb1
  clear hst hF hb1
  go_wp2_with fail
  obtain ⟨z, hz⟩ : ∃ z, z = Tryz.zeroCells87 := ⟨_, rfl⟩
  rw [← hz]
  obtain ⟨X0, hX0⟩ : ∃ X0, X0 = w1.alloc (.cells (z.setIfInBounds 3 (.pointer (some ⟨gs, 0, none⟩))) 87) := ⟨_, rfl⟩
  rw [← hX0]
  have hz3 : z.size = 1033 := by rw [hz]; exact zero_size
  have b0 : Blk X0 w1.heap.size 87 (z.setIfInBounds 3 (.pointer (some ⟨gs, 0, none⟩))) := by rw [hX0]; exact Blk.new w1 _ _
  have B0 := Lib.hid b0
  have H0 : Hid (Below w1.heap.size w1 X0) := Lib.hid (by rw [hX0]; exact (Below.refl _ _).alloc (Nat.le_refl _) _)
  have HZ := Lib.hid hz
  have HZ3 := Lib.hid hz3
  clear hz hX0 b0 hz3
  refine (HO.out _).mono ?_
  rintro e w2 ⟨go, Fo, ls, rfl, hO, _, hFo, hb2⟩
  have hmlt := B0.out.lt
  have b1 := B0.out.onB hb2
  have k4 : w2.cell? ⟨w1.heap.size, 4, none⟩ = some (.pointer none) := by
    rw [b1.cell 4, Array.getElem?_setIfInBounds_ne (by omega), HZ.out]
    exact zero_ptr 4 (by omega)
  have f4 := b1.frozen 4
  have B1 := Lib.hid b1
  have H1 := Lib.hid (H0.out.trans (hb2.mono H0.out.size))
  have HOr := Lib.hid hO
  have HFo := Lib.hid hFo
  clear b1 hO hFo hb2
  go_wp2_with fail
  clear k4 f4
  obtain ⟨X1, hX1⟩ : ∃ X1, X1 = w2.setCell ⟨w1.heap.size, 4, none⟩ (.pointer (some ⟨go, 0, none⟩)) := ⟨_, rfl⟩
  rw [← hX1]
  have b2 : Blk X1 w1.heap.size 87 ((z.setIfInBounds 3 (.pointer (some ⟨gs, 0, none⟩))).setIfInBounds 4 (.pointer (some ⟨go, 0, none⟩))) := by rw [hX1]; exact B1.out.set_ 4 _
  have H2 : Hid (Below w1.heap.size w1 X1) := Lib.hid (by rw [hX1]; exact H1.out.setCell (p := ⟨w1.heap.size, 4, none⟩) (Nat.le_refl _) _)
  have C2 : Hid (Chg [w1.heap.size] w2 X1) := Lib.hid (by rw [hX1]; exact (Chg.refl _ w2).setCell (p := ⟨w1.heap.size, 4, none⟩) (Or.inl (by simp)) _)
  have B2 := Lib.hid b2
  clear b2 hX1
  refine (HA.out _ _).mono ?_
  rintro e w3 ⟨⟨c, kc, rfl, hbc, hc⟩, hb3⟩
  have b3 := B2.out.onB hb3
  have k0 : w3.cell? ⟨w1.heap.size, 0, none⟩ = some (.pointer none) := by
    rw [b3.cell 0, Array.getElem?_setIfInBounds_ne (by omega), Array.getElem?_setIfInBounds_ne (by omega), HZ.out]
    exact zero_ptr 0 (by omega)
  have f0 := b3.frozen 0
  have B3 := Lib.hid b3
  have H3 := Lib.hid (H2.out.trans (hb3.mono H2.out.size))
  have C3 := Lib.hid (C2.out.trans (chg_of_below (F := []) hb3) (by simp))
  have hcm : ¬ c = w1.heap.size := by have := B2.out.lt; omega
  have HBC := Lib.hid hbc
  clear b3 hb3 hbc hc
  go_wp2_with fail
  clear k0 f0
  obtain ⟨X2, hX2⟩ : ∃ X2, X2 = w3.setCell ⟨w1.heap.size, 0, none⟩ (.pointer (some ⟨c, 0, none⟩)) := ⟨_, rfl⟩
  rw [← hX2]
  have b4 : Blk X2 w1.heap.size 87 (((z.setIfInBounds 3 (.pointer (some ⟨gs, 0, none⟩))).setIfInBounds 4 (.pointer (some ⟨go, 0, none⟩))).setIfInBounds 0 (.pointer (some ⟨c, 0, none⟩))) := by rw [hX2]; exact B3.out.set_ 0 _
  have H4 : Hid (Below w1.heap.size w1 X2) := Lib.hid (by rw [hX2]; exact H3.out.setCell (p := ⟨w1.heap.size, 0, none⟩) (Nat.le_refl _) _)
  have C4 : Hid (Chg [w1.heap.size] w2 X2) := Lib.hid (by rw [hX2]; exact C3.out.setCell (p := ⟨w1.heap.size, 0, none⟩) (Or.inl (by simp)) _)
  have BC2 : Hid (Blk X2 c 160 #[.pointer (some ⟨gs, 0, none⟩), kc]) := Lib.hid (by rw [hX2]; exact HBC.out.far (p := ⟨w1.heap.size, 0, none⟩) hcm _)
  have k0 : X2.cell? ⟨w1.heap.size, 0, none⟩ = some (.pointer (some ⟨c, 0, none⟩)) := by
    rw [b4.cell 0, Array.getElem?_setIfInBounds_self_of_lt (by simp [HZ3.out])]
  have HK0 := Lib.hid k0
  have BB : ∃ cs, Blk X2 w1.heap.size 87 cs ∧ cs.size = 1033 ∧ cs[1]? = some (.pointer none) ∧ cs[2]? = some (.pointer none) ∧ cs[3]? = some (.pointer (some ⟨gs, 0, none⟩)) ∧ cs[4]? = some (.pointer (some ⟨go, 0, none⟩)) ∧ ∀ j, j < 257 → cs[5 + j]? = some (.bool false) := by
    refine ⟨_, b4, by simp [HZ3.out], ?_, ?_, ?_, ?_, fun j hj => ?_⟩
    · rw [Array.getElem?_setIfInBounds_ne (by omega), Array.getElem?_setIfInBounds_ne (by omega), Array.getElem?_setIfInBounds_ne (by omega), HZ.out]
      exact zero_ptr 1 (by omega)
    · rw [Array.getElem?_setIfInBounds_ne (by omega), Array.getElem?_setIfInBounds_ne (by omega), Array.getElem?_setIfInBounds_ne (by omega), HZ.out]
      exact zero_ptr 2 (by omega)
    · rw [Array.getElem?_setIfInBounds_ne (by omega), Array.getElem?_setIfInBounds_ne (by omega), Array.getElem?_setIfInBounds_self_of_lt (by rw [HZ3.out]; omega)]
    · rw [Array.getElem?_setIfInBounds_ne (by omega), Array.getElem?_setIfInBounds_self_of_lt (by simp [HZ3.out])]
    · rw [Array.getElem?_setIfInBounds_ne (by omega), Array.getElem?_setIfInBounds_ne (by omega), Array.getElem?_setIfInBounds_ne (by omega), HZ.out]
      exact zero_at j hj
  obtain ⟨cs, B4, hcs, e1, e2, e3, e4, e5⟩ := BB
  have B4 := Lib.hid B4
  have E1 := Lib.hid e1
  have E2 := Lib.hid e2
  have E3 := Lib.hid e3
  have E4 := Lib.hid e4
  have E5 := Lib.hid e5
  have HCS := Lib.hid hcs
  clear b4 hX2 e1 e2 e3 e4 e5 hcs B3 B2 B1 B0
  go_wp2_with fail
  refine (HQ.out _ _ _ _ BC2.out).mono ?_
  rintro e w4 ⟨⟨q, rfl⟩, hb4⟩
  have b5 := B4.out.onB hb4
  have k0' : w4.cell? ⟨w1.heap.size, 1, none⟩ = some (.pointer none) := (b5.cell 1).trans E1.out
  have f0 := b5.frozen 1
  have k00 : w4.cell? ⟨w1.heap.size, 0, none⟩ = some (.pointer (some ⟨c, 0, none⟩)) := (hb4.cell (p := ⟨w1.heap.size, 0, none⟩) B4.out.lt).trans HK0.out
  have HB4 := Lib.hid hb4
  clear k0 b5 hb4
  go_wp2_with fail
  clear k0' f0 k00
  obtain ⟨X3, hX3⟩ : ∃ X3, X3 = w4.setCell ⟨w1.heap.size, 1, none⟩ (.pointer (some ⟨q, 0, none⟩)) := ⟨_, rfl⟩
  rw [← hX3]
  have B5 : Hid (Blk X3 w1.heap.size 87 (cs.setIfInBounds 1 (.pointer (some ⟨q, 0, none⟩)))) := Lib.hid (by rw [hX3]; exact (B4.out.onB HB4.out).set_ 1 _)
  have H5 : Hid (Below w1.heap.size w1 X3) := Lib.hid (by rw [hX3]; exact (H4.out.trans (HB4.out.mono H4.out.size)).setCell (p := ⟨w1.heap.size, 1, none⟩) (Nat.le_refl _) _)
  have C5 : Hid (Chg [w1.heap.size] w2 X3) := Lib.hid (by rw [hX3]; exact (C4.out.trans (chg_of_below (F := []) HB4.out) (by simp)).setCell (p := ⟨w1.heap.size, 1, none⟩) (Or.inl (by simp)) _)
  have BC3 : Hid (Blk X3 c 160 #[.pointer (some ⟨gs, 0, none⟩), kc]) := Lib.hid (by rw [hX3]; exact (BC2.out.onB HB4.out).far (p := ⟨w1.heap.size, 1, none⟩) hcm _)
  clear hX3
  refine (HF.out _ _ _ _ BC3.out).mono ?_
  rintro e w5 ⟨⟨fm, rfl⟩, hb5⟩
  have b6 := B5.out.onB hb5
  have k0' : w5.cell? ⟨w1.heap.size, 2, none⟩ = some (.pointer none) := by
    rw [b6.cell 2, Array.getElem?_setIfInBounds_ne (by omega)]
    exact E2.out
  have f0 := b6.frozen 2
  have HB5 := Lib.hid hb5
  clear b6 hb5
  go_wp2_with fail
  clear k0' f0
  obtain ⟨X4, hX4⟩ : ∃ X4, X4 = w5.setCell ⟨w1.heap.size, 2, none⟩ (.pointer (some ⟨fm, 0, none⟩)) := ⟨_, rfl⟩
  rw [← hX4]
  have B6 : Blk X4 w1.heap.size 87 ((cs.setIfInBounds 1 (.pointer (some ⟨q, 0, none⟩))).setIfInBounds 2 (.pointer (some ⟨fm, 0, none⟩))) := by rw [hX4]; exact (B5.out.onB HB5.out).set_ 2 _
  have H6 : Below w1.heap.size w1 X4 := by rw [hX4]; exact (H5.out.trans (HB5.out.mono H5.out.size)).setCell (p := ⟨w1.heap.size, 2, none⟩) (Nat.le_refl _) _
  have C6 : Chg [w1.heap.size] w2 X4 := by rw [hX4]; exact (C5.out.trans (chg_of_below (F := []) HB5.out) (by simp)).setCell (p := ⟨w1.heap.size, 2, none⟩) (Or.inl (by simp)) _
  clear hX4
  go_ret2
  refine ⟨⟨_, rfl, ⟨gs, Fs, go, Fo, ls, ?_, ?_, fun j v hv => ?_, B6.lt, HST.out.on H6, HOr.out.chg C6 (fun k hk hm => ?_)⟩, HB1.out.size⟩, HB1.out.trans (H6.mono HB1.out.size)⟩
  · rw [B6.cell 3, Array.getElem?_setIfInBounds_ne (by omega), Array.getElem?_setIfInBounds_ne (by omega)]
    exact E3.out
  · rw [B6.cell 4, Array.getElem?_setIfInBounds_ne (by omega), Array.getElem?_setIfInBounds_ne (by omega)]
    exact E4.out
  · have hj : j < 257 := by
      have := (List.getElem?_eq_some_iff.1 hv).1
      simpa using this
    rw [List.getElem?_replicate, if_pos hj] at hv
    rw [B6.cell (5 + j), Array.getElem?_setIfInBounds_ne (by omega), Array.getElem?_setIfInBounds_ne (by omega), E5.out j hj]
    exact hv
  · have h1 := HFo.out k hk
    simp at hm
    omega
end Go.Proofs.YtkbanaaljebhiaaGreatDoor
