/- Contract: the document's Decode. -/
import Derived.Test.YtnlhibhamechcaaDoorScRDecA
import Derived.Deep.AppendLies
import Derived.Deep.RegionLaw
import Derived.Deep.RegionHeld3
namespace Go.Proofs.YtnlhibhamechcaaDoor
open Go.RowKit Go.Sort
set_option linter.unusedSimpArgs false
set_option linter.unusedVariables false

set_option maxRecDepth 100000 in
set_option maxHeartbeats 16000000 in
theorem rdecode_any (A : Option Addr) (n c : Nat) (bs : List Nat) (w : World) (h : BytesArg w A n c bs) (hn : n ≤ 1000) :
    Calls Tryd.prog 7 #[.slice A n c] w fun e w' => ∃ v, e = .returned v ∧ OwnS 8 Stp.cells 32 w' w.heap.size v (decode bs) ∧ Below w.heap.size w w' := by
  obtain ⟨i0, hi, hz0, hz1, hz2⟩ := info_parts info_rstp
  obtain ⟨i1, hi1, hz01, hz11, hz21⟩ := info_parts info_int
  obtain ⟨h1, h2, h3, h4, h5⟩ := h
  have H4 := Lib.hid h4
  have H5 := Lib.hid h5
  have H1 := Lib.hid h1
  clear h4 h5 h1
  go_enter Tryd.func7, Tryd.ntmps7
  go_wp2_with fail
  go_loopw [3, 4] (fun o v wr => ∃ (t : Nat) (done : List Stp), v = .int .i64 ((8 * t : Nat) : Int) ∧ 8 * t ≤ n + 8 ∧ decode bs = done ++ decode (bs.drop (8 * t)) ∧ done.length ≤ t ∧ OwnS 8 Stp.cells 32 wr w.heap.size o done ∧ Below w.heap.size w wr) (fun _ v _ => (n + 16) - (intOf v).toNat)
  case atStart => exact ⟨0, [], rfl, by omega, by simp, by simp, OwnS.nil_, Below.refl _ _⟩
  case round =>
    obtain ⟨t, done, rfl, r1, r2, r3, r4, r5⟩ := hrel
    have HD := Lib.hid r2
    have HO := Lib.hid r4
    have HB := Lib.hid r5
    have hsz := r5.size
    have HT := Lib.hid r3
    obtain ⟨a, ha⟩ : ∃ a, a = 8 * t := ⟨_, rfl⟩
    rw [← ha] at HD r1 ⊢
    have HA := Lib.hid ha
    clear r2 r4 r5 r3 ha
    by_cases hlt : a < n
    · obtain ⟨wo, rfl⟩ : ∃ wo : World, wo = wr := ⟨_, rfl⟩
      obtain ⟨blk, off, hA, hblk, hcell⟩ := H4.out (by have := H1.out; omega)
      subst hA
      have HC := Lib.hid hcell
      have HBL := Lib.hid hblk
      clear hcell hblk
      go_wp2_with (at_make; refine wp_make (f := Value.int .i64) (z := (0 : Int)) Tryd.underlying39 hi1 hz01 hz11 hz21 rfl _ rfl _ _ rfl (8 : Int) 8 rfl rfl rfl (by omega) (by unfold maxLen; omega) ?_; intro w1 hown1 hb1 hs1)
      rw [← xsAt_zero bs a] at hown1
      have HO1 := Lib.hid hown1
      have HB1 := Lib.hid hb1
      clear hown1 hb1
      go_wp2_with fail
      go_loopw [6] (fun v wi => ∃ i : Nat, i ≤ 8 ∧ v = .int .i64 (i : Int) ∧ OwnF (Value.int .i64) 3 wi wo.heap.size (.slice (some ⟨wo.heap.size, 0, none⟩) 8 8) (xsAt bs a i) ∧ Below wo.heap.size wo wi) (fun v _ => 8 - (intOf v).toNat)
      case atStart => exact ⟨0, by omega, rfl, HO1.out, HB1.out⟩
      case round =>
        obtain ⟨i, hi8, rfl, hown, hb⟩ := hrel
        have HOI := Lib.hid hown
        have HBI := Lib.hid hb
        clear hown hb
        by_cases hgo : i < 8 ∧ a + i < n
        · obtain ⟨hi9, hin⟩ := hgo
          have hat := HOI.out.at_ i (by rw [xsAt_len]; exact hi9)
          obtain ⟨u, k1⟩ : ∃ u, wr.cell? ⟨wo.heap.size, i, none⟩ = some u := ⟨_, by rw [hat.1, List.getElem?_eq_getElem (by rw [xsAt_len]; exact hi9)]; rfl⟩
          have k2 := hat.2
          have hb5 := HB.out.trans (HBI.out.mono hsz)
          have k3 := (hb5.cell (p := ⟨blk, off + (a + i), none⟩) HBL.out).trans (HC.out (a + i) (by have := H1.out; omega))
          obtain ⟨x, hx⟩ : ∃ x, x = bs[a + i]?.getD 0 := ⟨_, rfl⟩
          have hx5 : x ≤ 255 := by rw [hx]; have := getD_le H5.out (a + i); rwa [List.getD_eq_getElem?_getD] at this
          rw [← hx] at k3
          unfold Y at k3
          have HX := Lib.hid hx
          clear hat hb5 hx
          go_wp2_with fail
          go_roundw
          case rel =>
            refine ⟨i + 1, by omega, by go_num, ?_, HBI.out.setCell (p := ⟨wo.heap.size, i, none⟩) (Nat.le_refl _) _⟩
            have := HOI.out.set_ i (x : Int)
            rw [HX.out, xsAt_step] at this
            rw [HX.out]
            exact this
          case measure => simp [intOf]; omega
        · have hX : xsAt bs a i = xsAt bs a 8 := by
            rcases Nat.lt_or_ge i 8 with h8 | h8
            · exact xsAt_more bs a i (by have := H1.out; omega)
            · rw [show i = 8 by omega]
          have hown := HOI.out
          rw [hX] at hown
          have kc : ∀ j, j < 8 → wr.cell? ⟨wo.heap.size, j, none⟩ = some (.int .i64 ((bs[a + j]?.getD 0 : Nat) : Int)) := fun j hj => by
            have := (hown.at_ j (by rw [xsAt_len]; exact hj)).1
            rwa [xsAt_get bs a j hj] at this
          have gl : ∀ j, bs[a + j]?.getD 0 ≤ 255 := fun j => by have := getD_le H5.out (a + j); rwa [List.getD_eq_getElem?_getD] at this
          have k0 := kc 0 (by omega)
          have k1 := kc 1 (by omega)
          have k2 := kc 2 (by omega)
          have k3 := kc 3 (by omega)
          have k4 := kc 4 (by omega)
          have k5 := kc 5 (by omega)
          have k6 := kc 6 (by omega)
          have k7 := kc 7 (by omega)
          have y6 := gl 6
          have y7 := gl 7
          have HST := Lib.hid (step_drop bs a)
          rw [Nat.add_zero] at k0
          generalize bs[a]?.getD 0 = X0 at *
          generalize bs[a + 1]?.getD 0 = X1 at *
          generalize bs[a + 2]?.getD 0 = X2 at *
          generalize bs[a + 3]?.getD 0 = X3 at *
          generalize bs[a + 4]?.getD 0 = X4 at *
          generalize bs[a + 5]?.getD 0 = X5 at *
          generalize bs[a + 6]?.getD 0 = X6 at *
          generalize bs[a + 7]?.getD 0 = X7 at *
          have HO2 : Hid (OwnS 8 Stp.cells 32 wr w.heap.size u3 done) := Lib.hid (HO.out.chg (F := []) (chg_of_below HBI.out) (by simp))
          have HGO := Lib.hid hgo
          clear kc gl hX hown hgo
          have HLX : Hid (wo.heap.size < wr.heap.size) := Lib.hid (by
            rcases Nat.lt_or_ge wo.heap.size wr.heap.size with h | h
            · exact h
            · simp [World.cell?, Array.getElem?_eq_none h] at k0)
          have FACTS : Hid (∀ w', Below wr.heap.size wr w' → w'.cell? ⟨wo.heap.size, 0, none⟩ = some (.int .i64 (X0 : Nat)) ∧ w'.cell? ⟨wo.heap.size, 1, none⟩ = some (.int .i64 (X1 : Nat)) ∧ w'.cell? ⟨wo.heap.size, 2, none⟩ = some (.int .i64 (X2 : Nat)) ∧ w'.cell? ⟨wo.heap.size, 3, none⟩ = some (.int .i64 (X3 : Nat)) ∧ w'.cell? ⟨wo.heap.size, 4, none⟩ = some (.int .i64 (X4 : Nat)) ∧ w'.cell? ⟨wo.heap.size, 5, none⟩ = some (.int .i64 (X5 : Nat)) ∧ w'.cell? ⟨wo.heap.size, 6, none⟩ = some (.int .i64 (X6 : Nat)) ∧ w'.cell? ⟨wo.heap.size, 7, none⟩ = some (.int .i64 (X7 : Nat))) := Lib.hid fun w' hW => ⟨(hW.cell (p := ⟨wo.heap.size, 0, none⟩) HLX.out).trans k0, (hW.cell (p := ⟨wo.heap.size, 1, none⟩) HLX.out).trans k1, (hW.cell (p := ⟨wo.heap.size, 2, none⟩) HLX.out).trans k2, (hW.cell (p := ⟨wo.heap.size, 3, none⟩) HLX.out).trans k3, (hW.cell (p := ⟨wo.heap.size, 4, none⟩) HLX.out).trans k4, (hW.cell (p := ⟨wo.heap.size, 5, none⟩) HLX.out).trans k5, (hW.cell (p := ⟨wo.heap.size, 6, none⟩) HLX.out).trans k6, (hW.cell (p := ⟨wo.heap.size, 7, none⟩) HLX.out).trans k7⟩
          have HKEEP : Hid (∀ w' : World, (∀ k : Nat, k < wr.heap.size → some k ≠ u3.ownBlock → w'.heap[k]? = wr.heap[k]?) → w'.cell? ⟨wo.heap.size, 0, none⟩ = some (.int .i64 (X0 : Nat)) ∧ w'.cell? ⟨wo.heap.size, 1, none⟩ = some (.int .i64 (X1 : Nat)) ∧ w'.cell? ⟨wo.heap.size, 2, none⟩ = some (.int .i64 (X2 : Nat)) ∧ w'.cell? ⟨wo.heap.size, 3, none⟩ = some (.int .i64 (X3 : Nat)) ∧ w'.cell? ⟨wo.heap.size, 4, none⟩ = some (.int .i64 (X4 : Nat)) ∧ w'.cell? ⟨wo.heap.size, 5, none⟩ = some (.int .i64 (X5 : Nat)) ∧ w'.cell? ⟨wo.heap.size, 6, none⟩ = some (.int .i64 (X6 : Nat)) ∧ w'.cell? ⟨wo.heap.size, 7, none⟩ = some (.int .i64 (X7 : Nat))) := Lib.hid fun w' hg => by
            have hltx := HLX.out
            have hne : some wo.heap.size ≠ u3.ownBlock := fun e => by have := (HO.out.lt _ e.symm).2; omega
            have hblk : w'.heap[wo.heap.size]? = wr.heap[wo.heap.size]? := hg wo.heap.size hltx hne
            exact ⟨(World.cell?_of_block (w := wr) hblk).trans k0, (World.cell?_of_block (w := wr) hblk).trans k1, (World.cell?_of_block (w := wr) hblk).trans k2, (World.cell?_of_block (w := wr) hblk).trans k3, (World.cell?_of_block (w := wr) hblk).trans k4, (World.cell?_of_block (w := wr) hblk).trans k5, (World.cell?_of_block (w := wr) hblk).trans k6, (World.cell?_of_block (w := wr) hblk).trans k7⟩
          have HEQ := Lib.hid (stp_lits X0 X1 X2 X3 X4 X5 X6 X7 y6 y7)
          have HLN : Hid (done.length ≤ 1000000) := Lib.hid (by have := HT.out; have := HA.out; omega)
          have HSZ : Hid (w.heap.size ≤ wr.heap.size) := Lib.hid (by have := HBI.out.size; omega)
          rcases Nat.lt_or_ge i 8 with h8 | h8
          · have hge : n ≤ a + i := by have := HGO.out; omega
            go_wp2_with fail
            go_region_held3 (fun w' => w'.cell? ⟨wo.heap.size, 0, none⟩ = some (.int .i64 (X0 : Nat)) ∧ w'.cell? ⟨wo.heap.size, 1, none⟩ = some (.int .i64 (X1 : Nat)) ∧ w'.cell? ⟨wo.heap.size, 2, none⟩ = some (.int .i64 (X2 : Nat)) ∧ w'.cell? ⟨wo.heap.size, 3, none⟩ = some (.int .i64 (X3 : Nat)) ∧ w'.cell? ⟨wo.heap.size, 4, none⟩ = some (.int .i64 (X4 : Nat)) ∧ w'.cell? ⟨wo.heap.size, 5, none⟩ = some (.int .i64 (X5 : Nat)) ∧ w'.cell? ⟨wo.heap.size, 6, none⟩ = some (.int .i64 (X6 : Nat)) ∧ w'.cell? ⟨wo.heap.size, 7, none⟩ = some (.int .i64 (X7 : Nat))) ((first | exact hS3 | (refine FACTS.out _ ?_; with_reducible (first | exact Below.refl _ _ | exact (Below.refl _ _).drew | exact (Below.refl _ _).alloc (Nat.le_refl _) _ | exact (Below.refl _ _).drew.alloc (Nat.le_refl _) _ | exact ((Below.refl _ _).alloc (Nat.le_refl _) _).drew)))) (first
              | (refine step_stp wr _ HO2.out (step8 X0 X1 X2 X3 X4 X5 X6 X7) _ HEQ.out rfl HSZ.out HLN.out rfl (.tmp 36) (.tmp 78) rfl rfl rfl ?_; intro v3 w3 hown3 hb3 hk3; have hS3 := HKEEP.out _ hk3; have HO3 := Lib.hid hown3; have HB3 := Lib.hid hb3; clear hown3 hb3 hk3)
              | fail)
            go_wp2_with fail
            go_roundw
            case rel =>
              refine ⟨t + 1, done ++ [stepOf (bs.drop a)], congrArg (Value.int .i64) (by have := HA.out; omega), by have := HA.out; omega, ?_, by have := HT.out; simp; omega, by rw [HST.out]; exact HO3.out, (HB.out.trans (HBI.out.mono hsz)).trans HB3.out⟩
              have hne : bs.drop a ≠ [] := fun e => by have := congrArg List.length e; rw [List.length_drop] at this; have := H1.out; simp at *; omega
              rw [HD.out, decode_cons hne, step_take, List.drop_drop, show a + 8 = 8 * (t + 1) by have := HA.out; omega]
              simp
            case measure => have := HA.out; simp [intOf]; omega
          · obtain rfl : i = 8 := by omega
            go_wp2_with fail
            go_region_held3 (fun w' => w'.cell? ⟨wo.heap.size, 0, none⟩ = some (.int .i64 (X0 : Nat)) ∧ w'.cell? ⟨wo.heap.size, 1, none⟩ = some (.int .i64 (X1 : Nat)) ∧ w'.cell? ⟨wo.heap.size, 2, none⟩ = some (.int .i64 (X2 : Nat)) ∧ w'.cell? ⟨wo.heap.size, 3, none⟩ = some (.int .i64 (X3 : Nat)) ∧ w'.cell? ⟨wo.heap.size, 4, none⟩ = some (.int .i64 (X4 : Nat)) ∧ w'.cell? ⟨wo.heap.size, 5, none⟩ = some (.int .i64 (X5 : Nat)) ∧ w'.cell? ⟨wo.heap.size, 6, none⟩ = some (.int .i64 (X6 : Nat)) ∧ w'.cell? ⟨wo.heap.size, 7, none⟩ = some (.int .i64 (X7 : Nat))) ((first | exact hS3 | (refine FACTS.out _ ?_; with_reducible (first | exact Below.refl _ _ | exact (Below.refl _ _).drew | exact (Below.refl _ _).alloc (Nat.le_refl _) _ | exact (Below.refl _ _).drew.alloc (Nat.le_refl _) _ | exact ((Below.refl _ _).alloc (Nat.le_refl _) _).drew)))) (first
              | (refine step_stp wr _ HO2.out (step8 X0 X1 X2 X3 X4 X5 X6 X7) _ HEQ.out rfl HSZ.out HLN.out rfl (.tmp 36) (.tmp 78) rfl rfl rfl ?_; intro v3 w3 hown3 hb3 hk3; have hS3 := HKEEP.out _ hk3; have HO3 := Lib.hid hown3; have HB3 := Lib.hid hb3; clear hown3 hb3 hk3)
              | fail)
            go_wp2_with fail
            go_roundw
            case rel =>
              refine ⟨t + 1, done ++ [stepOf (bs.drop a)], congrArg (Value.int .i64) (by have := HA.out; omega), by have := HA.out; omega, ?_, by have := HT.out; simp; omega, by rw [HST.out]; exact HO3.out, (HB.out.trans (HBI.out.mono hsz)).trans HB3.out⟩
              have hne : bs.drop a ≠ [] := fun e => by have := congrArg List.length e; rw [List.length_drop] at this; have := H1.out; simp at *; omega
              rw [HD.out, decode_cons hne, step_take, List.drop_drop, show a + 8 = 8 * (t + 1) by have := HA.out; omega]
              simp
            case measure => have := HA.out; simp [intOf]; omega
    · have hdr : bs.drop a = [] := List.drop_eq_nil_of_le (by have := H1.out; omega)
      go_wp2_with fail
      go_ret
      refine ⟨_, rfl, ?_, HB.out⟩
      rw [HD.out, hdr, decode_nil, List.append_nil]
      exact HO.out
end Go.Proofs.YtnlhibhamechcaaDoor
