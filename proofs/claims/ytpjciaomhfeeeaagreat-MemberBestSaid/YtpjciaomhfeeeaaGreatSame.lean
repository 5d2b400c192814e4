/- Contract: ramagelaw11.Same. -/
import Derived.Test.YtpjciaomhfeeeaaGreatBuilt
namespace Go.Proofs.YtpjciaomhfeeeaaGreat
open Go.RowKit Go.Sort
set_option linter.unusedSimpArgs false
set_option linter.unusedVariables false

theorem recB_ne {f t b0 lt lp ht hp f' t' b' lt' lp' ht' hp' : Int} (h : ¬ (f = f' ∧ t = t' ∧ b0 = b' ∧ lt = lt' ∧ lp = lp' ∧ ht = ht' ∧ hp = hp')) : True := trivial
theorem neq_same (a : Rec) (w : World) : (binOp .neq 62 (.agg a.cells.toArray) (.agg a.cells.toArray)).run Tryz.prog w = .ok (.bool false) w := by
  obtain ⟨f', t', b', ⟨lt', lp'⟩, ⟨ht', hp'⟩⟩ := a
  simp only [Rec.cells]
  go_simp
theorem StoreAt.idOf_at {w : World} {F : List Nat} {g n room : Nat} {rs : List Rec} (h : StoreAt w F g n room (rs.map some) []) {i : Nat} {r : Rec} (hr : rs[i]? = some r) : idOf (rs.map some) r = some (i + 2) := by
  obtain ⟨ga, gi, Fa, Fi, m, h1, h2, h3, h4, _⟩ := h
  rw [← idOf_eq h4, h4, recAt_map]
  rw [if_pos (by have := (List.getElem?_eq_some_iff.1 hr).1; omega), show ((i + 2 : Nat) : Int) - 2 = (i : Nat) by omega, Int.toNat_natCast]
  exact hr
theorem recAt_at {rs : List Rec} {i : Nat} {r : Rec} (hr : rs[i]? = some r) : recAt (rs.map some) ((i : Int) + 2) = some r := by
  rw [recAt_map, if_pos (by have := (List.getElem?_eq_some_iff.1 hr).1; omega), show ((i : Int) + 2) - 2 = (i : Nat) by omega, Int.toNat_natCast]
  exact hr
set_option maxRecDepth 100000 in
set_option maxHeartbeats 4000000 in
theorem stSame_any (F F' : List Nat) (g g' n room : Nat) (rs : List Rec) (w : World) (hS : StoreAt w F g n room (rs.map some) []) (hR : RefAt w F' g' n room rs) :
    Calls Tryz.prog 14 #[.pointer (some ⟨g, 0, none⟩), .pointer (some ⟨g', 0, none⟩)] w fun e w' => e = .returned (.bool true) ∧ Below w.heap.size w w' := by
  have hlen : rs.length ≤ 1048576 := by have := hS.ok.len; have := hS.ok.room20; rw [List.length_map] at *; omega
  have HS := Lib.hid hS
  have HWF : Hid (∀ (i : Nat) (r : Rec), rs[i]? = some r → r.Wf) := Lib.hid fun i r hr => hS.ok.wf i r (by rw [List.getElem?_map, hr]; rfl)
  obtain ⟨A, len, c, hB, hO, hl, hFe, hnd⟩ := hR
  obtain rfl : rs.length = len := hl
  have HB := Lib.hid hB
  have HO := Lib.hid hO
  have a0 : w.cell? ⟨g', 0, none⟩ = some (.slice A rs.length c) := hB.cell 0
  have a3 : w.cell? ⟨g', 3, none⟩ = some (.int .i64 (n : Nat)) := hB.cell 3
  have a4 : w.cell? ⟨g', 4, none⟩ = some (.int .i64 (room : Nat)) := hB.cell 4
  have HLE : Hid (∀ W : World, Below w.heap.size w W → Calls Tryz.prog 32 #[.pointer (some ⟨g, 0, none⟩)] W fun e w' => e = .returned (.int .i64 (rs.length : Nat)) ∧ W = w') := Lib.hid fun W hW => by
    have := storeLen_any F g n room _ [] W (hS.on hW)
    rwa [cntC_map] at this
  have HGE := Lib.hid (fun (i : Nat) (r : Rec) (hr : rs[i]? = some r) (W' : World) (hW' : Below w.heap.size w W') => storeGet_any F g n room _ [] ((i : Int) + 2) W' (HS.out.on hW') (by omega) (by have := (List.getElem?_eq_some_iff.1 hr).1; omega))
  have HHA := Lib.hid (fun (i : Nat) (r : Rec) (hr : rs[i]? = some r) (W' : World) (hW' : Below w.heap.size w W') => storeHas_any F g n room _ [] r W' (HS.out.on hW') (HWF.out i r hr))
  have HNE := Lib.hid neq_same
  clear hS hB hO hFe hnd
  go_enter Tryz.func14, Tryz.ntmps14
  go_wp2_with fail
  go_quiet ((first | (with_reducible exact q_same (HLE.out _ (below_drewN (Below.refl _ _) _))) | (with_reducible exact q_same (storeVars_any F g n room _ [] _ (HS.out.on (below_drewN (Below.refl _ _) _)))) | (with_reducible exact q_same (storeRoom_any F g n room _ [] _ (HS.out.on (below_drewN (Below.refl _ _) _)))) | fail))
  go_wp2_with fail
  clear a0 a3 a4
  go_loopw [5] (fun s5 wr => Below w.heap.size w wr ∧ ∃ k : Nat, k ≤ rs.length ∧ s5 = .int .i64 k) (fun s5 _ => rs.length - (intOf s5).toNat)
  case atStart => exact ⟨below_drewN (Below.refl _ _) _, 0, Nat.zero_le _, rfl⟩
  case round =>
    obtain ⟨hbr, k, hk, rfl⟩ := hrel
    have hBr := HB.out.on' hbr
    have a0 : wr.cell? ⟨g', 0, none⟩ = some (.slice A rs.length c) := hBr.cell 0
    have Hbr := Lib.hid hbr
    by_cases hkl : k < rs.length
    · obtain ⟨r, hr⟩ : ∃ r, rs[k]? = some r := ⟨_, List.getElem?_eq_getElem hkl⟩
      have hOr := HO.out.chg (F := []) (chg_of_below hbr) (by simp)
      obtain ⟨b9, c0, hv, _, hbl, hcl⟩ := OwnS.head hOr (by rw [nodesOf_len]; omega)
      injection hv with e1 e2 e3
      subst e1
      subst e3
      have HAT : Hid (∀ W, Below wr.heap.size wr W → W.rangeAt b9 (k * 8) (nodeEnc (((k + 2 : Nat) : Int), r))) := Lib.hid fun W hW => (OwnS.at_ nodeEnc_len (hOr.chg (F := []) (chg_of_below hW) (by simp)) k _ (nodesOf_get hr)).1
      have HCA : Hid (((k + 2 : Nat) : Int) = (k : Int) + 2) := Lib.hid (by omega)
      have ki : wr.cell? ⟨b9, k * 8, none⟩ = some (.int .u32 ((k : Int) + 2)) := by rw [← HCA.out]; exact HAT.out wr (Below.refl _ _) 0 _ rfl
      have HR := Lib.hid hr
      have HRA := Lib.hid (recAt_at hr)
      have HID := Lib.hid (HS.out.idOf_at hr)
      clear hr hOr hbr hBr e2
      go_wp2_with fail
      refine (HGE.out k r HR.out _ Hbr.out).mono ?_
      rintro e w2 ⟨rfl, hb2⟩
      rw [HRA.out]
      unfold getR
      obtain ⟨rf, rt, rb, ⟨rlt, rlp⟩, ⟨rht, rhp⟩⟩ := r
      simp only [Rec.cells]
      have hB2 := HB.out.on' (Hbr.out.trans (hb2.mono Hbr.out.size))
      have hat2 := HAT.out w2 hb2
      have a0 : w2.cell? ⟨g', 0, none⟩ = some (.slice (some ⟨b9, 0, none⟩) rs.length c) := hB2.cell 0
      have hg2 := hB2.lt
      have hb9 : b9 < w2.heap.size := Nat.lt_of_lt_of_le hbl hb2.size
      have k0 : w2.cell? ⟨b9, k * 8 + 1, none⟩ = some (.int .u8 rf) := hat2 1 _ rfl
      have k1 : w2.cell? ⟨b9, k * 8 + 2, none⟩ = some (.int .u8 rt) := hat2 2 _ rfl
      have k2 : w2.cell? ⟨b9, k * 8 + 3, none⟩ = some (.int .u8 rb) := hat2 3 _ rfl
      have k3 : w2.cell? ⟨b9, k * 8 + 4, none⟩ = some (.int .u8 rlt) := hat2 4 _ rfl
      have k4 : w2.cell? ⟨b9, k * 8 + 5, none⟩ = some (.int .u32 rlp) := hat2 5 _ rfl
      have k5 : w2.cell? ⟨b9, k * 8 + 6, none⟩ = some (.int .u8 rht) := hat2 6 _ rfl
      have k6 : w2.cell? ⟨b9, k * 8 + 7, none⟩ = some (.int .u32 rhp) := hat2 7 _ rfl
      have HB2 := Lib.hid hb2
      clear ki hb2 hB2 hat2
      go_wp2_with fail
      clear a0 k0 k1 k2 k3 k4 k5 k6 hg2 hb9
      have hbR : Below w.heap.size w (w2.alloc (.cells #[.int .u8 rf, .int .u8 rt, .int .u8 rb, .int .u8 rlt, .int .u32 rlp, .int .u8 rht, .int .u32 rhp] 62)) := (Hbr.out.trans (HB2.out.mono Hbr.out.size)).alloc (by have := Hbr.out.size; have := HB2.out.size; omega) _
      refine (HHA.out k _ HR.out _ hbR).mono ?_
      rintro e w3 ⟨rfl, hb3⟩
      rw [HID.out]
      unfold getV
      have hB3 := HB.out.on' (hbR.trans (hb3.mono hbR.size))
      have hat3 := HAT.out w3 ((HB2.out.alloc HB2.out.size _).trans (hb3.mono (by have := HB2.out.size; simp; omega)))
      have hBR := (Blk.new w2 62 #[.int .u8 rf, .int .u8 rt, .int .u8 rb, .int .u8 rlt, .int .u32 rlp, .int .u8 rht, .int .u32 rhp]).on' hb3
      have a0 : w3.cell? ⟨g', 0, none⟩ = some (.slice (some ⟨b9, 0, none⟩) rs.length c) := hB3.cell 0
      have ki : w3.cell? ⟨b9, k * 8, none⟩ = some (.int .u32 ((k : Int) + 2)) := by rw [← HCA.out]; exact hat3 0 _ rfl
      have k0 : w3.cell? ⟨b9, k * 8 + 1, none⟩ = some (.int .u8 rf) := hat3 1 _ rfl
      have k1 : w3.cell? ⟨b9, k * 8 + 2, none⟩ = some (.int .u8 rt) := hat3 2 _ rfl
      have k2 : w3.cell? ⟨b9, k * 8 + 3, none⟩ = some (.int .u8 rb) := hat3 3 _ rfl
      have k3 : w3.cell? ⟨b9, k * 8 + 4, none⟩ = some (.int .u8 rlt) := hat3 4 _ rfl
      have k4 : w3.cell? ⟨b9, k * 8 + 5, none⟩ = some (.int .u32 rlp) := hat3 5 _ rfl
      have k5 : w3.cell? ⟨b9, k * 8 + 6, none⟩ = some (.int .u8 rht) := hat3 6 _ rfl
      have k6 : w3.cell? ⟨b9, k * 8 + 7, none⟩ = some (.int .u32 rhp) := hat3 7 _ rfl
      have r0 : w3.cell? ⟨w2.heap.size, 0, none⟩ = some (.int .u8 rf) := hBR.cell 0
      have r1 : w3.cell? ⟨w2.heap.size, 1, none⟩ = some (.int .u8 rt) := hBR.cell 1
      have r2 : w3.cell? ⟨w2.heap.size, 2, none⟩ = some (.int .u8 rb) := hBR.cell 2
      have r3 : w3.cell? ⟨w2.heap.size, 3, none⟩ = some (.int .u8 rlt) := hBR.cell 3
      have r4 : w3.cell? ⟨w2.heap.size, 4, none⟩ = some (.int .u32 rlp) := hBR.cell 4
      have r5 : w3.cell? ⟨w2.heap.size, 5, none⟩ = some (.int .u8 rht) := hBR.cell 5
      have r6 : w3.cell? ⟨w2.heap.size, 6, none⟩ = some (.int .u32 rhp) := hBR.cell 6
      have HB3 : Hid (Below w.heap.size w w3) := Lib.hid (hbR.trans (hb3.mono hbR.size))
      have hcast : ((k + 2 : Nat) : Int) = (k : Int) + 2 := HCA.out
      have hne := fun W => HNE.out ⟨rf, rt, rb, ⟨rlt, rlp⟩, ⟨rht, rhp⟩⟩ W
      simp only [Rec.cells] at hne
      simp only [hcast]
      clear hbR hb3 hB3 hat3 hBR hcast
      go_wp2_with fail
      go_quiet (fail)
      go_wp2_with fail
      clear a0 ki k0 k1 k2 k3 k4 k5 k6 r0 r1 r2 r3 r4 r5 r6 hne
      go_roundw
      case rel => exact ⟨below_drewN HB3.out _, k + 1, by omega, by go_num⟩
      case measure => simp [intOf]; omega
    · go_wp2_with fail
      go_ret
      exact ⟨rfl, Hbr.out⟩
end Go.Proofs.YtpjciaomhfeeeaaGreat
