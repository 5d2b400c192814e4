/- The walks of ZddMakes, ZddViews, ZddRights. -/
import Derived.Test.YtfcklfpgjadfmaaZddNil
import Derived.Test.YtfcklfpgjadfmaaRefZddView
import Derived.Test.YtfcklfpgjadfmaaSame
import Derived.Test.YtfcklfpgjadfmaaRightP
namespace Go.Proofs.Ytfcklfpgjadfmaa
open Go.RowKit Go.Sort
set_option linter.unusedSimpArgs false
set_option linter.unusedVariables false

/-- behind a Make of the program's store -/
theorem zboth_make {w wr w1 : World} {F F' : List Nat} {g g' n room : Nat} {rs : List Rec} {l : Int} {lo hi : Edg} (hS : StoreAt wr F g n room (rs.map some) []) (hR : RefAt wr F' g' n room rs) (hd : ∀ x ∈ F, ¬ x ∈ F') (hF : ∀ x ∈ F, w.heap.size ≤ x) (hb : Below w.heap.size w wr)
    (h : Turns (fun W X => StoreAt W X g n room (makeE true n room (rs.map some) l lo hi).2.2 []) F wr w1) : ∃ F2, StoreAt w1 F2 g n room ((makeR true n room rs l lo hi).2.2.map some) [] ∧ RefAt w1 F' g' n room rs ∧ (∀ x ∈ F2, ¬ x ∈ F') ∧ (∀ x ∈ F2, w.heap.size ≤ x) ∧ Below w.heap.size w w1 := by
  rw [makeR_eq] at h
  exact Both.store hR hS hd hF hb h
set_option maxRecDepth 100000 in
set_option maxHeartbeats 4000000 in
theorem zmakes_walk (n0 room0 : Int) (A : Option Addr) (len c : Nat) (rl : List Rec) (l : Int) (lo hi : Edg) (w : World) (hr : RecsArg w A len c rl) (hlo : lo.Wf) (hhi : hi.Wf) : Calls Try.prog 8 #[.int .i64 n0, .int .i64 room0, .slice A len c, .int .i64 l, .agg lo.cells.toArray, .agg hi.cells.toArray] w fun e w' => e = .returned (.bool true) ∧ Below w.heap.size w w' := by
  have HloW := Lib.hid hlo
  obtain ⟨lot, lop⟩ := lo
  have HhiW := Lib.hid hhi
  obtain ⟨hit, hip⟩ := hi
  simp only [Edg.cells]
  obtain ⟨W, hW⟩ : ∃ W, W = ((w.alloc (.cells #[.int .u8 lot, .int .u32 lop] 35)).alloc (.cells #[.int .u8 hit, .int .u32 hip] 35)) := ⟨_, rfl⟩
  have hB0 : Blk W w.heap.size 35 #[.int .u8 lot, .int .u32 lop] := by rw [hW]; exact (Blk.new w _ _).alloc _
  have hB1 : Blk W (w.heap.size + 1) 35 #[.int .u8 hit, .int .u32 hip] := by rw [hW]; exact Blk.new_at (by simp) _ _
  have hbW : Below w.heap.size w W := by rw [hW]; exact ((Below.refl _ _).alloc (Nat.le_refl _) _).alloc (by simp) _
  have FB : Hid (∀ W', Below W.heap.size W W' → Blk W' w.heap.size 35 #[.int .u8 lot, .int .u32 lop] ∧ Blk W' (w.heap.size + 1) 35 #[.int .u8 hit, .int .u32 hip]) := Lib.hid fun W' hW' => ⟨hB0.on' hW', hB1.on' hW'⟩
  have HWS : Hid (W.heap.size = w.heap.size + 2) := Lib.hid (by rw [hW]; simp)
  have HWW := Lib.hid hW
  have HbW := Lib.hid hbW
  have HRA := Lib.hid hr
  clear hB0 hB1 hbW hr hlo hhi
  by_cases hin : len ≤ 40 ∧ 0 ≤ n0 ∧ n0 ≤ 16 ∧ 0 ≤ room0 ∧ room0 ≤ 100
  · obtain ⟨hl40, hn1, hn2, hr1, hr2⟩ := hin
    obtain ⟨n, rfl⟩ : ∃ n : Nat, n0 = n := ⟨n0.toNat, by omega⟩
    obtain ⟨room, rfl⟩ : ∃ room : Nat, room0 = room := ⟨room0.toNat, by omega⟩
    go_enter Try.func8, Try.ntmps8
    go_wp2_with fail
    rw [← HWW.out]
    clear hW
    refine (zalive_any _).mono ?_
    rintro e w1 ⟨rfl, hb1⟩
    have hrow := (HRA.out.2.2.2.1).on (HbW.out.trans (hb1.mono HbW.out.size))
    go_wp2_with fail
    refine (built_any n room A _ _ _ _ (by omega) (by omega) HRA.out.1 (by omega) hrow HRA.out.2.2.2.2).mono ?_
    rintro e w2 ⟨g, g', rfl, F, F', hS, hR, hd, hF, hF', hb2⟩
    have hok := builtR_ok n room _ HRA.out.2.2.2.2
    have hrk := recsOk_built n room rl
    generalize builtR n room _ = rs at hS hR hok hrk
    have HRK := Lib.hid hrk
    have HOK := Lib.hid hok
    have HN : Hid (n ≤ 16 ∧ room ≤ 1048576) := Lib.hid ⟨by omega, by omega⟩
    have hB12 : Below W.heap.size W w2 := hb1.trans (hb2.mono hb1.size)
    have HB1S := Lib.hid hb1.size
    clear hrow hok hrk
    have HME : Hid (makeE true n room (rs.map some) l ⟨lot, lop⟩ ⟨hit, hip⟩ = ((makeR true n room rs l ⟨lot, lop⟩ ⟨hit, hip⟩).1, (makeR true n room rs l ⟨lot, lop⟩ ⟨hit, hip⟩).2.1, (makeR true n room rs l ⟨lot, lop⟩ ⟨hit, hip⟩).2.2.map some)) := Lib.hid makeR_eq
    have HBM := Lib.hid (fun w3 => @zboth_make w1 w2 w3 F F' g g' n room rs l ⟨lot, lop⟩ ⟨hit, hip⟩ hS hR hd hF hb2)
    have HMA := Lib.hid (zmake_any F g n room _ l ⟨lot, lop⟩ ⟨hit, hip⟩ w2 hS HloW.out HhiW.out)
    have HFP := Lib.hid hF'
    simp only [Edg.cells] at HMA
    have hg2 : g < w2.heap.size := hS.lt g hS.mem
    clear hS hR hd hF hF' hb2 hg2
    have a0 : w2.cell? ⟨w.heap.size, 0, none⟩ = some (.int .u8 lot) := (FB.out w2 hB12).1.cell 0
    have a1 : w2.cell? ⟨w.heap.size, 1, none⟩ = some (.int .u32 lop) := (FB.out w2 hB12).1.cell 1
    have a2 : w2.cell? ⟨w.heap.size + 1, 0, none⟩ = some (.int .u8 hit) := (FB.out w2 hB12).2.cell 0
    have a3 : w2.cell? ⟨w.heap.size + 1, 1, none⟩ = some (.int .u32 hip) := (FB.out w2 hB12).2.cell 1
    have HB12 := Lib.hid hB12
    have HB1 := Lib.hid hb1
    clear hB12 hb1
    go_wp2_with fail
    refine HMA.out.mono ?_
    rintro e w3 ⟨rfl, hT⟩
    obtain ⟨F2, hS3, hR3, hd3, hF3, hb3⟩ := HBM.out w3 hT
    have hF3' := HFP.out
    have hB13 : Below W.heap.size W w3 := HB1.out.trans (hb3.mono HB1.out.size)
    rw [HME.out]
    generalize hx : makeR true n room rs l ⟨lot, lop⟩ ⟨hit, hip⟩ = x at *
    have HX := Lib.hid hx
    obtain ⟨⟨et, ep⟩, er, rs2⟩ := x
    have her : er ≤ 6 := by have := makeR_er true n room rs l ⟨lot, lop⟩ ⟨hit, hip⟩; rw [hx] at this; exact this
    simp only [Edg.cells]
    simp only at hS3
    clear hx hT
    have hs13 := hB13.size
    have hws := HWS.out
    have q0 : w.heap.size < w3.heap.size := by omega
    have q1 : w.heap.size + 1 < w3.heap.size := by omega
    have a0 : w3.cell? ⟨w.heap.size, 0, none⟩ = some (.int .u8 lot) := (FB.out w3 hB13).1.cell 0
    have a1 : w3.cell? ⟨w.heap.size, 1, none⟩ = some (.int .u32 lop) := (FB.out w3 hB13).1.cell 1
    have a2 : w3.cell? ⟨w.heap.size + 1, 0, none⟩ = some (.int .u8 hit) := (FB.out w3 hB13).2.cell 0
    have a3 : w3.cell? ⟨w.heap.size + 1, 1, none⟩ = some (.int .u32 hip) := (FB.out w3 hB13).2.cell 1
    have HB13 := Lib.hid hB13
    have hW4 : Below w3.heap.size w3 (w3.alloc (.cells #[.int .u8 et, .int .u32 ep] 35)) := (Below.refl _ _).alloc (Nat.le_refl _) _
    have HRM := Lib.hid (rzmake_any F' g' n room rs l ⟨lot, lop⟩ ⟨hit, hip⟩ (w3.alloc (.cells #[.int .u8 et, .int .u32 ep] 35)) (hR3.on hW4) HloW.out HhiW.out HOK.out.2 HN.out.1 HN.out.2 HOK.out.1)
    simp only [Edg.cells] at HRM
    have HBR := Lib.hid (fun w4 => @Both.ref w1 (w3.alloc (.cells #[.int .u8 et, .int .u32 ep] 35)) w4 g g' n room [] rs2 F2 F' _ (hS3.on hW4) hd3 hF3' (hb3.alloc hb3.size _))
    have HBE := Lib.hid (Blk.new w3 35 #[.int .u8 et, .int .u32 ep])
    have HNE : Hid (¬ w3.heap.size ∈ F') := Lib.hid (fun h => by have := hR3.lt _ h; omega)
    clear hB13 hS3 hR3 hd3 hF3 hF3' hb3 hW4 hs13 hws
    go_wp2_with fail
    refine HRM.out.mono ?_
    rintro e w4 ⟨rfl, hT⟩
    have hT' := hT
    rw [HX.out] at hT' ⊢
    obtain ⟨F4, hR4, hS4, hd4, hF4, hb4⟩ := HBR.out w4 hT'
    have hE4 := HBE.out.chg hT.2 HNE.out
    have e0 : w4.cell? ⟨w3.heap.size, 0, none⟩ = some (.int .u8 et) := hE4.cell 0
    have e1 : w4.cell? ⟨w3.heap.size, 1, none⟩ = some (.int .u32 ep) := hE4.cell 1
    have e2 := hE4.lt
    have HB4 := Lib.hid hb4
    have hW5 : Below w4.heap.size w4 (w4.alloc (.cells #[.int .u8 et, .int .u32 ep] 35)) := (Below.refl _ _).alloc (Nat.le_refl _) _
    have HSA := Lib.hid (same_any F2 F4 g g' n room rs2 _ (hS4.on hW5) (hR4.on hW5))
    clear hT hT' hR4 hS4 hd4 hF4 hb4 hE4 hW5 a0 a1 a2 a3 q0 q1
    simp only [Edg.cells]
    go_wp2_with fail
    refine HSA.out.mono ?_
    rintro e w5 ⟨rfl, hb5⟩
    go_wp2_with fail
    go_ret
    have h4 := HB4.out.alloc HB4.out.size (.cells #[.int .u8 et, .int .u32 ep] 35)
    have h5 := h4.trans (hb5.mono h4.size)
    exact ⟨rfl, HbW.out.trans ((HB1.out.trans (h5.mono HB1.out.size)).mono HbW.out.size)⟩
  · skip
    have hout : 40 < len ∨ n0 < 0 ∨ 16 < n0 ∨ room0 < 0 ∨ 100 < room0 := by omega
    clear hin
    rcases hout with hh | hh | hh | hh | hh
    all_goals
      go_enter Try.func8, Try.ntmps8
      go_wp2_with fail
      rw [← HWW.out]
      clear hW
      refine (zalive_any _).mono ?_
      rintro e w1 ⟨rfl, hb1⟩
      go_wp2_with fail
      all_goals
        go_ret
        exact ⟨rfl, HbW.out.trans (hb1.mono HbW.out.size)⟩
set_option maxRecDepth 100000 in
set_option maxHeartbeats 4000000 in
theorem zviews_walk (n0 room0 : Int) (A : Option Addr) (len c : Nat) (rl : List Rec) (e : Edg) (l : Int) (w : World) (hr : RecsArg w A len c rl) (he : e.Wf) : Calls Try.prog 16 #[.int .i64 n0, .int .i64 room0, .slice A len c, .agg e.cells.toArray, .int .i64 l] w fun e w' => e = .returned (.bool true) ∧ Below w.heap.size w w' := by
  have HeW := Lib.hid he
  obtain ⟨et, ep⟩ := e
  simp only [Edg.cells]
  obtain ⟨W, hW⟩ : ∃ W, W = (w.alloc (.cells #[.int .u8 et, .int .u32 ep] 35)) := ⟨_, rfl⟩
  have hB0 : Blk W w.heap.size 35 #[.int .u8 et, .int .u32 ep] := by rw [hW]; exact Blk.new w _ _
  have hbW : Below w.heap.size w W := by rw [hW]; exact (Below.refl _ _).alloc (Nat.le_refl _) _
  have FB : Hid (∀ W', Below W.heap.size W W' → Blk W' w.heap.size 35 #[.int .u8 et, .int .u32 ep]) := Lib.hid fun W' hW' => hB0.on' hW'
  have HWS : Hid (W.heap.size = w.heap.size + 1) := Lib.hid (by rw [hW]; simp)
  have HWW := Lib.hid hW
  have HbW := Lib.hid hbW
  have HRA := Lib.hid hr
  clear hB0 hbW hr he
  by_cases hin : len ≤ 40 ∧ 0 ≤ n0 ∧ n0 ≤ 16 ∧ 0 ≤ room0 ∧ room0 ≤ 100
  · obtain ⟨hl40, hn1, hn2, hr1, hr2⟩ := hin
    obtain ⟨n, rfl⟩ : ∃ n : Nat, n0 = n := ⟨n0.toNat, by omega⟩
    obtain ⟨room, rfl⟩ : ∃ room : Nat, room0 = room := ⟨room0.toNat, by omega⟩
    go_enter Try.func16, Try.ntmps16
    go_wp2_with fail
    rw [← HWW.out]
    clear hW
    refine (zalive_any _).mono ?_
    rintro e w1 ⟨rfl, hb1⟩
    have hrow := (HRA.out.2.2.2.1).on (HbW.out.trans (hb1.mono HbW.out.size))
    go_wp2_with fail
    refine (built_any n room A _ _ _ _ (by omega) (by omega) HRA.out.1 (by omega) hrow HRA.out.2.2.2.2).mono ?_
    rintro e w2 ⟨g, g', rfl, F, F', hS, hR, hd, hF, hF', hb2⟩
    have hok := builtR_ok n room _ HRA.out.2.2.2.2
    have hrk := recsOk_built n room rl
    generalize builtR n room _ = rs at hS hR hok hrk
    have HRK := Lib.hid hrk
    have HOK := Lib.hid hok
    have HN : Hid (n ≤ 16 ∧ room ≤ 1048576) := Lib.hid ⟨by omega, by omega⟩
    have hB12 : Below W.heap.size W w2 := hb1.trans (hb2.mono hb1.size)
    have HB1S := Lib.hid hb1.size
    clear hrow hok hrk
    have HVA := Lib.hid (zview_any F g n room _ ⟨et, ep⟩ l w2 hS HeW.out)
    simp only [Edg.cells] at HVA
    have hvr := fun (W' : World) (hW' : Below w2.heap.size w2 W') => rzview_any F' g' n room rs ⟨et, ep⟩ l W' (hR.on hW') HeW.out HOK.out.2 (by have := HOK.out.1; have := HN.out.2; omega)
    simp only [Edg.cells] at hvr
    have HVR := Lib.hid hvr
    have HSA := Lib.hid (fun (W' : World) (hW' : Below w2.heap.size w2 W') => same_any F F' g g' n room rs W' (hS.on hW') (hR.on hW'))
    have hvc : (viewE true n (rs.map some) ⟨et, ep⟩ l).2.2 ≤ 6 := viewE_er true n _ _ _
    generalize hx : viewE true n (rs.map some) ⟨et, ep⟩ l = x at *
    have HX := Lib.hid hx
    obtain ⟨⟨xt, xp⟩, ⟨yt, yp⟩, er⟩ := x
    simp only at hvc
    clear hS hR hd hF hF' hb2 hx hvr
    have a0 : w2.cell? ⟨w.heap.size, 0, none⟩ = some (.int .u8 et) := (FB.out w2 hB12).cell 0
    have a1 : w2.cell? ⟨w.heap.size, 1, none⟩ = some (.int .u32 ep) := (FB.out w2 hB12).cell 1
    have HB12 := Lib.hid hB12
    clear hB12 hb1
    go_wp2_with fail
    refine HVA.out.mono ?_
    rintro e w3 ⟨rfl, hb3⟩
    simp only [Edg.cells]
    have hB13 : Below W.heap.size W w3 := HB12.out.trans (hb3.mono HB12.out.size)
    have hs13 := hB13.size
    have hws := HWS.out
    have q0 : w.heap.size < w3.heap.size := by omega
    have q0' : w.heap.size < w3.heap.size + 1 := by omega
    have c0 : w3.cell? ⟨w.heap.size, 0, none⟩ = some (.int .u8 et) := (FB.out w3 hB13).cell 0
    have c1 : w3.cell? ⟨w.heap.size, 1, none⟩ = some (.int .u32 ep) := (FB.out w3 hB13).cell 1
    have hb4 : Below w2.heap.size w2 ((w3.alloc (.cells #[.int .u8 xt, .int .u32 xp] 35)).alloc (.cells #[.int .u8 yt, .int .u32 yp] 35)) := (hb3.alloc hb3.size _).alloc (by have := hb3.size; simp; omega) _
    have HVR4 := Lib.hid (HVR.out _ hb4)
    have hk1 := (Blk.new w3 35 #[.int .u8 xt, .int .u32 xp]).alloc (.cells #[.int .u8 yt, .int .u32 yp] 35)
    have hk2 := Blk.new_at (w := w3.alloc (.cells #[.int .u8 xt, .int .u32 xp] 35)) (H := w3.heap.size + 1) (by simp) 35 #[.int .u8 yt, .int .u32 yp]
    have HK1 := Lib.hid hk1
    have HK2 := Lib.hid hk2
    have HB4 := Lib.hid hb4
    clear hb3 hB13 hs13 hws hb4 hk1 hk2 a0 a1
    go_wp2_with fail
    refine HVR4.out.mono ?_
    rintro e w5 ⟨rfl, hb5⟩
    simp only [Edg.cells]
    have hk1 := HK1.out.on' hb5
    have hk2 := HK2.out.on' hb5
    have hb25 := HB4.out.trans (hb5.mono HB4.out.size)
    have e0 : w5.cell? ⟨w3.heap.size, 0, none⟩ = some (.int .u8 xt) := hk1.cell 0
    have e1 : w5.cell? ⟨w3.heap.size, 1, none⟩ = some (.int .u32 xp) := hk1.cell 1
    have f0 : w5.cell? ⟨w3.heap.size + 1, 0, none⟩ = some (.int .u8 yt) := hk2.cell 0
    have f1 : w5.cell? ⟨w3.heap.size + 1, 1, none⟩ = some (.int .u32 yp) := hk2.cell 1
    have r0 := hk1.lt
    have r1 := hk2.lt
    have r0' : w3.heap.size < w5.heap.size + 1 := by omega
    have r1' : w3.heap.size + 1 < w5.heap.size + 1 := by omega
    have hb6 : Below w2.heap.size w2 ((w5.alloc (.cells #[.int .u8 xt, .int .u32 xp] 35)).alloc (.cells #[.int .u8 yt, .int .u32 yp] 35)) := (hb25.alloc hb25.size _).alloc (by have := hb25.size; simp; omega) _
    have HSA6 := Lib.hid (HSA.out _ hb6)
    have HB6 := Lib.hid hb6
    clear hk1 hk2 hb25 hb5 hb6 c0 c1 q0 q0'
    go_wp2_with fail
    refine HSA6.out.mono ?_
    rintro e w7 ⟨rfl, hb7⟩
    go_wp2_with fail
    go_ret
    have h7 := HB12.out.trans ((HB6.out.trans (hb7.mono HB6.out.size)).mono HB12.out.size)
    exact ⟨rfl, HbW.out.trans (h7.mono HbW.out.size)⟩
  · skip
    have hout : 40 < len ∨ n0 < 0 ∨ 16 < n0 ∨ room0 < 0 ∨ 100 < room0 := by omega
    clear hin
    rcases hout with hh | hh | hh | hh | hh
    all_goals
      go_enter Try.func16, Try.ntmps16
      go_wp2_with fail
      rw [← HWW.out]
      clear hW
      refine (zalive_any _).mono ?_
      rintro e w1 ⟨rfl, hb1⟩
      go_wp2_with fail
      all_goals
        go_ret
        exact ⟨rfl, HbW.out.trans (hb1.mono HbW.out.size)⟩
set_option maxRecDepth 100000 in
set_option maxHeartbeats 4000000 in
theorem zrights_walk (n0 : Int) (A : Option Addr) (len c : Nat) (rl : List Rec) (e : Edg) (l : Int) (w : World) (hr : RecsArg w A len c rl) (he : e.Wf) : Calls Try.prog 13 #[.int .i64 n0, .slice A len c, .agg e.cells.toArray, .int .i64 l] w fun e w' => e = .returned (.bool true) ∧ Below w.heap.size w w' := by
  have HeW := Lib.hid he
  obtain ⟨et, ep⟩ := e
  simp only [Edg.cells]
  obtain ⟨W, hW⟩ : ∃ W, W = (w.alloc (.cells #[.int .u8 et, .int .u32 ep] 35)) := ⟨_, rfl⟩
  have hB0 : Blk W w.heap.size 35 #[.int .u8 et, .int .u32 ep] := by rw [hW]; exact Blk.new w _ _
  have hbW : Below w.heap.size w W := by rw [hW]; exact (Below.refl _ _).alloc (Nat.le_refl _) _
  have FB : Hid (∀ W', Below W.heap.size W W' → Blk W' w.heap.size 35 #[.int .u8 et, .int .u32 ep]) := Lib.hid fun W' hW' => hB0.on' hW'
  have HWS : Hid (W.heap.size = w.heap.size + 1) := Lib.hid (by rw [hW]; simp)
  have HWW := Lib.hid hW
  have HbW := Lib.hid hbW
  have HRA := Lib.hid hr
  clear hB0 hbW hr he
  by_cases hin : len ≤ 40 ∧ 0 ≤ n0 ∧ n0 ≤ 16
  · obtain ⟨hl40, hn1, hn2⟩ := hin
    obtain ⟨n, rfl⟩ : ∃ n : Nat, n0 = n := ⟨n0.toNat, by omega⟩
    go_enter Try.func13, Try.ntmps13
    go_wp2_with fail
    rw [← HWW.out]
    clear hW
    refine (zalive_any _).mono ?_
    rintro e w1 ⟨rfl, hb1⟩
    have hrow := (HRA.out.2.2.2.1).on (HbW.out.trans (hb1.mono HbW.out.size))
    go_wp2_with fail
    refine (built_any n 100 A _ _ _ _ (by omega) (by omega) HRA.out.1 (by omega) hrow HRA.out.2.2.2.2).mono ?_
    rintro e w2 ⟨g, g', rfl, F, F', hS, hR, hd, hF, hF', hb2⟩
    have hok := builtR_ok n 100 _ HRA.out.2.2.2.2
    have hrk := recsOk_built n 100 rl
    generalize builtR n 100 _ = rs at hS hR hok hrk
    have HRK := Lib.hid hrk
    have HOK := Lib.hid hok
    have HN : Hid (n ≤ 16 ∧ 100 ≤ 1048576) := Lib.hid ⟨by omega, by omega⟩
    have hB12 : Below W.heap.size W w2 := hb1.trans (hb2.mono hb1.size)
    have HB1S := Lib.hid hb1.size
    clear hrow hok hrk
    have hbr := fun (W' : World) (hW' : Below w2.heap.size w2 W') => zright_any F g n 100 _ ⟨et, ep⟩ l W' (hS.on hW') HeW.out
    have hrr := fun (W' : World) (hW' : Below w2.heap.size w2 W') => rzright_any F' g' n 100 rs ⟨et, ep⟩ l W' (hR.on hW') HeW.out (by have := HOK.out.1; omega) HOK.out.2
    have HIDS := Lib.hid (fun (i : Nat) (r : Rec) (hr : rs[i]? = some r) => hS.idOf_at hr)
    have HSS := Lib.hid (fun (W' : World) (hW' : Below w2.heap.size w2 W') => hS.on hW')
    have HFB := Lib.hid hF
    simp only [Edg.cells] at hbr hrr
    have HBR := Lib.hid hbr
    have HRR := Lib.hid hrr
    clear hS hR hd hF hF' hb2 hbr hrr
    have a0 : w2.cell? ⟨w.heap.size, 0, none⟩ = some (.int .u8 et) := (FB.out w2 hB12).cell 0
    have a1 : w2.cell? ⟨w.heap.size, 1, none⟩ = some (.int .u32 ep) := (FB.out w2 hB12).cell 1
    have HB12 := Lib.hid hB12
    clear hB12 hb1
    cases hld : leads (rs.map some) n 2 ⟨et, ep⟩ l
    · have HLD := Lib.hid hld
      clear hld
      go_wp2_with fail
      refine (HBR.out _ (Below.refl _ _)).mono ?_
      rintro e w3 ⟨rfl, hb3⟩
      rw [HLD.out]
      have hB13 : Below W.heap.size W w3 := HB12.out.trans (hb3.mono HB12.out.size)
      have c0 : w3.cell? ⟨w.heap.size, 0, none⟩ = some (.int .u8 et) := (FB.out w3 hB13).cell 0
      have c1 : w3.cell? ⟨w.heap.size, 1, none⟩ = some (.int .u32 ep) := (FB.out w3 hB13).cell 1
      have HB3 := Lib.hid hb3
      have HB13 := Lib.hid hB13
      clear hb3 hB13 a0 a1
      go_wp2_with fail
      refine (HRR.out _ HB3.out).mono ?_
      rintro e w4 ⟨rfl, hb4⟩
      rw [HLD.out]
      have hB24 := HB3.out.trans (hb4.mono HB3.out.size)
      have hB14 : Below W.heap.size W w4 := HB13.out.trans (hb4.mono HB13.out.size)
      have HB24 := Lib.hid hB24
      have HB14 := Lib.hid hB14
      clear hb4 hB24 hB14 c0 c1
      go_wp2_with fail
      go_ret
      exact ⟨rfl, HbW.out.trans (HB14.out.mono HbW.out.size)⟩
    · by_cases hlv : 0 ≤ l ∧ l < n
      · have HLD := Lib.hid hld
        obtain ⟨vlo, vhi, hv, hm⟩ := view_make true (room := 100) HN.out.1 HRK.out HIDS.out hlv (by simpa [fmOf] using hld)
        have hvw := viewE_wf (z := true) (n := n) (l := l) HOK.out.2 HeW.out
        rw [hv] at hvw
        have hvi := fun (W' : World) (hW' : Below w2.heap.size w2 W') => zview_any F g n 100 _ ⟨et, ep⟩ l W' (HSS.out W' hW') HeW.out
        rw [hv] at hvi
        have hma := fun (W' : World) (hW' : Below w2.heap.size w2 W') => zmake_any F g n 100 _ l vlo vhi W' (HSS.out W' hW') hvw.1 hvw.2
        rw [hm] at hma
        obtain ⟨xt, xp⟩ := vlo
        obtain ⟨yt, yp⟩ := vhi
        simp only [Edg.cells] at hvi hma
        have HVI := Lib.hid hvi
        have HMA := Lib.hid hma
        clear hld hv hm hvw hvi hma
        go_wp2_with fail
        refine (HBR.out _ (Below.refl _ _)).mono ?_
        rintro e w3 ⟨rfl, hb3⟩
        rw [HLD.out]
        have hB13 : Below W.heap.size W w3 := HB12.out.trans (hb3.mono HB12.out.size)
        have c0 : w3.cell? ⟨w.heap.size, 0, none⟩ = some (.int .u8 et) := (FB.out w3 hB13).cell 0
        have c1 : w3.cell? ⟨w.heap.size, 1, none⟩ = some (.int .u32 ep) := (FB.out w3 hB13).cell 1
        have HB3 := Lib.hid hb3
        have HB13 := Lib.hid hB13
        clear hb3 hB13 a0 a1
        go_wp2_with fail
        refine (HRR.out _ HB3.out).mono ?_
        rintro e w4 ⟨rfl, hb4⟩
        rw [HLD.out]
        have hB24 := HB3.out.trans (hb4.mono HB3.out.size)
        have hB14 : Below W.heap.size W w4 := HB13.out.trans (hb4.mono HB13.out.size)
        have HB24 := Lib.hid hB24
        have HB14 := Lib.hid hB14
        clear hb4 hB24 hB14 c0 c1
        have a0 : w4.cell? ⟨w.heap.size, 0, none⟩ = some (.int .u8 et) := (FB.out w4 HB14.out).cell 0
        have a1 : w4.cell? ⟨w.heap.size, 1, none⟩ = some (.int .u32 ep) := (FB.out w4 HB14.out).cell 1
        have hlv1 := hlv.1
        have hlv2 := hlv.2
        go_wp2_with fail
        refine (HVI.out _ HB24.out).mono ?_
        rintro e w5 ⟨rfl, hb5⟩
        have hb6 : Below w4.heap.size w4 ((w5.alloc (.cells #[.int .u8 xt, .int .u32 xp] 35)).alloc (.cells #[.int .u8 yt, .int .u32 yp] 35)) := (hb5.alloc hb5.size _).alloc (by have := hb5.size; simp; omega) _
        have hb26 := HB24.out.trans (hb6.mono HB24.out.size)
        have hb16 := HB14.out.trans (hb6.mono HB14.out.size)
        have r0 : w5.heap.size < w5.heap.size + 1 := by omega
        have HB26 := Lib.hid hb26
        have HB16 := Lib.hid hb16
        have HMA6 := Lib.hid (HMA.out _ hb26)
        clear hb5 hb6 hb26 hb16 a0 a1
        go_wp2_with fail
        refine HMA6.out.mono ?_
        rintro e w7 ⟨rfl, hT⟩
        have hB67 : Below W.heap.size _ w7 := hT.2.below HB16.out.size (fun x hx => by have := HFB.out x hx; have := HB1S.out; omega)
        have hB17 := HB16.out.trans hB67
        have hs17 := hB17.size
        have hws := HWS.out
        have q0 : w.heap.size < w7.heap.size := by omega
        have a0 : w7.cell? ⟨w.heap.size, 0, none⟩ = some (.int .u8 et) := (FB.out w7 hB17).cell 0
        have a1 : w7.cell? ⟨w.heap.size, 1, none⟩ = some (.int .u32 ep) := (FB.out w7 hB17).cell 1
        have HB17 := Lib.hid hB17
        clear hT hB67 hB17 hs17 hws
        go_wp2_with fail
        go_ret
        exact ⟨rfl, HbW.out.trans ((HB17.out.alloc HB17.out.size _).mono HbW.out.size)⟩
      · have HLD := Lib.hid hld
        have hlo : l < 0 ∨ (n : Int) ≤ l := by omega
        clear hld hlv
        rcases hlo with hlo | hlo
        all_goals
          go_wp2_with fail
          refine (HBR.out _ (Below.refl _ _)).mono ?_
          rintro e w3 ⟨rfl, hb3⟩
          rw [HLD.out]
          have hB13 : Below W.heap.size W w3 := HB12.out.trans (hb3.mono HB12.out.size)
          have c0 : w3.cell? ⟨w.heap.size, 0, none⟩ = some (.int .u8 et) := (FB.out w3 hB13).cell 0
          have c1 : w3.cell? ⟨w.heap.size, 1, none⟩ = some (.int .u32 ep) := (FB.out w3 hB13).cell 1
          have HB3 := Lib.hid hb3
          have HB13 := Lib.hid hB13
          clear hb3 hB13 a0 a1
          go_wp2_with fail
          refine (HRR.out _ HB3.out).mono ?_
          rintro e w4 ⟨rfl, hb4⟩
          rw [HLD.out]
          have hB24 := HB3.out.trans (hb4.mono HB3.out.size)
          have hB14 : Below W.heap.size W w4 := HB13.out.trans (hb4.mono HB13.out.size)
          have HB24 := Lib.hid hB24
          have HB14 := Lib.hid hB14
          clear hb4 hB24 hB14 c0 c1
          go_wp2_with fail
          go_ret
          exact ⟨rfl, HbW.out.trans (HB14.out.mono HbW.out.size)⟩
  · skip
    have hout : 40 < len ∨ n0 < 0 ∨ 16 < n0 := by omega
    clear hin
    rcases hout with hh | hh | hh
    all_goals
      go_enter Try.func13, Try.ntmps13
      go_wp2_with fail
      rw [← HWW.out]
      clear hW
      refine (zalive_any _).mono ?_
      rintro e w1 ⟨rfl, hb1⟩
      go_wp2_with fail
      all_goals
        go_ret
        exact ⟨rfl, HbW.out.trans (hb1.mono HbW.out.size)⟩

end Go.Proofs.Ytfcklfpgjadfmaa
