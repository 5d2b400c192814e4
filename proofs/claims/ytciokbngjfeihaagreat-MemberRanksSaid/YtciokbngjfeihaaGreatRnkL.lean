/- MemberRanks: the law answers true: the walk. -/
import Derived.Test.YtciokbngjfeihaaGreatMak
import Derived.Test.YtciokbngjfeihaaGreatMbMay
import Derived.Test.YtciokbngjfeihaaGreatMbrF
import Derived.Test.YtciokbngjfeihaaGreatSame
import Derived.Test.YtciokbngjfeihaaGreatArgsI
namespace Go.Proofs.YtciokbngjfeihaaGreat
open Go Go.RowKit Go.Shelf Go.Sort
set_option linter.unusedSimpArgs false
set_option linter.unusedVariables false

set_option maxRecDepth 200000 in
set_option maxHeartbeats 16000000 in
theorem mranks_out (n0 : Int) (A1 : Option Addr) (len1 c1 : Nat) (A2 : Option Addr) (len2 c2 : Nat) (f : Int) (e : Edg) (k xv : Int) (w : World) (hh : 40 < len1 ∨ n0 < 0 ∨ 7 < n0 ∨ 16 < len2) :
    Calls Tryz.prog 4 #[.int .i64 n0, .slice A1 len1 c1, .slice A2 len2 c2, .int .u8 f, .agg e.cells.toArray, .int .i64 k, .int .i64 xv] w fun e w' => e = .returned (.bool true) ∧ Below w.heap.size w w' := by
  obtain ⟨W, hW⟩ : ∃ W, W = w.alloc (.cells #[.int .u8 e.tag, .int .u32 e.pos] 26) := ⟨_, rfl⟩
  have hbW : Below w.heap.size w W := by rw [hW]; exact (Below.refl _ _).alloc (Nat.le_refl _) _
  have HWW := Lib.hid hW
  have HB := Lib.hid hbW
  clear hbW
  simp only [Edg.cells]
  rcases hh with hh | hh | hh | hh
  all_goals
    go_enter Tryz.func4, Tryz.ntmps4
    go_wp2_with fail
    rw [← HWW.out]
    clear hW
    refine (alive22_any _).mono ?_
    rintro e w1 ⟨rfl, hb1⟩
    go_wp2_with fail
    all_goals
      go_ret
      exact ⟨rfl, HB.out.trans (hb1.mono HB.out.size)⟩

set_option maxRecDepth 200000 in
set_option maxHeartbeats 32000000 in
theorem mranks_no (n : Nat) (A1 : Option Addr) (len1 c1 : Nat) (rl : List Rec) (A2 : Option Addr) (len2 c2 : Nat) (ps : List Int) (f : Int) (e : Edg) (k xv : Int) (w : World) (hr : RecsArg w A1 len1 c1 rl) (hp : IArg w A2 len2 c2 ps) (hf : 0 ≤ f ∧ f ≤ 255) (he : e.Wf) (hm : -9223372036854775808 ≤ k ∧ k ≤ 9223372036854775807) (hm2 : -9223372036854775808 ≤ xv ∧ xv ≤ 9223372036854775807)
    (hn7 : n ≤ 7) (hl1 : len1 ≤ 40) (hl2 : len2 ≤ 16) (hnp : ¬ IsPerm ps) :
    Calls Tryz.prog 4 #[.int .i64 (n : Nat), .slice A1 len1 c1, .slice A2 len2 c2, .int .u8 f, .agg e.cells.toArray, .int .i64 k, .int .i64 xv] w fun e w' => e = .returned (.bool true) ∧ Below w.heap.size w w' := by
  have HeW := Lib.hid he
  obtain ⟨W, hW⟩ : ∃ W, W = w.alloc (.cells #[.int .u8 e.tag, .int .u32 e.pos] 26) := ⟨_, rfl⟩
  have hB0 : Blk W w.heap.size 26 #[.int .u8 e.tag, .int .u32 e.pos] := by rw [hW]; exact Blk.new w _ _
  have hbW : Below w.heap.size w W := by rw [hW]; exact (Below.refl _ _).alloc (Nat.le_refl _) _
  have FB : Hid (∀ W', Below W.heap.size W W' → Blk W' w.heap.size 26 #[.int .u8 e.tag, .int .u32 e.pos]) := Lib.hid fun W' hW' => hB0.onB hW'
  have HWS : Hid (W.heap.size = w.heap.size + 1) := Lib.hid (by rw [hW]; simp)
  have HWW := Lib.hid hW
  have HbW := Lib.hid hbW
  have HRA := Lib.hid hr
  have HPA := Lib.hid hp
  have HF := Lib.hid hf
  have HM := Lib.hid hm
  have HM2 := Lib.hid hm2
  have HNP := Lib.hid hnp
  clear hnp
  clear hB0 hbW hr hp he hf
  simp only [Edg.cells]
  go_enter Tryz.func4, Tryz.ntmps4
  go_wp2_with fail
  rw [← HWW.out]
  clear hW
  refine (alive22_any _).mono ?_
  rintro x w1 ⟨rfl, hb1⟩
  have hrow := (HRA.out.2.2.2.1).on (HbW.out.trans (hb1.mono HbW.out.size))
  have hint := (HPA.out.2.2.2.2.1).on (HbW.out.trans (hb1.mono HbW.out.size))
  go_wp2_with fail
  refine (built_any n 100 A1 _ _ _ _ (by omega) (by omega) HRA.out.1 (by omega) hrow HRA.out.2.2.2.2).mono ?_
  rintro x w2 ⟨g, g', rfl, F, F', hS, hR, hd, hF, hF', hb2⟩
  have hok := builtR_ok n 100 _ HRA.out.2.2.2.2
  have hrr := recsR_built n 100 rl
  generalize builtR n 100 rl = rs at *
  have hB12 : Below W.heap.size W w2 := hb1.trans (hb2.mono hb1.size)
  have HI2 := Lib.hid (hint.on hb2)
  have HOK := Lib.hid hok
  have HS := Lib.hid hS
  have HR := Lib.hid hR
  have HRR := Lib.hid hrr
  have HCH := Lib.hid (chain_of hrr hok.2)
  have HCS := Lib.hid (hcs_of hrr hok.2)
  have HB12 := Lib.hid hB12
  clear hrow hint hok hrr hS hR hd hF hF' hb1 hb2 hB12
  go_wp2_with fail
  refine (orderOf_no A2 len2 c2 ps _ HPA.out.1 (by omega) HNP.out HI2.out).mono ?_
  rintro x w' ⟨rfl, rfl⟩
  have a0 : w2.cell? ⟨w.heap.size, 0, none⟩ = some (.int .u8 e.tag) := (FB.out w2 HB12.out).cell 0
  have a1 : w2.cell? ⟨w.heap.size, 1, none⟩ = some (.int .u32 e.pos) := (FB.out w2 HB12.out).cell 1
  have HN1 := Lib.hid (fun W => nth_nil (some ⟨g, 0, none⟩) none (.inr rfl) f e.tag e.pos k W)
  have HN2 := Lib.hid (fun W => rank_nil (some ⟨g, 0, none⟩) none (.inr rfl) f e.tag e.pos xv W)
  have HN3 := Lib.hid (fun W => first_nil (some ⟨g, 0, none⟩) none (.inr rfl) f e.tag e.pos W)
  have HN4 := Lib.hid (fun W => last_nil (some ⟨g, 0, none⟩) none (.inr rfl) f e.tag e.pos W)
  go_wp2_with fail
  refine (HN1.out _).mono ?_
  rintro x w3 ⟨rfl, hb3⟩
  have HB3 := Lib.hid hb3
  clear hb3 a0 a1
  have a0 : w3.cell? ⟨w.heap.size, 0, none⟩ = some (.int .u8 e.tag) := (FB.out w3 (HB12.out.trans (HB3.out.mono HB12.out.size))).cell 0
  have a1 : w3.cell? ⟨w.heap.size, 1, none⟩ = some (.int .u32 e.pos) := (FB.out w3 (HB12.out.trans (HB3.out.mono HB12.out.size))).cell 1
  go_wp2_with fail
  refine (HN2.out _).mono ?_
  rintro x w4 ⟨rfl, hb4⟩
  have HB4 := Lib.hid (HB3.out.trans (hb4.mono HB3.out.size))
  clear hb4 a0 a1
  have a0 : w4.cell? ⟨w.heap.size, 0, none⟩ = some (.int .u8 e.tag) := (FB.out w4 (HB12.out.trans (HB4.out.mono HB12.out.size))).cell 0
  have a1 : w4.cell? ⟨w.heap.size, 1, none⟩ = some (.int .u32 e.pos) := (FB.out w4 (HB12.out.trans (HB4.out.mono HB12.out.size))).cell 1
  go_wp2_with fail
  refine (HN3.out _).mono ?_
  rintro x w5 ⟨rfl, hb5⟩
  have HB5 := Lib.hid (HB4.out.trans (hb5.mono HB4.out.size))
  clear hb5 a0 a1
  have a0 : w5.cell? ⟨w.heap.size, 0, none⟩ = some (.int .u8 e.tag) := (FB.out w5 (HB12.out.trans (HB5.out.mono HB12.out.size))).cell 0
  have a1 : w5.cell? ⟨w.heap.size, 1, none⟩ = some (.int .u32 e.pos) := (FB.out w5 (HB12.out.trans (HB5.out.mono HB12.out.size))).cell 1
  go_wp2_with fail
  refine (HN4.out _).mono ?_
  rintro x w6 ⟨rfl, hb6⟩
  have HB6 := Lib.hid (HB5.out.trans (hb6.mono HB5.out.size))
  clear hb6 a0 a1
  have hri := refRight_any A2 len2 c2 ps w6 HPA.out.1 (by omega) (HI2.out.on HB6.out)
  rw [decide_eq_false HNP.out] at hri
  have HRI := Lib.hid hri
  clear hri
  go_wp2_with fail
  refine HRI.out.mono ?_
  rintro x w' ⟨rfl, rfl⟩
  go_wp2_with fail
  go_ret
  exact ⟨rfl, HbW.out.trans ((HB12.out.trans (HB6.out.mono HB12.out.size)).mono HbW.out.size)⟩

set_option maxRecDepth 200000 in
set_option maxHeartbeats 32000000 in
theorem mranks_code (n : Nat) (A1 : Option Addr) (len1 c1 : Nat) (rl : List Rec) (A2 : Option Addr) (len2 c2 : Nat) (ps : List Int) (f : Int) (e : Edg) (k xv : Int) (w : World) (hr : RecsArg w A1 len1 c1 rl) (hp : IArg w A2 len2 c2 ps) (hf : 0 ≤ f ∧ f ≤ 255) (he : e.Wf) (hm : -9223372036854775808 ≤ k ∧ k ≤ 9223372036854775807) (hm2 : -9223372036854775808 ≤ xv ∧ xv ≤ 9223372036854775807)
    (hn7 : n ≤ 7) (hl1 : len1 ≤ 40) (hl2 : len2 ≤ 16) (hperm : IsPerm ps) (code : Nat) (hc0 : code ≠ 0) (hcode : startC ((builtR n 100 rl).map some) n len2 f e = code) :
    Calls Tryz.prog 4 #[.int .i64 (n : Nat), .slice A1 len1 c1, .slice A2 len2 c2, .int .u8 f, .agg e.cells.toArray, .int .i64 k, .int .i64 xv] w fun e w' => e = .returned (.bool true) ∧ Below w.heap.size w w' := by
  have HeW := Lib.hid he
  obtain ⟨W, hW⟩ : ∃ W, W = w.alloc (.cells #[.int .u8 e.tag, .int .u32 e.pos] 26) := ⟨_, rfl⟩
  have hB0 : Blk W w.heap.size 26 #[.int .u8 e.tag, .int .u32 e.pos] := by rw [hW]; exact Blk.new w _ _
  have hbW : Below w.heap.size w W := by rw [hW]; exact (Below.refl _ _).alloc (Nat.le_refl _) _
  have FB : Hid (∀ W', Below W.heap.size W W' → Blk W' w.heap.size 26 #[.int .u8 e.tag, .int .u32 e.pos]) := Lib.hid fun W' hW' => hB0.onB hW'
  have HWS : Hid (W.heap.size = w.heap.size + 1) := Lib.hid (by rw [hW]; simp)
  have HWW := Lib.hid hW
  have HbW := Lib.hid hbW
  have HRA := Lib.hid hr
  have HPA := Lib.hid hp
  have HF := Lib.hid hf
  have HM := Lib.hid hm
  have HM2 := Lib.hid hm2
  have HP := Lib.hid hperm
  have HCO := Lib.hid hcode
  clear hperm hcode
  clear hB0 hbW hr hp he hf
  simp only [Edg.cells]
  go_enter Tryz.func4, Tryz.ntmps4
  go_wp2_with fail
  rw [← HWW.out]
  clear hW
  refine (alive22_any _).mono ?_
  rintro x w1 ⟨rfl, hb1⟩
  have hrow := (HRA.out.2.2.2.1).on (HbW.out.trans (hb1.mono HbW.out.size))
  have hint := (HPA.out.2.2.2.2.1).on (HbW.out.trans (hb1.mono HbW.out.size))
  go_wp2_with fail
  refine (built_any n 100 A1 _ _ _ _ (by omega) (by omega) HRA.out.1 (by omega) hrow HRA.out.2.2.2.2).mono ?_
  rintro x w2 ⟨g, g', rfl, F, F', hS, hR, hd, hF, hF', hb2⟩
  have hok := builtR_ok n 100 _ HRA.out.2.2.2.2
  have hrr := recsR_built n 100 rl
  have HST := HCO
  clear HCO
  generalize builtR n 100 rl = rs at *
  have hB12 : Below W.heap.size W w2 := hb1.trans (hb2.mono hb1.size)
  have HI2 := Lib.hid (hint.on hb2)
  have HOK := Lib.hid hok
  have HS := Lib.hid hS
  have HR := Lib.hid hR
  have HRR := Lib.hid hrr
  have HCH := Lib.hid (chain_of hrr hok.2)
  have HCS := Lib.hid (hcs_of hrr hok.2)
  have HB12 := Lib.hid hB12
  clear hrow hint hok hrr hS hR hd hF hF' hb1 hb2 hB12
  go_wp2_with fail
  refine (orderOf_yes A2 len2 c2 ps _ HPA.out.1 HP.out HI2.out).mono ?_
  rintro x w3 ⟨go, G, ls, rfl, hO, hI, hG, hb3⟩
  have HM3 := Lib.hid (show MbAt w3 F G g go n 100 (rs.map some) [] ps ls from ⟨HS.out.on hb3, hO, ⟨HP.out, hI⟩, HCS.out⟩)
  have HS3 := Lib.hid (HS.out.on hb3)
  have HR3 := Lib.hid (HR.out.on hb3)
  have HI3 := Lib.hid (HI2.out.on hb3)
  have HB13 := Lib.hid (HB12.out.trans (hb3.mono HB12.out.size))
  clear hO hI hG hb3 HS HR HI2 HB12
  have FC : Hid (∀ W', Below w3.heap.size w3 W' → W'.cell? ⟨w.heap.size, 0, none⟩ = some (.int .u8 e.tag) ∧ W'.cell? ⟨w.heap.size, 1, none⟩ = some (.int .u32 e.pos)) := Lib.hid (fun W' h => by
    have hb := FB.out W' (HB13.out.trans (h.mono HB13.out.size))
    exact ⟨hb.cell 0, hb.cell 1⟩)
  have HN1 := Lib.hid (fun W (h : Below w3.heap.size w3 W) => nthTop_any F G g go n 100 _ [] ps ls f e k W (HM3.out.on h) HF.out HeW.out HM.out)
  have HN2 := Lib.hid (fun (xx : Int) (hxx : -9223372036854775808 ≤ xx ∧ xx ≤ 9223372036854775807) W (h : Below w3.heap.size w3 W) => rankTop_any F G g go n 100 _ [] ps ls f e xx W (HM3.out.on h) HF.out HeW.out hxx)
  have HN3 := Lib.hid (fun W (h : Below w3.heap.size w3 W) => firstTop_any F G g go n 100 _ [] ps ls f e W (HM3.out.on h) HF.out HeW.out)
  have HN4 := Lib.hid (fun W (h : Below w3.heap.size w3 W) => lastTop_any F G g go n 100 _ [] ps ls f e W (HM3.out.on h) HF.out HeW.out (fun hc hi => pos_of HRR.out HOK.out.2 (fit_of_leads (l := 0) (startC_zero hc).2.2) hi))
  have HMY := Lib.hid (fun W (h : Below w3.heap.size w3 W) => rmay22_any F' g' n 100 rs f e A2 len2 c2 W (HR3.out.on h) HF.out HeW.out (by have := HOK.out.1; omega) HOK.out.2)
  simp only [Edg.cells] at HMY
  rw [HST.out] at HMY
  have hn1 : nthC (rs.map some) n ps f e k = (0, code) := by unfold nthC; rw [HPA.out.1, HST.out, if_pos hc0]
  have hn3 : nthC (rs.map some) n ps f e 0 = (0, code) := by unfold nthC; rw [HPA.out.1, HST.out, if_pos hc0]
  have hn2 : rankC (rs.map some) n ps f e xv = (0, code) := by unfold rankC; rw [HPA.out.1, HST.out, if_pos hc0]
  have hn4 : lastC (rs.map some) n ps f e = (0, code) := by unfold lastC; rw [HPA.out.1, HST.out, if_pos hc0]
  have HN2x := Lib.hid (HN2.out xv HM2.out)
  rw [hn1] at HN1
  rw [hn2] at HN2x
  rw [hn3] at HN3
  rw [hn4] at HN4
  have hc4 : code = 1 ∨ code = 3 ∨ code = 4 := by
    have h1 := HST.out
    unfold startC mayC at h1
    (repeat' split at h1) <;> omega
  clear hn1 hn2 hn3 hn4
  have HB3 := Lib.hid (Below.refl w3.heap.size w3)
  rcases hc4 with rfl | rfl | rfl
  all_goals
    obtain ⟨a0, a1⟩ := FC.out w3 HB3.out
    go_wp2_with fail
    clear a0 a1
    refine (HN1.out _ HB3.out).mono ?_
    rintro x w4 ⟨rfl, hb4⟩
    have HB4 := Lib.hid (HB3.out.trans (hb4.mono HB3.out.size))
    clear hb4
    obtain ⟨a0, a1⟩ := FC.out w4 HB4.out
    go_wp2_with fail
    clear a0 a1
    refine (HN2x.out _ HB4.out).mono ?_
    rintro x w5 ⟨rfl, hb5⟩
    have HB5 := Lib.hid (HB4.out.trans (hb5.mono HB4.out.size))
    clear hb5
    obtain ⟨a0, a1⟩ := FC.out w5 HB5.out
    go_wp2_with fail
    clear a0 a1
    refine (HN3.out _ HB5.out).mono ?_
    rintro x w6 ⟨rfl, hb6⟩
    have HB6 := Lib.hid (HB5.out.trans (hb6.mono HB5.out.size))
    clear hb6
    obtain ⟨a0, a1⟩ := FC.out w6 HB6.out
    go_wp2_with fail
    clear a0 a1
    refine (HN4.out _ HB6.out).mono ?_
    rintro x w7 ⟨rfl, hb7⟩
    have HB7 := Lib.hid (HB6.out.trans (hb7.mono HB6.out.size))
    clear hb7
    have hri := refRight_any A2 len2 c2 ps w7 HPA.out.1 (by omega) (HI3.out.on HB7.out)
    rw [decide_eq_true HP.out] at hri
    have HRI := Lib.hid hri
    clear hri
    obtain ⟨a0, a1⟩ := FC.out w7 HB7.out
    go_wp2_with fail
    refine HRI.out.mono ?_
    rintro x w' ⟨rfl, rfl⟩
    go_wp2_with fail
    clear a0 a1
    refine (HMY.out _ HB7.out).mono ?_
    rintro x w8 ⟨rfl, hb8⟩
    have HB8 := Lib.hid (HB7.out.trans (hb8.mono HB7.out.size))
    clear hb8
    go_wp2_with fail
    go_ret
    exact ⟨rfl, HbW.out.trans ((HB13.out.trans (HB8.out.mono HB13.out.size)).mono HbW.out.size)⟩

set_option maxRecDepth 200000 in
set_option maxHeartbeats 32000000 in
theorem mranks_yes (n : Nat) (A1 : Option Addr) (len1 c1 : Nat) (rl : List Rec) (A2 : Option Addr) (len2 c2 : Nat) (ps : List Int) (f : Int) (e : Edg) (k xv : Int) (w : World) (hr : RecsArg w A1 len1 c1 rl) (hp : IArg w A2 len2 c2 ps) (hf : 0 ≤ f ∧ f ≤ 255) (he : e.Wf) (hm : -9223372036854775808 ≤ k ∧ k ≤ 9223372036854775807) (hm2 : -9223372036854775808 ≤ xv ∧ xv ≤ 9223372036854775807)
    (hn7 : n ≤ 7) (hl1 : len1 ≤ 40) (hl2 : len2 ≤ 16) (hperm : IsPerm ps) (hcode : startC ((builtR n 100 rl).map some) n len2 f e = 0) :
    Calls Tryz.prog 4 #[.int .i64 (n : Nat), .slice A1 len1 c1, .slice A2 len2 c2, .int .u8 f, .agg e.cells.toArray, .int .i64 k, .int .i64 xv] w fun e w' => e = .returned (.bool true) ∧ Below w.heap.size w w' := by
  have HeW := Lib.hid he
  obtain ⟨W, hW⟩ : ∃ W, W = w.alloc (.cells #[.int .u8 e.tag, .int .u32 e.pos] 26) := ⟨_, rfl⟩
  have hB0 : Blk W w.heap.size 26 #[.int .u8 e.tag, .int .u32 e.pos] := by rw [hW]; exact Blk.new w _ _
  have hbW : Below w.heap.size w W := by rw [hW]; exact (Below.refl _ _).alloc (Nat.le_refl _) _
  have FB : Hid (∀ W', Below W.heap.size W W' → Blk W' w.heap.size 26 #[.int .u8 e.tag, .int .u32 e.pos]) := Lib.hid fun W' hW' => hB0.onB hW'
  have HWS : Hid (W.heap.size = w.heap.size + 1) := Lib.hid (by rw [hW]; simp)
  have HWW := Lib.hid hW
  have HbW := Lib.hid hbW
  have HRA := Lib.hid hr
  have HPA := Lib.hid hp
  have HF := Lib.hid hf
  have HM := Lib.hid hm
  have HM2 := Lib.hid hm2
  have HP := Lib.hid hperm
  have HCO := Lib.hid hcode
  clear hperm hcode
  clear hB0 hbW hr hp he hf
  simp only [Edg.cells]
  go_enter Tryz.func4, Tryz.ntmps4
  go_wp2_with fail
  rw [← HWW.out]
  clear hW
  refine (alive22_any _).mono ?_
  rintro x w1 ⟨rfl, hb1⟩
  have hrow := (HRA.out.2.2.2.1).on (HbW.out.trans (hb1.mono HbW.out.size))
  have hint := (HPA.out.2.2.2.2.1).on (HbW.out.trans (hb1.mono HbW.out.size))
  go_wp2_with fail
  refine (built_any n 100 A1 _ _ _ _ (by omega) (by omega) HRA.out.1 (by omega) hrow HRA.out.2.2.2.2).mono ?_
  rintro x w2 ⟨g, g', rfl, F, F', hS, hR, hd, hF, hF', hb2⟩
  have hok := builtR_ok n 100 _ HRA.out.2.2.2.2
  have hrr := recsR_built n 100 rl
  have HST := HCO
  clear HCO
  generalize builtR n 100 rl = rs at *
  have hB12 : Below W.heap.size W w2 := hb1.trans (hb2.mono hb1.size)
  have HI2 := Lib.hid (hint.on hb2)
  have HOK := Lib.hid hok
  have HS := Lib.hid hS
  have HR := Lib.hid hR
  have HRR := Lib.hid hrr
  have HCH := Lib.hid (chain_of hrr hok.2)
  have HCS := Lib.hid (hcs_of hrr hok.2)
  have HB12 := Lib.hid hB12
  clear hrow hint hok hrr hS hR hd hF hF' hb1 hb2 hB12
  go_wp2_with fail
  refine (orderOf_yes A2 len2 c2 ps _ HPA.out.1 HP.out HI2.out).mono ?_
  rintro x w3 ⟨go, G, ls, rfl, hO, hI, hG, hb3⟩
  have HM3 := Lib.hid (show MbAt w3 F G g go n 100 (rs.map some) [] ps ls from ⟨HS.out.on hb3, hO, ⟨HP.out, hI⟩, HCS.out⟩)
  have HS3 := Lib.hid (HS.out.on hb3)
  have HR3 := Lib.hid (HR.out.on hb3)
  have HI3 := Lib.hid (HI2.out.on hb3)
  have HB13 := Lib.hid (HB12.out.trans (hb3.mono HB12.out.size))
  clear hO hI hG hb3 HS HR HI2 HB12
  have FC : Hid (∀ W', Below w3.heap.size w3 W' → W'.cell? ⟨w.heap.size, 0, none⟩ = some (.int .u8 e.tag) ∧ W'.cell? ⟨w.heap.size, 1, none⟩ = some (.int .u32 e.pos)) := Lib.hid (fun W' h => by
    have hb := FB.out W' (HB13.out.trans (h.mono HB13.out.size))
    exact ⟨hb.cell 0, hb.cell 1⟩)
  have HN1 := Lib.hid (fun W (h : Below w3.heap.size w3 W) => nthTop_any F G g go n 100 _ [] ps ls f e k W (HM3.out.on h) HF.out HeW.out HM.out)
  have HN2 := Lib.hid (fun (xx : Int) (hxx : -9223372036854775808 ≤ xx ∧ xx ≤ 9223372036854775807) W (h : Below w3.heap.size w3 W) => rankTop_any F G g go n 100 _ [] ps ls f e xx W (HM3.out.on h) HF.out HeW.out hxx)
  have HN3 := Lib.hid (fun W (h : Below w3.heap.size w3 W) => firstTop_any F G g go n 100 _ [] ps ls f e W (HM3.out.on h) HF.out HeW.out)
  have HN4 := Lib.hid (fun W (h : Below w3.heap.size w3 W) => lastTop_any F G g go n 100 _ [] ps ls f e W (HM3.out.on h) HF.out HeW.out (fun hc hi => pos_of HRR.out HOK.out.2 (fit_of_leads (l := 0) (startC_zero hc).2.2) hi))
  have HMY := Lib.hid (fun W (h : Below w3.heap.size w3 W) => rmay22_any F' g' n 100 rs f e A2 len2 c2 W (HR3.out.on h) HF.out HeW.out (by have := HOK.out.1; omega) HOK.out.2)
  simp only [Edg.cells] at HMY
  rw [HST.out] at HMY
  have hz := startC_zero HST.out
  have hlp : ps.length = n := by rw [HPA.out.1, hz.1]
  have hs0 : startC (rs.map some) n ps.length f e = 0 := by rw [HPA.out.1]; exact HST.out
  have hpos : (atR (rs.map some) e 0).inn = true → 0 < cntR (rs.map some) n f n (atR (rs.map some) e 0) := fun hi => pos_of HRR.out HOK.out.2 (fit_of_leads (l := 0) hz.2.2) hi
  have HTB := Lib.hid (fun W (h : Below w3.heap.size w3 W) => rtab18_any F' g' n 100 rs f e A2 len2 c2 ps W (HR3.out.on h) hz.2.1 HeW.out (by omega) (by have := HOK.out.1; omega) HOK.out.2 HCH.out (fit_of_leads (l := 0) hz.2.2) hlp HPA.out.1 HP.out (HI3.out.on h))
  have HAL := Lib.hid (fun (B : Option Addr) (d : Nat) (W : World) hA hB => rall22_any n A2 B len2 c2 d ps (tabV (rs.map some) n ps f e) W (by omega) hlp HPA.out.1 HP.out hA (tabV_length _ _ _ _ _) hB)
  have hma := mem_all HP.out hlp hs0 HCH.out (fit_of_leads (l := 0) hz.2.2)
  rw [hma] at HAL
  unfold BoolsOut at HTB
  simp only [Edg.cells] at HTB
  have HLE : Hid ((allM (rs.map some) n ps f e).length ≤ 128) := Lib.hid (by
    rw [allM_cnt hs0]
    exact Nat.le_trans (cntR_le n _) (Nat.le_trans (Nat.pow_le_pow_right (by omega) hn7) (by decide)))
  have HZ2 : Hid (∀ z ∈ allM (rs.map some) n ps f e, z ≤ 1000000) := Lib.hid (fun z hz => by
    have h1 := mem_lt HP.out hlp hs0 z hz
    have h2 : 2 ^ n ≤ 128 := Nat.le_trans (Nat.pow_le_pow_right (by omega) hn7) (by decide)
    omega)
  have HNI := Lib.hid (fun (kn : Nat) (h : kn < (allM (rs.map some) n ps f e).length) => nthC_in hs0 h)
  have HNO := Lib.hid (fun (kk : Int) (h : kk < 0 ∨ ((allM (rs.map some) n ps f e).length : Int) ≤ kk) => nthC_out hs0 h)
  have HKI := Lib.hid (fun (xx : Nat) (h : xx < 2 ^ n) => rankC_in HP.out hlp hs0 h)
  have HKO := Lib.hid (fun (xx : Int) (h : xx < 0 ∨ ((2 ^ n : Nat) : Int) ≤ xx) => rankC_out hs0 h)
  have HKA := Lib.hid (fun (kn : Nat) (h : kn < (allM (rs.map some) n ps f e).length) => rank_at HP.out hlp hs0 h)
  have HLN := Lib.hid (fun h => lastC_none hs0 hpos h)
  have HLS := Lib.hid (fun h => lastC_some hs0 h)
  have HSZ : Hid (∀ W, Calls Tryz.prog 20 #[.int .i64 (n : Nat)] W fun e w' => e = .returned (.int .i64 (2 ^ n : Nat)) ∧ W = w') := Lib.hid (fun W => size_any (n : Int) W (by omega))
  have hN2 : 2 ^ n ≤ 128 := Nat.le_trans (Nat.pow_le_pow_right (by omega) hn7) (by decide)
  generalize allM (rs.map some) n ps f e = xs at *
  generalize 2 ^ n = N2 at *
  have HN2x := Lib.hid (HN2.out xv HM2.out)
  generalize hv1 : nthC (rs.map some) n ps f e k = v1 at *
  generalize hv2 : rankC (rs.map some) n ps f e xv = v2 at *
  generalize hv3 : nthC (rs.map some) n ps f e 0 = v3 at *
  generalize hv4 : lastC (rs.map some) n ps f e = v4 at *
  have V1 := Lib.hid hv1
  have V2 := Lib.hid hv2
  have V3 := Lib.hid hv3
  have V4 := Lib.hid hv4
  clear hv1 hv2 hv3 hv4 hz hlp hs0 hpos hma
  obtain ⟨av, gv⟩ := v1
  obtain ⟨bv, hvv⟩ := v2
  obtain ⟨cv, iv⟩ := v3
  obtain ⟨dv, jv⟩ := v4
  simp only at HN1 HN2x HN3 HN4
  obtain ⟨L, hL⟩ : ∃ L, L = xs.length := ⟨_, rfl⟩
  have HL := Lib.hid hL
  rw [← hL] at HLE HNI HNO HKA HLN HLS
  have hL128 := HLE.out
  clear hL
  have HX : Hid ((xv < 0 ∧ bv = 0 ∧ hvv = 1) ∨ ((0 ≤ xv ∧ (N2 : Int) ≤ xv) ∧ bv = 0 ∧ hvv = 1) ∨ ∃ xn : Nat, xv = xn ∧ xn < N2 ∧ bv = (rankD xs ps xn : Nat) ∧ hvv = 0) := Lib.hid (by
    by_cases h1 : xv < 0
    · have := HKO.out xv (.inl h1)
      rw [V2.out] at this
      injection this with h2 h3
      exact .inl ⟨h1, h2, h3⟩
    · by_cases h2 : (N2 : Int) ≤ xv
      · have := HKO.out xv (.inr h2)
        rw [V2.out] at this
        injection this with h3 h4
        exact .inr (.inl ⟨⟨by omega, h2⟩, h3, h4⟩)
      · obtain ⟨xn, rfl⟩ : ∃ xn : Nat, xv = xn := ⟨xv.toNat, by omega⟩
        have := HKI.out xn (by omega)
        rw [V2.out] at this
        injection this with h3 h4
        exact .inr (.inr ⟨xn, rfl, by omega, h3, h4⟩))
  have HLL : Hid ((L = 0 ∧ cv = 0 ∧ iv = 11 ∧ dv = 0 ∧ jv = 11) ∨ (0 < L ∧ cv = ((xs[0]?.getD 0 : Nat) : Int) ∧ iv = 0 ∧ dv = ((xs[L - 1]?.getD 0 : Nat) : Int) ∧ jv = 0)) := Lib.hid (by
    rcases Nat.eq_zero_or_pos L with h0 | h0
    · have h1 := HNO.out 0 (.inr (by omega))
      have h2 := HLN.out h0
      rw [V3.out] at h1
      injection h1 with h3 h4
      injection h2 with h5 h6
      exact .inl ⟨h0, h3, h4, h5, h6⟩
    · have h1 := HNI.out 0 h0
      have h2 := HLS.out h0
      rw [show (((0 : Nat) : Int)) = 0 from rfl, V3.out] at h1
      injection h1 with h3 h4
      injection h2 with h5 h6
      exact .inr ⟨h0, h3, h4, h5, h6⟩)
  have HKK : Hid ((k < 0 ∧ av = 0 ∧ gv = 11) ∨ ((0 ≤ k ∧ (L : Int) ≤ k) ∧ av = 0 ∧ gv = 11) ∨ ∃ kn : Nat, k = kn ∧ kn < L ∧ av = ((xs[kn]?.getD 0 : Nat) : Int) ∧ gv = 0 ∧ rankC (rs.map some) n ps f e av = ((kn : Int), 0)) := Lib.hid (by
    by_cases h1 : k < 0
    · have := HNO.out k (.inl h1)
      rw [V1.out] at this
      injection this with h2 h3
      exact .inl ⟨h1, h2, h3⟩
    · by_cases h2 : (L : Int) ≤ k
      · have := HNO.out k (.inr h2)
        rw [V1.out] at this
        injection this with h3 h4
        exact .inr (.inl ⟨⟨by omega, h2⟩, h3, h4⟩)
      · obtain ⟨kn, rfl⟩ : ∃ kn : Nat, k = kn := ⟨k.toNat, by omega⟩
        have := HNI.out kn (by omega)
        rw [V1.out] at this
        injection this with h3 h4
        have h5 := HKA.out kn (by omega)
        rw [← h3] at h5
        exact .inr (.inr ⟨kn, rfl, by omega, h3, h4, h5⟩))
  have HGB : Hid (gv ≤ 11 ∧ hvv ≤ 11 ∧ iv ≤ 11 ∧ jv ≤ 11) := Lib.hid (by
    have h1 := HX.out
    have h2 := HLL.out
    have h3 := HKK.out
    refine ⟨?_, ?_, ?_, ?_⟩
    · rcases h3 with h | h | ⟨_, _, _, _, h, _⟩ <;> omega
    · rcases h1 with h | h | ⟨_, _, _, _, h⟩ <;> omega
    · rcases h2 with h | h <;> omega
    · rcases h2 with h | h <;> omega)
  have hg1 : IntKind.i64.wrap (gv : Int) = (gv : Int) := IntWalk.i64_in _ (by have := HGB.out; omega)
  have hg2 : IntKind.i64.wrap (hvv : Int) = (hvv : Int) := IntWalk.i64_in _ (by have := HGB.out; omega)
  have hg3 : IntKind.i64.wrap (iv : Int) = (iv : Int) := IntWalk.i64_in _ (by have := HGB.out; omega)
  have hg4 : IntKind.i64.wrap (jv : Int) = (jv : Int) := IntWalk.i64_in _ (by have := HGB.out; omega)
  have hi1 : (gv : Int) ≤ 11 := by have := HGB.out; omega
  have hi2 : (hvv : Int) ≤ 11 := by have := HGB.out; omega
  have hi3 : (iv : Int) ≤ 11 := by have := HGB.out; omega
  have hi4 : (jv : Int) ≤ 11 := by have := HGB.out; omega
  have HB3 := Lib.hid (Below.refl w3.heap.size w3)
  obtain ⟨a0, a1⟩ := FC.out w3 HB3.out
  go_wp2_with fail
  clear a0 a1
  refine (HN1.out _ HB3.out).mono ?_
  rintro x w4 ⟨rfl, hb4⟩
  have HB4 := Lib.hid (HB3.out.trans (hb4.mono HB3.out.size))
  clear hb4
  obtain ⟨a0, a1⟩ := FC.out w4 HB4.out
  go_wp2_with fail
  clear a0 a1
  refine (HN2x.out _ HB4.out).mono ?_
  rintro x w5 ⟨rfl, hb5⟩
  have HB5 := Lib.hid (HB4.out.trans (hb5.mono HB4.out.size))
  clear hb5
  obtain ⟨a0, a1⟩ := FC.out w5 HB5.out
  go_wp2_with fail
  clear a0 a1
  refine (HN3.out _ HB5.out).mono ?_
  rintro x w6 ⟨rfl, hb6⟩
  have HB6 := Lib.hid (HB5.out.trans (hb6.mono HB5.out.size))
  clear hb6
  obtain ⟨a0, a1⟩ := FC.out w6 HB6.out
  go_wp2_with fail
  clear a0 a1
  refine (HN4.out _ HB6.out).mono ?_
  rintro x w7 ⟨rfl, hb7⟩
  have HB7 := Lib.hid (HB6.out.trans (hb7.mono HB6.out.size))
  clear hb7
  have hri := refRight_any A2 len2 c2 ps w7 HPA.out.1 (by omega) (HI3.out.on HB7.out)
  rw [decide_eq_true HP.out] at hri
  have HRI := Lib.hid hri
  clear hri
  obtain ⟨a0, a1⟩ := FC.out w7 HB7.out
  go_wp2_with fail
  refine HRI.out.mono ?_
  rintro x w' ⟨rfl, rfl⟩
  go_wp2_with fail
  clear a0 a1
  refine (HMY.out _ HB7.out).mono ?_
  rintro x w8 ⟨rfl, hb8⟩
  have HB8 := Lib.hid (HB7.out.trans (hb8.mono HB7.out.size))
  clear hb8
  have HTB8 := Lib.hid (HTB.out w8 HB8.out)
  obtain ⟨a0, a1⟩ := FC.out w8 HB8.out
  go_wp2_with fail
  clear a0 a1
  refine HTB8.out.mono ?_
  rintro x wB ⟨gt, ct, rfl, hownB, hbB⟩
  have HAB := Lib.hid (HAL.out (some ⟨gt, 0, none⟩) ct wB ((HI3.out.on HB8.out).on hbB) (OwnF.rows hownB))
  have HBB := Lib.hid (HB8.out.trans (hbB.mono HB8.out.size))
  clear hownB hbB HTB8 HTB HAL
  go_wp2_with fail
  refine HAB.out.mono ?_
  rintro x wC ⟨vC, rfl, hownC, hbC⟩
  have HBC := Lib.hid (HBB.out.trans (hbC.mono HBB.out.size))
  obtain ⟨AC, nC, cC, rfl, hnC, hcC⟩ := hownC.form
  obtain rfl : nC = L := by rw [← hnC, List.length_map]; exact HL.out.symm
  have HINT := Lib.hid (OwnF.rows (d := (0 : Int)) hownC)
  have HIW := Lib.hid (HI3.out.on HBC.out)
  have HRD := Lib.hid (fun (xn : Nat) (hx : xn ≤ 1000000) (W : World) (h : Below wC.heap.size wC W) => rrank22_any A2 AC len2 c2 nC cC ps xs xn W HPA.out.1 HP.out (HIW.out.on h) HL.out.symm (by omega) HZ2.out hx (HINT.out.on h))
  have HSA := Lib.hid (fun (W : World) (hW : Below wC.heap.size wC W) => stSame_any F F' g g' n 100 rs W ((HS3.out.on HBC.out).on hW) ((HR3.out.on HBC.out).on hW))
  have HCL : Hid (0 < nC → ∃ b off, AC = some ⟨b, off, none⟩ ∧ ∀ kn, kn < nC → ∀ W, Below wC.heap.size wC W → W.cell? ⟨b, off + kn, none⟩ = some (.int .i64 ((xs[kn]?.getD 0 : Nat) : Int))) := Lib.hid (fun h0 => by
    obtain ⟨b, off, hA, hb, hc⟩ := HINT.out (by rw [List.length_map, ← HL.out]; omega)
    refine ⟨b, off, hA, fun kn hkn W hW => ?_⟩
    have h1 := hc kn (by rw [List.length_map, ← HL.out]; exact hkn)
    have h2 : (xs.map fun z => ((z : Nat) : Int))[kn]?.getD 0 = ((xs[kn]?.getD 0 : Nat) : Int) := by
      rw [List.getElem?_map]
      cases xs[kn]? <;> rfl
    rw [h2] at h1
    exact (hW.cell (p := ⟨b, off + kn, none⟩) hb).trans h1)
  have HEND : Hid (∀ W, Below wC.heap.size wC W → Below w.heap.size w W) := Lib.hid (fun W h => HbW.out.trans ((HB13.out.trans ((HBC.out.trans (h.mono HBC.out.size)).mono HB13.out.size)).mono HbW.out.size))
  clear hownC hbC hnC
  have B0 := Lib.hid (Below.refl wC.heap.size wC)
  rcases HX.out with ⟨hx, hb, hh⟩ | ⟨⟨hx0, hx⟩, hb, hh⟩ | ⟨xn, rfl, hxn, hb, hh⟩
  · have x1 : ((hvv : Int) != 1) = false := by rw [hh]; rfl
    have x2 : (bv != 0) = false := by rw [hb]; rfl
    clear hb hh
    rcases HLL.out with ⟨hL0, hcv, hi, hdv, hj⟩ | ⟨hL0, hcv, hi, hdv, hj⟩
    · have z1 : ((nC : Int) == 0) = true := by rw [hL0]; rfl
      have z2 : (nC == 0) = true := by rw [hL0]; rfl
      have z3 : ((iv : Int) == 11) = true := by rw [hi]; rfl
      have z4 : ((jv : Int) == 11) = true := by rw [hj]; rfl
      have z5 : (cv == 0) = true := by rw [hcv]; rfl
      have z6 : (dv == 0) = true := by rw [hdv]; rfl
      clear hcv hi hdv hj
      have HL0 := Lib.hid hL0
      clear hL0
      rcases HKK.out with ⟨hk, ha, hg⟩ | ⟨⟨hk0, hk⟩, ha, hg⟩ | ⟨kn, rfl, hkn, ha, hg, hr⟩
      · have y1 : ((gv : Int) != 11) = false := by rw [hg]; rfl
        have y2 : (av != 0) = false := by rw [ha]; rfl
        clear ha hg
        go_wp2_with fail
        go_ret
        exact ⟨rfl, HEND.out _ B0.out⟩
      · have y1 : ((gv : Int) != 11) = false := by rw [hg]; rfl
        have y2 : (av != 0) = false := by rw [ha]; rfl
        have y3 : ¬ k < 0 := by omega
        clear ha hg
        go_wp2_with fail
        go_ret
        exact ⟨rfl, HEND.out _ B0.out⟩
      · have := HL0.out; omega
    · obtain ⟨b, off, rfl, hcl⟩ := HCL.out hL0
      have HC0 := Lib.hid (fun W hW => hcl 0 hL0 W hW)
      rw [← hcv] at HC0
      have HC1 := Lib.hid (fun W hW => hcl (nC - 1) (by omega) W hW)
      rw [← hdv] at HC1
      have HCK := Lib.hid hcl
      clear hcl
      have z1 : ((nC : Int) == 0) = false := by rw [beq_eq_false_iff_ne]; omega
      have z2 : (nC == 0) = false := by rw [beq_eq_false_iff_ne]; omega
      have z3 : (((iv : Int) + (jv : Int)) == 0) = true := by rw [hi, hj]; rfl
      have z4 : (cv == cv) = true := by simp
      have z5 : (dv == dv) = true := by simp
      have z6 : ((nC : Int) - 1).toNat = nC - 1 := by omega
      have z7 : (0 : Int) < (nC : Int) := by omega
      have z8 : (0 : Int) ≤ (nC : Int) - 1 := by omega
      clear hcv hi hdv hj
      rcases HKK.out with ⟨hk, ha, hg⟩ | ⟨⟨hk0, hk⟩, ha, hg⟩ | ⟨kn, rfl, hkn, ha, hg, hr⟩
      · have l0 := HC0.out _ B0.out
        have l1 := HC1.out _ B0.out
        rw [Nat.add_zero] at l0
        have y1 : ((gv : Int) != 11) = false := by rw [hg]; rfl
        have y2 : (av != 0) = false := by rw [ha]; rfl
        clear ha hg
        go_wp2_with fail
        refine (HSA.out _ B0.out).mono ?_
        rintro x wE ⟨rfl, hbE⟩
        have BE := Lib.hid (B0.out.trans (hbE.mono B0.out.size))
        clear hbE
        go_wp2_with fail
        go_ret
        exact ⟨rfl, HEND.out _ BE.out⟩
      · have l0 := HC0.out _ B0.out
        have l1 := HC1.out _ B0.out
        rw [Nat.add_zero] at l0
        have y1 : ((gv : Int) != 11) = false := by rw [hg]; rfl
        have y2 : (av != 0) = false := by rw [ha]; rfl
        have y3 : ¬ k < 0 := by omega
        clear ha hg
        go_wp2_with fail
        refine (HSA.out _ B0.out).mono ?_
        rintro x wE ⟨rfl, hbE⟩
        have BE := Lib.hid (B0.out.trans (hbE.mono B0.out.size))
        clear hbE
        go_wp2_with fail
        go_ret
        exact ⟨rfl, HEND.out _ BE.out⟩
      · have y1 : ((gv : Int) != 0) = false := by rw [hg]; rfl
        have y2 : (av != av) = false := by simp
        have y3 : ¬ (nC : Int) ≤ (kn : Int) := by omega
        have y4 : (kn : Int) < (nC : Int) := by omega
        have HNA := Lib.hid (HN2.out av (by rw [ha]; have := HZ2.out; constructor <;> (have h9 : xs[kn]?.getD 0 ≤ 1000000 := (by
            rw [List.getElem?_eq_getElem (by rw [← HL.out]; exact hkn)]
            exact HZ2.out _ (List.getElem_mem _))) <;> omega) wC HBC.out)
        rw [hr] at HNA
        obtain ⟨a0, a1⟩ := FC.out wC HBC.out
        have HCK1 := Lib.hid (fun W hW => HCK.out kn hkn W hW)
        rw [← ha] at HCK1
        clear ha hg hr
        go_wp2_with fail
        refine HNA.out.mono ?_
        rintro x wD ⟨rfl, hbD⟩
        have BD := Lib.hid hbD
        clear hbD a0 a1
        have kc := HCK1.out _ BD.out
        have l0 := HC0.out _ BD.out
        have l1 := HC1.out _ BD.out
        rw [Nat.add_zero] at l0
        go_wp2_with fail
        refine (HSA.out _ BD.out).mono ?_
        rintro x wE ⟨rfl, hbE⟩
        have BE := Lib.hid (BD.out.trans (hbE.mono BD.out.size))
        clear hbE
        go_wp2_with fail
        go_ret
        exact ⟨rfl, HEND.out _ BE.out⟩
  · have x1 : ((hvv : Int) != 1) = false := by rw [hh]; rfl
    have x2 : (bv != 0) = false := by rw [hb]; rfl
    have x3 : ¬ xv < 0 := by omega
    clear hb hh
    rcases HLL.out with ⟨hL0, hcv, hi, hdv, hj⟩ | ⟨hL0, hcv, hi, hdv, hj⟩
    · have z1 : ((nC : Int) == 0) = true := by rw [hL0]; rfl
      have z2 : (nC == 0) = true := by rw [hL0]; rfl
      have z3 : ((iv : Int) == 11) = true := by rw [hi]; rfl
      have z4 : ((jv : Int) == 11) = true := by rw [hj]; rfl
      have z5 : (cv == 0) = true := by rw [hcv]; rfl
      have z6 : (dv == 0) = true := by rw [hdv]; rfl
      clear hcv hi hdv hj
      have HL0 := Lib.hid hL0
      clear hL0
      rcases HKK.out with ⟨hk, ha, hg⟩ | ⟨⟨hk0, hk⟩, ha, hg⟩ | ⟨kn, rfl, hkn, ha, hg, hr⟩
      · have y1 : ((gv : Int) != 11) = false := by rw [hg]; rfl
        have y2 : (av != 0) = false := by rw [ha]; rfl
        clear ha hg
        go_wp2_with fail
        refine (HSZ.out _).mono ?_
        rintro x w' ⟨rfl, rfl⟩
        go_wp2_with fail
        go_ret
        exact ⟨rfl, HEND.out _ B0.out⟩
      · have y1 : ((gv : Int) != 11) = false := by rw [hg]; rfl
        have y2 : (av != 0) = false := by rw [ha]; rfl
        have y3 : ¬ k < 0 := by omega
        clear ha hg
        go_wp2_with fail
        refine (HSZ.out _).mono ?_
        rintro x w' ⟨rfl, rfl⟩
        go_wp2_with fail
        go_ret
        exact ⟨rfl, HEND.out _ B0.out⟩
      · have := HL0.out; omega
    · obtain ⟨b, off, rfl, hcl⟩ := HCL.out hL0
      have HC0 := Lib.hid (fun W hW => hcl 0 hL0 W hW)
      rw [← hcv] at HC0
      have HC1 := Lib.hid (fun W hW => hcl (nC - 1) (by omega) W hW)
      rw [← hdv] at HC1
      have HCK := Lib.hid hcl
      clear hcl
      have z1 : ((nC : Int) == 0) = false := by rw [beq_eq_false_iff_ne]; omega
      have z2 : (nC == 0) = false := by rw [beq_eq_false_iff_ne]; omega
      have z3 : (((iv : Int) + (jv : Int)) == 0) = true := by rw [hi, hj]; rfl
      have z4 : (cv == cv) = true := by simp
      have z5 : (dv == dv) = true := by simp
      have z6 : ((nC : Int) - 1).toNat = nC - 1 := by omega
      have z7 : (0 : Int) < (nC : Int) := by omega
      have z8 : (0 : Int) ≤ (nC : Int) - 1 := by omega
      clear hcv hi hdv hj
      rcases HKK.out with ⟨hk, ha, hg⟩ | ⟨⟨hk0, hk⟩, ha, hg⟩ | ⟨kn, rfl, hkn, ha, hg, hr⟩
      · have l0 := HC0.out _ B0.out
        have l1 := HC1.out _ B0.out
        rw [Nat.add_zero] at l0
        have y1 : ((gv : Int) != 11) = false := by rw [hg]; rfl
        have y2 : (av != 0) = false := by rw [ha]; rfl
        clear ha hg
        go_wp2_with fail
        refine (HSZ.out _).mono ?_
        rintro x w' ⟨rfl, rfl⟩
        go_wp2_with fail
        refine (HSA.out _ B0.out).mono ?_
        rintro x wE ⟨rfl, hbE⟩
        have BE := Lib.hid (B0.out.trans (hbE.mono B0.out.size))
        clear hbE
        go_wp2_with fail
        go_ret
        exact ⟨rfl, HEND.out _ BE.out⟩
      · have l0 := HC0.out _ B0.out
        have l1 := HC1.out _ B0.out
        rw [Nat.add_zero] at l0
        have y1 : ((gv : Int) != 11) = false := by rw [hg]; rfl
        have y2 : (av != 0) = false := by rw [ha]; rfl
        have y3 : ¬ k < 0 := by omega
        clear ha hg
        go_wp2_with fail
        refine (HSZ.out _).mono ?_
        rintro x w' ⟨rfl, rfl⟩
        go_wp2_with fail
        refine (HSA.out _ B0.out).mono ?_
        rintro x wE ⟨rfl, hbE⟩
        have BE := Lib.hid (B0.out.trans (hbE.mono B0.out.size))
        clear hbE
        go_wp2_with fail
        go_ret
        exact ⟨rfl, HEND.out _ BE.out⟩
      · have y1 : ((gv : Int) != 0) = false := by rw [hg]; rfl
        have y2 : (av != av) = false := by simp
        have y3 : ¬ (nC : Int) ≤ (kn : Int) := by omega
        have y4 : (kn : Int) < (nC : Int) := by omega
        have HNA := Lib.hid (HN2.out av (by rw [ha]; have := HZ2.out; constructor <;> (have h9 : xs[kn]?.getD 0 ≤ 1000000 := (by
            rw [List.getElem?_eq_getElem (by rw [← HL.out]; exact hkn)]
            exact HZ2.out _ (List.getElem_mem _))) <;> omega) wC HBC.out)
        rw [hr] at HNA
        obtain ⟨a0, a1⟩ := FC.out wC HBC.out
        have HCK1 := Lib.hid (fun W hW => HCK.out kn hkn W hW)
        rw [← ha] at HCK1
        clear ha hg hr
        go_wp2_with fail
        refine (HSZ.out _).mono ?_
        rintro x w' ⟨rfl, rfl⟩
        go_wp2_with fail
        refine HNA.out.mono ?_
        rintro x wD ⟨rfl, hbD⟩
        have BD := Lib.hid hbD
        clear hbD a0 a1
        have kc := HCK1.out _ BD.out
        have l0 := HC0.out _ BD.out
        have l1 := HC1.out _ BD.out
        rw [Nat.add_zero] at l0
        go_wp2_with fail
        refine (HSA.out _ BD.out).mono ?_
        rintro x wE ⟨rfl, hbE⟩
        have BE := Lib.hid (BD.out.trans (hbE.mono BD.out.size))
        clear hbE
        go_wp2_with fail
        go_ret
        exact ⟨rfl, HEND.out _ BE.out⟩
  · have x1 : ((hvv : Int) != 0) = false := by rw [hh]; rfl
    have x2 : (bv != ((rankD xs ps xn : Nat) : Int)) = false := by rw [hb]; simp
    have x3 : ¬ (N2 : Int) ≤ (xn : Int) := by omega
    have HRX := Lib.hid (HRD.out xn (by omega) wC B0.out)
    clear hb hh
    rcases HLL.out with ⟨hL0, hcv, hi, hdv, hj⟩ | ⟨hL0, hcv, hi, hdv, hj⟩
    · have z1 : ((nC : Int) == 0) = true := by rw [hL0]; rfl
      have z2 : (nC == 0) = true := by rw [hL0]; rfl
      have z3 : ((iv : Int) == 11) = true := by rw [hi]; rfl
      have z4 : ((jv : Int) == 11) = true := by rw [hj]; rfl
      have z5 : (cv == 0) = true := by rw [hcv]; rfl
      have z6 : (dv == 0) = true := by rw [hdv]; rfl
      clear hcv hi hdv hj
      have HL0 := Lib.hid hL0
      clear hL0
      rcases HKK.out with ⟨hk, ha, hg⟩ | ⟨⟨hk0, hk⟩, ha, hg⟩ | ⟨kn, rfl, hkn, ha, hg, hr⟩
      · have y1 : ((gv : Int) != 11) = false := by rw [hg]; rfl
        have y2 : (av != 0) = false := by rw [ha]; rfl
        clear ha hg
        go_wp2_with fail
        refine (HSZ.out _).mono ?_
        rintro x w' ⟨rfl, rfl⟩
        go_wp2_with fail
        refine HRX.out.mono ?_
        rintro x w' ⟨rfl, rfl⟩
        go_wp2_with fail
        go_ret
        exact ⟨rfl, HEND.out _ B0.out⟩
      · have y1 : ((gv : Int) != 11) = false := by rw [hg]; rfl
        have y2 : (av != 0) = false := by rw [ha]; rfl
        have y3 : ¬ k < 0 := by omega
        clear ha hg
        go_wp2_with fail
        refine (HSZ.out _).mono ?_
        rintro x w' ⟨rfl, rfl⟩
        go_wp2_with fail
        refine HRX.out.mono ?_
        rintro x w' ⟨rfl, rfl⟩
        go_wp2_with fail
        go_ret
        exact ⟨rfl, HEND.out _ B0.out⟩
      · have := HL0.out; omega
    · obtain ⟨b, off, rfl, hcl⟩ := HCL.out hL0
      have HC0 := Lib.hid (fun W hW => hcl 0 hL0 W hW)
      rw [← hcv] at HC0
      have HC1 := Lib.hid (fun W hW => hcl (nC - 1) (by omega) W hW)
      rw [← hdv] at HC1
      have HCK := Lib.hid hcl
      clear hcl
      have z1 : ((nC : Int) == 0) = false := by rw [beq_eq_false_iff_ne]; omega
      have z2 : (nC == 0) = false := by rw [beq_eq_false_iff_ne]; omega
      have z3 : (((iv : Int) + (jv : Int)) == 0) = true := by rw [hi, hj]; rfl
      have z4 : (cv == cv) = true := by simp
      have z5 : (dv == dv) = true := by simp
      have z6 : ((nC : Int) - 1).toNat = nC - 1 := by omega
      have z7 : (0 : Int) < (nC : Int) := by omega
      have z8 : (0 : Int) ≤ (nC : Int) - 1 := by omega
      clear hcv hi hdv hj
      rcases HKK.out with ⟨hk, ha, hg⟩ | ⟨⟨hk0, hk⟩, ha, hg⟩ | ⟨kn, rfl, hkn, ha, hg, hr⟩
      · have l0 := HC0.out _ B0.out
        have l1 := HC1.out _ B0.out
        rw [Nat.add_zero] at l0
        have y1 : ((gv : Int) != 11) = false := by rw [hg]; rfl
        have y2 : (av != 0) = false := by rw [ha]; rfl
        clear ha hg
        go_wp2_with fail
        refine (HSZ.out _).mono ?_
        rintro x w' ⟨rfl, rfl⟩
        go_wp2_with fail
        refine HRX.out.mono ?_
        rintro x w' ⟨rfl, rfl⟩
        go_wp2_with fail
        refine (HSA.out _ B0.out).mono ?_
        rintro x wE ⟨rfl, hbE⟩
        have BE := Lib.hid (B0.out.trans (hbE.mono B0.out.size))
        clear hbE
        go_wp2_with fail
        go_ret
        exact ⟨rfl, HEND.out _ BE.out⟩
      · have l0 := HC0.out _ B0.out
        have l1 := HC1.out _ B0.out
        rw [Nat.add_zero] at l0
        have y1 : ((gv : Int) != 11) = false := by rw [hg]; rfl
        have y2 : (av != 0) = false := by rw [ha]; rfl
        have y3 : ¬ k < 0 := by omega
        clear ha hg
        go_wp2_with fail
        refine (HSZ.out _).mono ?_
        rintro x w' ⟨rfl, rfl⟩
        go_wp2_with fail
        refine HRX.out.mono ?_
        rintro x w' ⟨rfl, rfl⟩
        go_wp2_with fail
        refine (HSA.out _ B0.out).mono ?_
        rintro x wE ⟨rfl, hbE⟩
        have BE := Lib.hid (B0.out.trans (hbE.mono B0.out.size))
        clear hbE
        go_wp2_with fail
        go_ret
        exact ⟨rfl, HEND.out _ BE.out⟩
      · have y1 : ((gv : Int) != 0) = false := by rw [hg]; rfl
        have y2 : (av != av) = false := by simp
        have y3 : ¬ (nC : Int) ≤ (kn : Int) := by omega
        have y4 : (kn : Int) < (nC : Int) := by omega
        have HNA := Lib.hid (HN2.out av (by rw [ha]; have := HZ2.out; constructor <;> (have h9 : xs[kn]?.getD 0 ≤ 1000000 := (by
            rw [List.getElem?_eq_getElem (by rw [← HL.out]; exact hkn)]
            exact HZ2.out _ (List.getElem_mem _))) <;> omega) wC HBC.out)
        rw [hr] at HNA
        obtain ⟨a0, a1⟩ := FC.out wC HBC.out
        have HCK1 := Lib.hid (fun W hW => HCK.out kn hkn W hW)
        rw [← ha] at HCK1
        clear ha hg hr
        go_wp2_with fail
        refine (HSZ.out _).mono ?_
        rintro x w' ⟨rfl, rfl⟩
        go_wp2_with fail
        refine HRX.out.mono ?_
        rintro x w' ⟨rfl, rfl⟩
        go_wp2_with fail
        refine HNA.out.mono ?_
        rintro x wD ⟨rfl, hbD⟩
        have BD := Lib.hid hbD
        clear hbD a0 a1
        have kc := HCK1.out _ BD.out
        have l0 := HC0.out _ BD.out
        have l1 := HC1.out _ BD.out
        rw [Nat.add_zero] at l0
        go_wp2_with fail
        refine (HSA.out _ BD.out).mono ?_
        rintro x wE ⟨rfl, hbE⟩
        have BE := Lib.hid (BD.out.trans (hbE.mono BD.out.size))
        clear hbE
        go_wp2_with fail
        go_ret
        exact ⟨rfl, HEND.out _ BE.out⟩

theorem mranks_walk (n0 : Int) (A1 : Option Addr) (len1 c1 : Nat) (rl : List Rec) (A2 : Option Addr) (len2 c2 : Nat) (ps : List Int) (f : Int) (e : Edg) (k xv : Int) (w : World) (hr : RecsArg w A1 len1 c1 rl) (hp : IArg w A2 len2 c2 ps) (hf : (Lit.int .u8 f).wf = true) (he : e.Wf) (hm : (Lit.int .i64 k).wf = true) (hm2 : (Lit.int .i64 xv).wf = true) :
    Calls Tryz.prog 4 #[.int .i64 n0, .slice A1 len1 c1, .slice A2 len2 c2, .int .u8 f, .agg e.cells.toArray, .int .i64 k, .int .i64 xv] w fun e w' => e = .returned (.bool true) ∧ Below w.heap.size w w' := by
  by_cases hin : len1 ≤ 40 ∧ 0 ≤ n0 ∧ n0 ≤ 7 ∧ len2 ≤ 16
  · obtain ⟨h1, h2, h3, h4⟩ := hin
    obtain ⟨n, rfl⟩ : ∃ n : Nat, n0 = n := ⟨n0.toNat, by omega⟩
    have hf' := u8_wf hf
    have hm' := i64_of_wf hm
    have hm2' := i64_of_wf hm2
    by_cases hperm : IsPerm ps
    · cases hc : startC ((builtR n 100 rl).map some) n len2 f e with
      | zero => exact mranks_yes n A1 len1 c1 rl A2 len2 c2 ps f e k xv w hr hp hf' he hm' hm2' (by omega) h1 h4 hperm hc
      | succ j => exact mranks_code n A1 len1 c1 rl A2 len2 c2 ps f e k xv w hr hp hf' he hm' hm2' (by omega) h1 h4 hperm (j + 1) (by omega) hc
    · exact mranks_no n A1 len1 c1 rl A2 len2 c2 ps f e k xv w hr hp hf' he hm' hm2' (by omega) h1 h4 hperm
  · exact mranks_out n0 A1 len1 c1 A2 len2 c2 f e k xv w (by omega)
end Go.Proofs.YtciokbngjfeihaaGreat
