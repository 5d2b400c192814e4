/- MemberBest: the law answers true: the walk. -/
import Derived.Test.YtpjciaomhfeeeaaGreatMas
import Derived.Test.YtpjciaomhfeeeaaGreatMao
import Derived.Test.YtpjciaomhfeeeaaGreatMbMay
import Derived.Test.YtpjciaomhfeeeaaGreatMbrF
import Derived.Test.YtpjciaomhfeeeaaGreatSame
import Derived.Test.YtpjciaomhfeeeaaGreatArgsI
namespace Go.Proofs.YtpjciaomhfeeeaaGreat
open Go Go.RowKit Go.Shelf Go.Sort
set_option linter.unusedSimpArgs false
set_option linter.unusedVariables false

def wrongK (n : Nat) (ks : List Int) : Nat → Bool
  | 0 => ks.length != n
  | k + 1 => wrongK n ks k || (decide (ks[k]?.getD 0 < -1099511627776) || decide (1099511627776 < ks[k]?.getD 0))
theorem wrongK_all (n : Nat) (ks : List Int) : ∀ k, k ≤ ks.length → (wrongK n ks k = false ↔ ks.length = n ∧ ∀ j, j < k → -1099511627776 ≤ ks[j]?.getD 0 ∧ ks[j]?.getD 0 ≤ 1099511627776)
  | 0, _ => by simp [wrongK]
  | k + 1, h => by
    have ih := wrongK_all n ks k (by omega)
    rw [wrongK, Bool.or_eq_false_iff, ih, Bool.or_eq_false_iff, decide_eq_false_iff_not, decide_eq_false_iff_not]
    constructor
    · rintro ⟨⟨h1, h2⟩, h3, h4⟩
      refine ⟨h1, fun j hj => ?_⟩
      rcases Nat.lt_or_ge j k with h5 | h5
      · exact h2 j h5
      · obtain rfl : j = k := by omega
        omega
    · rintro ⟨h1, h2⟩
      have := h2 k (by omega)
      exact ⟨⟨h1, fun j hj => h2 j (by omega)⟩, by omega, by omega⟩
theorem wrongK_end (n : Nat) (ks : List Int) : wrongK n ks ks.length = false ↔ ks.length = n ∧ ∀ v ∈ ks, -1099511627776 ≤ v ∧ v ≤ 1099511627776 := by
  rw [wrongK_all n ks _ (Nat.le_refl _)]
  constructor
  · rintro ⟨h1, h2⟩
    refine ⟨h1, fun v hv => ?_⟩
    obtain ⟨j, hj, rfl⟩ := List.getElem_of_mem hv
    have := h2 j hj
    rw [List.getElem?_eq_getElem hj] at this
    exact this
  · rintro ⟨h1, h2⟩
    refine ⟨h1, fun j hj => ?_⟩
    rw [List.getElem?_eq_getElem hj]
    exact h2 _ (List.getElem_mem _)

set_option maxRecDepth 200000 in
set_option maxHeartbeats 16000000 in
theorem mbest_out (n0 : Int) (A1 : Option Addr) (len1 c1 : Nat) (A2 : Option Addr) (len2 c2 : Nat) (f : Int) (e : Edg) (A3 : Option Addr) (len3 c3 : Nat) (w : World) (hh : 40 < len1 ∨ n0 < 0 ∨ 7 < n0 ∨ 16 < len2 ∨ 30 < len3) :
    Calls Tryz.prog 3 #[.int .i64 n0, .slice A1 len1 c1, .slice A2 len2 c2, .int .u8 f, .agg e.cells.toArray, .slice A3 len3 c3] w fun e w' => e = .returned (.bool true) ∧ Below w.heap.size w w' := by
  obtain ⟨W, hW⟩ : ∃ W, W = w.alloc (.cells #[.int .u8 e.tag, .int .u32 e.pos] 26) := ⟨_, rfl⟩
  have hbW : Below w.heap.size w W := by rw [hW]; exact (Below.refl _ _).alloc (Nat.le_refl _) _
  have HWW := Lib.hid hW
  have HB := Lib.hid hbW
  clear hbW
  simp only [Edg.cells]
  rcases hh with hh | hh | hh | hh | hh
  all_goals
    go_enter Tryz.func3, Tryz.ntmps3
    go_wp2_with fail
    rw [← HWW.out]
    clear hW
    refine (alive22_any _).mono ?_
    rintro e w1 ⟨rfl, hb1⟩
    go_wp2_with fail
    all_goals
      go_ret
      exact ⟨rfl, HB.out.trans (hb1.mono HB.out.size)⟩

set_option maxRecDepth 200000 in
set_option maxHeartbeats 32000000 in
theorem mbest_no (n : Nat) (A1 : Option Addr) (len1 c1 : Nat) (rl : List Rec) (A2 : Option Addr) (len2 c2 : Nat) (ps : List Int) (f : Int) (e : Edg) (A3 : Option Addr) (len3 c3 : Nat) (ks : List Int) (w : World) (hr : RecsArg w A1 len1 c1 rl) (hp : IArg w A2 len2 c2 ps) (hf : 0 ≤ f ∧ f ≤ 255) (he : e.Wf) (hk : IArg w A3 len3 c3 ks)
    (hn7 : n ≤ 7) (hl1 : len1 ≤ 40) (hl2 : len2 ≤ 16) (hl3 : len3 ≤ 30) (hnp : ¬ IsPerm ps) :
    Calls Tryz.prog 3 #[.int .i64 (n : Nat), .slice A1 len1 c1, .slice A2 len2 c2, .int .u8 f, .agg e.cells.toArray, .slice A3 len3 c3] w fun e w' => e = .returned (.bool true) ∧ Below w.heap.size w w' := by
  have HeW := Lib.hid he
  obtain ⟨W, hW⟩ : ∃ W, W = w.alloc (.cells #[.int .u8 e.tag, .int .u32 e.pos] 26) := ⟨_, rfl⟩
  have hB0 : Blk W w.heap.size 26 #[.int .u8 e.tag, .int .u32 e.pos] := by rw [hW]; exact Blk.new w _ _
  have hbW : Below w.heap.size w W := by rw [hW]; exact (Below.refl _ _).alloc (Nat.le_refl _) _
  have FB : Hid (∀ W', Below W.heap.size W W' → Blk W' w.heap.size 26 #[.int .u8 e.tag, .int .u32 e.pos]) := Lib.hid fun W' hW' => hB0.onB hW'
  have HWS : Hid (W.heap.size = w.heap.size + 1) := Lib.hid (by rw [hW]; simp)
  have HWW := Lib.hid hW
  have HbW := Lib.hid hbW
  have HRA := Lib.hid hr
  have HPA := Lib.hid hp
  have HF := Lib.hid hf
  have HKA := Lib.hid hk
  have HNP := Lib.hid hnp
  clear hnp
  clear hB0 hbW hr hp he hf hk
  simp only [Edg.cells]
  go_enter Tryz.func3, Tryz.ntmps3
  go_wp2_with fail
  rw [← HWW.out]
  clear hW
  refine (alive22_any _).mono ?_
  rintro x w1 ⟨rfl, hb1⟩
  have hrow := (HRA.out.2.2.2.1).on (HbW.out.trans (hb1.mono HbW.out.size))
  have hink := (HKA.out.2.2.2.2.1).on (HbW.out.trans (hb1.mono HbW.out.size))
  have hint := (HPA.out.2.2.2.2.1).on (HbW.out.trans (hb1.mono HbW.out.size))
  go_wp2_with fail
  refine (built_any n 100 A1 _ _ _ _ (by omega) (by omega) HRA.out.1 (by omega) hrow HRA.out.2.2.2.2).mono ?_
  rintro x w2 ⟨g, g', rfl, F, F', hS, hR, hd, hF, hF', hb2⟩
  have hok := builtR_ok n 100 _ HRA.out.2.2.2.2
  have hrr := recsR_built n 100 rl
  generalize builtR n 100 rl = rs at *
  have hB12 : Below W.heap.size W w2 := hb1.trans (hb2.mono hb1.size)
  have HI2 := Lib.hid (hint.on hb2)
  have HK2 := Lib.hid (hink.on hb2)
  have HOK := Lib.hid hok
  have HS := Lib.hid hS
  have HR := Lib.hid hR
  have HRR := Lib.hid hrr
  have HCH := Lib.hid (chain_of hrr hok.2)
  have HCS := Lib.hid (hcs_of hrr hok.2)
  have HB12 := Lib.hid hB12
  clear hrow hint hink hok hrr hS hR hd hF hF' hb1 hb2 hB12
  go_wp2_with fail
  refine (orderOf_no A2 len2 c2 ps _ HPA.out.1 (by omega) HNP.out HI2.out).mono ?_
  rintro x w' ⟨rfl, rfl⟩
  have a0 : w2.cell? ⟨w.heap.size, 0, none⟩ = some (.int .u8 e.tag) := (FB.out w2 HB12.out).cell 0
  have a1 : w2.cell? ⟨w.heap.size, 1, none⟩ = some (.int .u32 e.pos) := (FB.out w2 HB12.out).cell 1
  have HN1 := Lib.hid (fun W => best_nil (some ⟨g, 0, none⟩) none (.inr rfl) f e.tag e.pos A3 len3 c3 W)
  go_wp2_with fail
  refine (HN1.out _).mono ?_
  rintro x w3 ⟨rfl, hb3⟩
  have HB3 := Lib.hid hb3
  clear hb3 a0 a1
  have hri := refRight_any A2 len2 c2 ps w3 HPA.out.1 (by omega) (HI2.out.on HB3.out)
  rw [decide_eq_false HNP.out] at hri
  have HRI := Lib.hid hri
  have HKV := Lib.hid (HK2.out.on HB3.out)
  clear hri
  go_wp2_with fail
  refine HRI.out.mono ?_
  rintro x w' ⟨rfl, rfl⟩
  have HWZ : Hid (wrongK n ks 0 = ((len3 : Int) != (n : Int))) := Lib.hid (by
    rw [wrongK, HKA.out.1, Bool.eq_iff_iff]
    simp only [bne_iff_ne, ne_eq]
    omega)
  have HWS : Hid (∀ k, wrongK n ks (k + 1) = (wrongK n ks k || (decide (ks[k]?.getD 0 < -1099511627776) || decide (1099511627776 < ks[k]?.getD 0)))) := Lib.hid (fun k => rfl)
  have HKL := Lib.hid HKA.out.1
  go_wp2_with fail
  go_loop [23, 24] (fun wv iv => ∃ k : Nat, k ≤ len3 ∧ iv = .int .i64 (k : Int) ∧ wv = .bool (wrongK n ks k)) (fun _ iv => len3 - (intOf iv).toNat)
  case atStart => exact ⟨0, Nat.zero_le _, rfl, by rw [HWZ.out]; try rfl⟩
  case round =>
    obtain ⟨k, hkn, rfl, rfl⟩ := hrel
    by_cases hlt : k < len3
    · have hlt' : (k : Int) < (len3 : Int) := by omega
      have hs := HWS.out k
      cases hw : wrongK n ks k with
      | true =>
        rw [hw, Bool.true_or] at hs
        have HS := Lib.hid hs
        clear hs hw
        go_wp2_with fail
        go_round
        case rel => exact ⟨k + 1, by omega, by go_num, by rw [HS.out]⟩
        case measure => simp [intOf]; omega
      | false =>
        obtain ⟨b, off, rfl, hbl, hc⟩ := HKV.out (by rw [HKL.out]; omega)
        have hck := hc k (by rw [HKL.out]; exact hlt)
        rw [hw, Bool.false_or] at hs
        generalize ks[k]?.getD 0 = v at *
        by_cases h1 : v < -1099511627776
        · rw [decide_eq_true h1, Bool.true_or] at hs
          have HS := Lib.hid hs
          clear hs hw hc
          go_wp2_with fail
          go_round
          case rel => exact ⟨k + 1, by omega, by go_num, by rw [HS.out]⟩
          case measure => simp [intOf]; omega
        · by_cases h2 : 1099511627776 < v
          · rw [decide_eq_false h1, decide_eq_true h2, Bool.false_or] at hs
            have HS := Lib.hid hs
            clear hs hw hc
            go_wp2_with fail
            go_round
            case rel => exact ⟨k + 1, by omega, by go_num, by rw [HS.out]⟩
            case measure => simp [intOf]; omega
          · rw [decide_eq_false h1, decide_eq_false h2, Bool.false_or] at hs
            have HS := Lib.hid hs
            clear hs hw hc
            go_wp2_with fail
            go_round
            case rel => exact ⟨k + 1, by omega, by go_num, by rw [HS.out]⟩
            case measure => simp [intOf]; omega
    · obtain rfl : k = len3 := by omega
      go_wp2_with fail
      go_ret
      exact ⟨rfl, HbW.out.trans ((HB12.out.trans (HB3.out.mono HB12.out.size)).mono HbW.out.size)⟩

set_option maxRecDepth 200000 in
set_option maxHeartbeats 32000000 in
theorem mbest_code (n : Nat) (A1 : Option Addr) (len1 c1 : Nat) (rl : List Rec) (A2 : Option Addr) (len2 c2 : Nat) (ps : List Int) (f : Int) (e : Edg) (A3 : Option Addr) (len3 c3 : Nat) (ks : List Int) (w : World) (hr : RecsArg w A1 len1 c1 rl) (hp : IArg w A2 len2 c2 ps) (hf : 0 ≤ f ∧ f ≤ 255) (he : e.Wf) (hk : IArg w A3 len3 c3 ks)
    (hn7 : n ≤ 7) (hl1 : len1 ≤ 40) (hl2 : len2 ≤ 16) (hl3 : len3 ≤ 30) (hperm : IsPerm ps) (code : Nat) (hc0 : code ≠ 0) (hcode : startC ((builtR n 100 rl).map some) n len2 f e = code) :
    Calls Tryz.prog 3 #[.int .i64 (n : Nat), .slice A1 len1 c1, .slice A2 len2 c2, .int .u8 f, .agg e.cells.toArray, .slice A3 len3 c3] w fun e w' => e = .returned (.bool true) ∧ Below w.heap.size w w' := by
  have HeW := Lib.hid he
  obtain ⟨W, hW⟩ : ∃ W, W = w.alloc (.cells #[.int .u8 e.tag, .int .u32 e.pos] 26) := ⟨_, rfl⟩
  have hB0 : Blk W w.heap.size 26 #[.int .u8 e.tag, .int .u32 e.pos] := by rw [hW]; exact Blk.new w _ _
  have hbW : Below w.heap.size w W := by rw [hW]; exact (Below.refl _ _).alloc (Nat.le_refl _) _
  have FB : Hid (∀ W', Below W.heap.size W W' → Blk W' w.heap.size 26 #[.int .u8 e.tag, .int .u32 e.pos]) := Lib.hid fun W' hW' => hB0.onB hW'
  have HWS : Hid (W.heap.size = w.heap.size + 1) := Lib.hid (by rw [hW]; simp)
  have HWW := Lib.hid hW
  have HbW := Lib.hid hbW
  have HRA := Lib.hid hr
  have HPA := Lib.hid hp
  have HF := Lib.hid hf
  have HKA := Lib.hid hk
  have HP := Lib.hid hperm
  have HCO := Lib.hid hcode
  clear hperm hcode
  clear hB0 hbW hr hp he hf hk
  simp only [Edg.cells]
  go_enter Tryz.func3, Tryz.ntmps3
  go_wp2_with fail
  rw [← HWW.out]
  clear hW
  refine (alive22_any _).mono ?_
  rintro x w1 ⟨rfl, hb1⟩
  have hrow := (HRA.out.2.2.2.1).on (HbW.out.trans (hb1.mono HbW.out.size))
  have hink := (HKA.out.2.2.2.2.1).on (HbW.out.trans (hb1.mono HbW.out.size))
  have hint := (HPA.out.2.2.2.2.1).on (HbW.out.trans (hb1.mono HbW.out.size))
  go_wp2_with fail
  refine (built_any n 100 A1 _ _ _ _ (by omega) (by omega) HRA.out.1 (by omega) hrow HRA.out.2.2.2.2).mono ?_
  rintro x w2 ⟨g, g', rfl, F, F', hS, hR, hd, hF, hF', hb2⟩
  have hok := builtR_ok n 100 _ HRA.out.2.2.2.2
  have hrr := recsR_built n 100 rl
  have HST := HCO
  clear HCO
  generalize builtR n 100 rl = rs at *
  have hB12 : Below W.heap.size W w2 := hb1.trans (hb2.mono hb1.size)
  have HI2 := Lib.hid (hint.on hb2)
  have HK2 := Lib.hid (hink.on hb2)
  have HOK := Lib.hid hok
  have HS := Lib.hid hS
  have HR := Lib.hid hR
  have HRR := Lib.hid hrr
  have HCH := Lib.hid (chain_of hrr hok.2)
  have HCS := Lib.hid (hcs_of hrr hok.2)
  have HB12 := Lib.hid hB12
  clear hrow hint hink hok hrr hS hR hd hF hF' hb1 hb2 hB12
  go_wp2_with fail
  refine (orderOf_yes A2 len2 c2 ps _ HPA.out.1 HP.out HI2.out).mono ?_
  rintro x w3 ⟨go, G, ls, rfl, hO, hI, hG, hb3⟩
  have HM3 := Lib.hid (show MbAt w3 F G g go n 100 (rs.map some) [] ps ls from ⟨HS.out.on hb3, hO, ⟨HP.out, hI⟩, HCS.out⟩)
  have HS3 := Lib.hid (HS.out.on hb3)
  have HR3 := Lib.hid (HR.out.on hb3)
  have HI3 := Lib.hid (HI2.out.on hb3)
  have HK3 := Lib.hid (HK2.out.on hb3)
  have HB13 := Lib.hid (HB12.out.trans (hb3.mono HB12.out.size))
  clear hO hI hG hb3 HS HR HI2 HB12 HK2
  have FC : Hid (∀ W', Below w3.heap.size w3 W' → W'.cell? ⟨w.heap.size, 0, none⟩ = some (.int .u8 e.tag) ∧ W'.cell? ⟨w.heap.size, 1, none⟩ = some (.int .u32 e.pos)) := Lib.hid (fun W' h => by
    have hb := FB.out W' (HB13.out.trans (h.mono HB13.out.size))
    exact ⟨hb.cell 0, hb.cell 1⟩)
  have HN1 := Lib.hid (fun W (h : Below w3.heap.size w3 W) => bestTop_any F G g go n 100 _ [] ps ls f e A3 len3 c3 ks W (HM3.out.on h) HF.out HeW.out HKA.out.1 (by omega) (HK3.out.on h) (fun v hv => i64_of_wf (HKA.out.2.2.2.2.2 v hv)))
  have HMY := Lib.hid (fun W (h : Below w3.heap.size w3 W) => rmay22_any F' g' n 100 rs f e A2 len2 c2 W (HR3.out.on h) HF.out HeW.out (by have := HOK.out.1; omega) HOK.out.2)
  simp only [Edg.cells] at HMY
  rw [HST.out] at HMY
  unfold TripOut at HN1
  have hn1 : bestC (rs.map some) n ps f e ks = (0, 0, code) := by unfold bestC; rw [HPA.out.1, HST.out, if_pos hc0]
  rw [hn1] at HN1
  have hc4 : code = 1 ∨ code = 3 ∨ code = 4 := by
    have h1 := HST.out
    unfold startC mayC at h1
    (repeat' split at h1) <;> omega
  clear hn1
  have HB3 := Lib.hid (Below.refl w3.heap.size w3)
  rcases hc4 with rfl | rfl | rfl
  all_goals
    obtain ⟨a0, a1⟩ := FC.out w3 HB3.out
    go_wp2_with fail
    clear a0 a1
    refine (HN1.out _ HB3.out).mono ?_
    rintro x w4 ⟨rfl, hb4⟩
    have HB4 := Lib.hid (HB3.out.trans (hb4.mono HB3.out.size))
    clear hb4
    have hri := refRight_any A2 len2 c2 ps w4 HPA.out.1 (by omega) (HI3.out.on HB4.out)
    rw [decide_eq_true HP.out] at hri
    have HRI := Lib.hid hri
    clear hri
    obtain ⟨a0, a1⟩ := FC.out w4 HB4.out
    go_wp2_with fail
    refine HRI.out.mono ?_
    rintro x w' ⟨rfl, rfl⟩
    go_wp2_with fail
    clear a0 a1
    refine (HMY.out _ HB4.out).mono ?_
    rintro x w5 ⟨rfl, hb5⟩
    have HB5 := Lib.hid (HB4.out.trans (hb5.mono HB4.out.size))
    clear hb5
    have HKV := Lib.hid (HK3.out.on HB5.out)
    have HWZ : Hid (wrongK n ks 0 = ((len3 : Int) != (n : Int))) := Lib.hid (by
      rw [wrongK, HKA.out.1, Bool.eq_iff_iff]
      simp only [bne_iff_ne, ne_eq]
      omega)
    have HWS : Hid (∀ k, wrongK n ks (k + 1) = (wrongK n ks k || (decide (ks[k]?.getD 0 < -1099511627776) || decide (1099511627776 < ks[k]?.getD 0)))) := Lib.hid (fun k => rfl)
    have HKL := Lib.hid HKA.out.1
    go_wp2_with fail
    go_loop [23, 24] (fun wv iv => ∃ k : Nat, k ≤ len3 ∧ iv = .int .i64 (k : Int) ∧ wv = .bool (wrongK n ks k)) (fun _ iv => len3 - (intOf iv).toNat)
    case atStart => exact ⟨0, Nat.zero_le _, rfl, by rw [HWZ.out]; try rfl⟩
    case round =>
      obtain ⟨k, hkn, rfl, rfl⟩ := hrel
      by_cases hlt : k < len3
      · have hlt' : (k : Int) < (len3 : Int) := by omega
        have hs := HWS.out k
        cases hw : wrongK n ks k with
        | true =>
          rw [hw, Bool.true_or] at hs
          have HS := Lib.hid hs
          clear hs hw
          go_wp2_with fail
          go_round
          case rel => exact ⟨k + 1, by omega, by go_num, by rw [HS.out]⟩
          case measure => simp [intOf]; omega
        | false =>
          obtain ⟨b, off, rfl, hbl, hc⟩ := HKV.out (by rw [HKL.out]; omega)
          have hck := hc k (by rw [HKL.out]; exact hlt)
          rw [hw, Bool.false_or] at hs
          generalize ks[k]?.getD 0 = v at *
          by_cases h1 : v < -1099511627776
          · rw [decide_eq_true h1, Bool.true_or] at hs
            have HS := Lib.hid hs
            clear hs hw hc
            go_wp2_with fail
            go_round
            case rel => exact ⟨k + 1, by omega, by go_num, by rw [HS.out]⟩
            case measure => simp [intOf]; omega
          · by_cases h2 : 1099511627776 < v
            · rw [decide_eq_false h1, decide_eq_true h2, Bool.false_or] at hs
              have HS := Lib.hid hs
              clear hs hw hc
              go_wp2_with fail
              go_round
              case rel => exact ⟨k + 1, by omega, by go_num, by rw [HS.out]⟩
              case measure => simp [intOf]; omega
            · rw [decide_eq_false h1, decide_eq_false h2, Bool.false_or] at hs
              have HS := Lib.hid hs
              clear hs hw hc
              go_wp2_with fail
              go_round
              case rel => exact ⟨k + 1, by omega, by go_num, by rw [HS.out]⟩
              case measure => simp [intOf]; omega
      · obtain rfl : k = len3 := by omega
        go_wp2_with fail
        go_ret
        exact ⟨rfl, HbW.out.trans ((HB13.out.trans (HB5.out.mono HB13.out.size)).mono HbW.out.size)⟩

set_option maxRecDepth 200000 in
set_option maxHeartbeats 32000000 in
theorem mbest_wrong (n : Nat) (A1 : Option Addr) (len1 c1 : Nat) (rl : List Rec) (A2 : Option Addr) (len2 c2 : Nat) (ps : List Int) (f : Int) (e : Edg) (A3 : Option Addr) (len3 c3 : Nat) (ks : List Int) (w : World) (hr : RecsArg w A1 len1 c1 rl) (hp : IArg w A2 len2 c2 ps) (hf : 0 ≤ f ∧ f ≤ 255) (he : e.Wf) (hk : IArg w A3 len3 c3 ks)
    (hn7 : n ≤ 7) (hl1 : len1 ≤ 40) (hl2 : len2 ≤ 16) (hl3 : len3 ≤ 30) (hperm : IsPerm ps) (hcode : startC ((builtR n 100 rl).map some) n len2 f e = 0) (hwr : wrongK n ks len3 = true) :
    Calls Tryz.prog 3 #[.int .i64 (n : Nat), .slice A1 len1 c1, .slice A2 len2 c2, .int .u8 f, .agg e.cells.toArray, .slice A3 len3 c3] w fun e w' => e = .returned (.bool true) ∧ Below w.heap.size w w' := by
  have HeW := Lib.hid he
  obtain ⟨W, hW⟩ : ∃ W, W = w.alloc (.cells #[.int .u8 e.tag, .int .u32 e.pos] 26) := ⟨_, rfl⟩
  have hB0 : Blk W w.heap.size 26 #[.int .u8 e.tag, .int .u32 e.pos] := by rw [hW]; exact Blk.new w _ _
  have hbW : Below w.heap.size w W := by rw [hW]; exact (Below.refl _ _).alloc (Nat.le_refl _) _
  have FB : Hid (∀ W', Below W.heap.size W W' → Blk W' w.heap.size 26 #[.int .u8 e.tag, .int .u32 e.pos]) := Lib.hid fun W' hW' => hB0.onB hW'
  have HWS : Hid (W.heap.size = w.heap.size + 1) := Lib.hid (by rw [hW]; simp)
  have HWW := Lib.hid hW
  have HbW := Lib.hid hbW
  have HRA := Lib.hid hr
  have HPA := Lib.hid hp
  have HF := Lib.hid hf
  have HKA := Lib.hid hk
  have HP := Lib.hid hperm
  have HCO := Lib.hid hcode
  have HWR := Lib.hid hwr
  clear hperm hcode hwr
  clear hB0 hbW hr hp he hf hk
  simp only [Edg.cells]
  go_enter Tryz.func3, Tryz.ntmps3
  go_wp2_with fail
  rw [← HWW.out]
  clear hW
  refine (alive22_any _).mono ?_
  rintro x w1 ⟨rfl, hb1⟩
  have hrow := (HRA.out.2.2.2.1).on (HbW.out.trans (hb1.mono HbW.out.size))
  have hink := (HKA.out.2.2.2.2.1).on (HbW.out.trans (hb1.mono HbW.out.size))
  have hint := (HPA.out.2.2.2.2.1).on (HbW.out.trans (hb1.mono HbW.out.size))
  go_wp2_with fail
  refine (built_any n 100 A1 _ _ _ _ (by omega) (by omega) HRA.out.1 (by omega) hrow HRA.out.2.2.2.2).mono ?_
  rintro x w2 ⟨g, g', rfl, F, F', hS, hR, hd, hF, hF', hb2⟩
  have hok := builtR_ok n 100 _ HRA.out.2.2.2.2
  have hrr := recsR_built n 100 rl
  have HST := HCO
  clear HCO
  generalize builtR n 100 rl = rs at *
  have hB12 : Below W.heap.size W w2 := hb1.trans (hb2.mono hb1.size)
  have HI2 := Lib.hid (hint.on hb2)
  have HK2 := Lib.hid (hink.on hb2)
  have HOK := Lib.hid hok
  have HS := Lib.hid hS
  have HR := Lib.hid hR
  have HRR := Lib.hid hrr
  have HCH := Lib.hid (chain_of hrr hok.2)
  have HCS := Lib.hid (hcs_of hrr hok.2)
  have HB12 := Lib.hid hB12
  clear hrow hint hink hok hrr hS hR hd hF hF' hb1 hb2 hB12
  go_wp2_with fail
  refine (orderOf_yes A2 len2 c2 ps _ HPA.out.1 HP.out HI2.out).mono ?_
  rintro x w3 ⟨go, G, ls, rfl, hO, hI, hG, hb3⟩
  have HM3 := Lib.hid (show MbAt w3 F G g go n 100 (rs.map some) [] ps ls from ⟨HS.out.on hb3, hO, ⟨HP.out, hI⟩, HCS.out⟩)
  have HS3 := Lib.hid (HS.out.on hb3)
  have HR3 := Lib.hid (HR.out.on hb3)
  have HI3 := Lib.hid (HI2.out.on hb3)
  have HK3 := Lib.hid (HK2.out.on hb3)
  have HB13 := Lib.hid (HB12.out.trans (hb3.mono HB12.out.size))
  clear hO hI hG hb3 HS HR HI2 HB12 HK2
  have FC : Hid (∀ W', Below w3.heap.size w3 W' → W'.cell? ⟨w.heap.size, 0, none⟩ = some (.int .u8 e.tag) ∧ W'.cell? ⟨w.heap.size, 1, none⟩ = some (.int .u32 e.pos)) := Lib.hid (fun W' h => by
    have hb := FB.out W' (HB13.out.trans (h.mono HB13.out.size))
    exact ⟨hb.cell 0, hb.cell 1⟩)
  have HN1 := Lib.hid (fun W (h : Below w3.heap.size w3 W) => bestTop_any F G g go n 100 _ [] ps ls f e A3 len3 c3 ks W (HM3.out.on h) HF.out HeW.out HKA.out.1 (by omega) (HK3.out.on h) (fun v hv => i64_of_wf (HKA.out.2.2.2.2.2 v hv)))
  have HMY := Lib.hid (fun W (h : Below w3.heap.size w3 W) => rmay22_any F' g' n 100 rs f e A2 len2 c2 W (HR3.out.on h) HF.out HeW.out (by have := HOK.out.1; omega) HOK.out.2)
  simp only [Edg.cells] at HMY
  rw [HST.out] at HMY
  unfold TripOut at HN1
  have hn1 : bestC (rs.map some) n ps f e ks = (0, 0, 1) := by
    unfold bestC
    rw [HPA.out.1, HST.out, if_neg (by omega)]
    rw [if_pos]
    by_cases h1 : ks.length = n
    · refine .inr (fun h2 => ?_)
      have := (wrongK_end n ks).2 ⟨h1, h2⟩
      rw [HKA.out.1, HWR.out] at this
      cases this
    · exact .inl h1
  rw [hn1] at HN1
  clear hn1
  have HB3 := Lib.hid (Below.refl w3.heap.size w3)
  obtain ⟨a0, a1⟩ := FC.out w3 HB3.out
  go_wp2_with fail
  clear a0 a1
  refine (HN1.out _ HB3.out).mono ?_
  rintro x w4 ⟨rfl, hb4⟩
  have HB4 := Lib.hid (HB3.out.trans (hb4.mono HB3.out.size))
  clear hb4
  have hri := refRight_any A2 len2 c2 ps w4 HPA.out.1 (by omega) (HI3.out.on HB4.out)
  rw [decide_eq_true HP.out] at hri
  have HRI := Lib.hid hri
  clear hri
  obtain ⟨a0, a1⟩ := FC.out w4 HB4.out
  go_wp2_with fail
  refine HRI.out.mono ?_
  rintro x w' ⟨rfl, rfl⟩
  go_wp2_with fail
  clear a0 a1
  refine (HMY.out _ HB4.out).mono ?_
  rintro x w5 ⟨rfl, hb5⟩
  have HB5 := Lib.hid (HB4.out.trans (hb5.mono HB4.out.size))
  clear hb5
  have HKV := Lib.hid (HK3.out.on HB5.out)
  have HWZ : Hid (wrongK n ks 0 = ((len3 : Int) != (n : Int))) := Lib.hid (by
    rw [wrongK, HKA.out.1, Bool.eq_iff_iff]
    simp only [bne_iff_ne, ne_eq]
    omega)
  have HWS : Hid (∀ k, wrongK n ks (k + 1) = (wrongK n ks k || (decide (ks[k]?.getD 0 < -1099511627776) || decide (1099511627776 < ks[k]?.getD 0)))) := Lib.hid (fun k => rfl)
  have HKL := Lib.hid HKA.out.1
  go_wp2_with fail
  go_loop [23, 24] (fun wv iv => ∃ k : Nat, k ≤ len3 ∧ iv = .int .i64 (k : Int) ∧ wv = .bool (wrongK n ks k)) (fun _ iv => len3 - (intOf iv).toNat)
  case atStart => exact ⟨0, Nat.zero_le _, rfl, by rw [HWZ.out]; try rfl⟩
  case round =>
    obtain ⟨k, hkn, rfl, rfl⟩ := hrel
    by_cases hlt : k < len3
    · have hlt' : (k : Int) < (len3 : Int) := by omega
      have hs := HWS.out k
      cases hw : wrongK n ks k with
      | true =>
        rw [hw, Bool.true_or] at hs
        have HS := Lib.hid hs
        clear hs hw
        go_wp2_with fail
        go_round
        case rel => exact ⟨k + 1, by omega, by go_num, by rw [HS.out]⟩
        case measure => simp [intOf]; omega
      | false =>
        obtain ⟨b, off, rfl, hbl, hc⟩ := HKV.out (by rw [HKL.out]; omega)
        have hck := hc k (by rw [HKL.out]; exact hlt)
        rw [hw, Bool.false_or] at hs
        generalize ks[k]?.getD 0 = v at *
        by_cases h1 : v < -1099511627776
        · rw [decide_eq_true h1, Bool.true_or] at hs
          have HS := Lib.hid hs
          clear hs hw hc
          go_wp2_with fail
          go_round
          case rel => exact ⟨k + 1, by omega, by go_num, by rw [HS.out]⟩
          case measure => simp [intOf]; omega
        · by_cases h2 : 1099511627776 < v
          · rw [decide_eq_false h1, decide_eq_true h2, Bool.false_or] at hs
            have HS := Lib.hid hs
            clear hs hw hc
            go_wp2_with fail
            go_round
            case rel => exact ⟨k + 1, by omega, by go_num, by rw [HS.out]⟩
            case measure => simp [intOf]; omega
          · rw [decide_eq_false h1, decide_eq_false h2, Bool.false_or] at hs
            have HS := Lib.hid hs
            clear hs hw hc
            go_wp2_with fail
            go_round
            case rel => exact ⟨k + 1, by omega, by go_num, by rw [HS.out]⟩
            case measure => simp [intOf]; omega
    · obtain rfl : k = len3 := by omega
      have hwr := HWR.out
      go_wp2_with fail
      go_ret
      exact ⟨rfl, HbW.out.trans ((HB13.out.trans (HB5.out.mono HB13.out.size)).mono HbW.out.size)⟩

set_option maxRecDepth 200000 in
set_option maxHeartbeats 32000000 in
theorem mbest_yes (n : Nat) (A1 : Option Addr) (len1 c1 : Nat) (rl : List Rec) (A2 : Option Addr) (len2 c2 : Nat) (ps : List Int) (f : Int) (e : Edg) (A3 : Option Addr) (len3 c3 : Nat) (ks : List Int) (w : World) (hr : RecsArg w A1 len1 c1 rl) (hp : IArg w A2 len2 c2 ps) (hf : 0 ≤ f ∧ f ≤ 255) (he : e.Wf) (hk : IArg w A3 len3 c3 ks)
    (hn7 : n ≤ 7) (hl1 : len1 ≤ 40) (hl2 : len2 ≤ 16) (hl3 : len3 ≤ 30) (hperm : IsPerm ps) (hcode : startC ((builtR n 100 rl).map some) n len2 f e = 0) (hwr : wrongK n ks len3 = false) :
    Calls Tryz.prog 3 #[.int .i64 (n : Nat), .slice A1 len1 c1, .slice A2 len2 c2, .int .u8 f, .agg e.cells.toArray, .slice A3 len3 c3] w fun e w' => e = .returned (.bool true) ∧ Below w.heap.size w w' := by
  have HeW := Lib.hid he
  obtain ⟨W, hW⟩ : ∃ W, W = w.alloc (.cells #[.int .u8 e.tag, .int .u32 e.pos] 26) := ⟨_, rfl⟩
  have hB0 : Blk W w.heap.size 26 #[.int .u8 e.tag, .int .u32 e.pos] := by rw [hW]; exact Blk.new w _ _
  have hbW : Below w.heap.size w W := by rw [hW]; exact (Below.refl _ _).alloc (Nat.le_refl _) _
  have FB : Hid (∀ W', Below W.heap.size W W' → Blk W' w.heap.size 26 #[.int .u8 e.tag, .int .u32 e.pos]) := Lib.hid fun W' hW' => hB0.onB hW'
  have HWS : Hid (W.heap.size = w.heap.size + 1) := Lib.hid (by rw [hW]; simp)
  have HWW := Lib.hid hW
  have HbW := Lib.hid hbW
  have HRA := Lib.hid hr
  have HPA := Lib.hid hp
  have HF := Lib.hid hf
  have HKA := Lib.hid hk
  have HP := Lib.hid hperm
  have HCO := Lib.hid hcode
  have HWR := Lib.hid hwr
  clear hperm hcode hwr
  clear hB0 hbW hr hp he hf hk
  simp only [Edg.cells]
  go_enter Tryz.func3, Tryz.ntmps3
  go_wp2_with fail
  rw [← HWW.out]
  clear hW
  refine (alive22_any _).mono ?_
  rintro x w1 ⟨rfl, hb1⟩
  have hrow := (HRA.out.2.2.2.1).on (HbW.out.trans (hb1.mono HbW.out.size))
  have hink := (HKA.out.2.2.2.2.1).on (HbW.out.trans (hb1.mono HbW.out.size))
  have hint := (HPA.out.2.2.2.2.1).on (HbW.out.trans (hb1.mono HbW.out.size))
  go_wp2_with fail
  refine (built_any n 100 A1 _ _ _ _ (by omega) (by omega) HRA.out.1 (by omega) hrow HRA.out.2.2.2.2).mono ?_
  rintro x w2 ⟨g, g', rfl, F, F', hS, hR, hd, hF, hF', hb2⟩
  have hok := builtR_ok n 100 _ HRA.out.2.2.2.2
  have hrr := recsR_built n 100 rl
  have HST := HCO
  clear HCO
  generalize builtR n 100 rl = rs at *
  have hB12 : Below W.heap.size W w2 := hb1.trans (hb2.mono hb1.size)
  have HI2 := Lib.hid (hint.on hb2)
  have HK2 := Lib.hid (hink.on hb2)
  have HOK := Lib.hid hok
  have HS := Lib.hid hS
  have HR := Lib.hid hR
  have HRR := Lib.hid hrr
  have HCH := Lib.hid (chain_of hrr hok.2)
  have HCS := Lib.hid (hcs_of hrr hok.2)
  have HB12 := Lib.hid hB12
  clear hrow hint hink hok hrr hS hR hd hF hF' hb1 hb2 hB12
  go_wp2_with fail
  refine (orderOf_yes A2 len2 c2 ps _ HPA.out.1 HP.out HI2.out).mono ?_
  rintro x w3 ⟨go, G, ls, rfl, hO, hI, hG, hb3⟩
  have HM3 := Lib.hid (show MbAt w3 F G g go n 100 (rs.map some) [] ps ls from ⟨HS.out.on hb3, hO, ⟨HP.out, hI⟩, HCS.out⟩)
  have HS3 := Lib.hid (HS.out.on hb3)
  have HR3 := Lib.hid (HR.out.on hb3)
  have HI3 := Lib.hid (HI2.out.on hb3)
  have HK3 := Lib.hid (HK2.out.on hb3)
  have HB13 := Lib.hid (HB12.out.trans (hb3.mono HB12.out.size))
  clear hO hI hG hb3 HS HR HI2 HB12 HK2
  have FC : Hid (∀ W', Below w3.heap.size w3 W' → W'.cell? ⟨w.heap.size, 0, none⟩ = some (.int .u8 e.tag) ∧ W'.cell? ⟨w.heap.size, 1, none⟩ = some (.int .u32 e.pos)) := Lib.hid (fun W' h => by
    have hb := FB.out W' (HB13.out.trans (h.mono HB13.out.size))
    exact ⟨hb.cell 0, hb.cell 1⟩)
  have HN1 := Lib.hid (fun W (h : Below w3.heap.size w3 W) => bestTop_any F G g go n 100 _ [] ps ls f e A3 len3 c3 ks W (HM3.out.on h) HF.out HeW.out HKA.out.1 (by omega) (HK3.out.on h) (fun v hv => i64_of_wf (HKA.out.2.2.2.2.2 v hv)))
  have HMY := Lib.hid (fun W (h : Below w3.heap.size w3 W) => rmay22_any F' g' n 100 rs f e A2 len2 c2 W (HR3.out.on h) HF.out HeW.out (by have := HOK.out.1; omega) HOK.out.2)
  simp only [Edg.cells] at HMY
  rw [HST.out] at HMY
  unfold TripOut at HN1
  have hz := startC_zero HST.out
  have hlp : ps.length = n := by rw [HPA.out.1, hz.1]
  have hs0 : startC (rs.map some) n ps.length f e = 0 := by rw [HPA.out.1]; exact HST.out
  have hrg := (wrongK_end n ks).1 (by rw [HKA.out.1]; exact HWR.out)
  have HTB := Lib.hid (fun W (h : Below w3.heap.size w3 W) => rtab18_any F' g' n 100 rs f e A2 len2 c2 ps W (HR3.out.on h) hz.2.1 HeW.out (by omega) (by have := HOK.out.1; omega) HOK.out.2 HCH.out (fit_of_leads (l := 0) hz.2.2) hlp HPA.out.1 HP.out (HI3.out.on h))
  have HAL := Lib.hid (fun (B : Option Addr) (d : Nat) (W : World) hA hB => rall22_any n A2 B len2 c2 d ps (tabV (rs.map some) n ps f e) W (by omega) hlp HPA.out.1 HP.out hA (tabV_length _ _ _ _ _) hB)
  have hma := mem_all HP.out hlp hs0 HCH.out (fit_of_leads (l := 0) hz.2.2)
  rw [hma] at HAL
  unfold BoolsOut at HTB
  simp only [Edg.cells] at HTB
  have HLE : Hid ((allM (rs.map some) n ps f e).length ≤ 128) := Lib.hid (by
    rw [allM_cnt hs0]
    exact Nat.le_trans (cntR_le n _) (Nat.le_trans (Nat.pow_le_pow_right (by omega) hn7) (by decide)))
  have HZ2 : Hid (∀ z ∈ allM (rs.map some) n ps f e, z ≤ 1000000) := Lib.hid (fun z hz => by
    have h1 := mem_lt HP.out hlp hs0 z hz
    have h2 : 2 ^ n ≤ 128 := Nat.le_trans (Nat.pow_le_pow_right (by omega) hn7) (by decide)
    omega)
  have HBN := Lib.hid (fun h => best_none (ks := ks) hs0 h)
  have HBS := Lib.hid (fun h cf hcf => best_some (ks := ks) HP.out hlp hs0 h cf hcf)
  have HT : Hid (bestC (rs.map some) n ps f e ks = if (bestR (rs.map some) n f (ctOf ks ps) n 0 (atR (rs.map some) e 0)).inn = false then ((0 : Int), (0 : Int), (11 : Nat))
      else (((upM ps n (bestR (rs.map some) n f (ctOf ks ps) n 0 (atR (rs.map some) e 0)).y : Nat) : Int), (bestR (rs.map some) n f (ctOf ks ps) n 0 (atR (rs.map some) e 0)).cost, 0)) := Lib.hid (by
    unfold bestC
    rw [if_neg (by omega), if_neg]
    intro h
    rcases h with h | h
    · exact h hrg.1
    · exact h hrg.2)
  generalize bestC (rs.map some) n ps f e ks = t at *
  generalize bestR (rs.map some) n f (ctOf ks ps) n 0 (atR (rs.map some) e 0) = bb at *
  generalize allM (rs.map some) n ps f e = xs at *
  obtain ⟨xv, cv, gv⟩ := t
  simp only at HN1
  obtain ⟨L, hL⟩ : ∃ L, L = xs.length := ⟨_, rfl⟩
  have HL := Lib.hid hL
  rw [← hL] at HLE HBN HBS
  have hL128 := HLE.out
  have HKL2 := Lib.hid hrg
  have HLL : Hid ((L = 0 ∧ xv = 0 ∧ cv = 0 ∧ gv = 11) ∨ (0 < L ∧ xv = ((xs[bestI (fun i => costV ks (xs[i]?.getD 0) n) (L - 1)]?.getD 0 : Nat) : Int) ∧ cv = costV ks (xs[bestI (fun i => costV ks (xs[i]?.getD 0) n) (L - 1)]?.getD 0) n ∧ gv = 0)) := Lib.hid (by
    have hT := HT.out
    rcases Nat.eq_zero_or_pos L with h0 | h0
    · rw [if_pos (HBN.out h0)] at hT
      injection hT with h1 h2
      injection h2 with h2 h3
      exact .inl ⟨h0, h1, h2, h3⟩
    · obtain ⟨h4, h5, h6⟩ := HBS.out h0 (fun i => costV ks (xs[i]?.getD 0) n) (fun i => rfl)
      rw [if_neg (by rw [h4]; simp)] at hT
      injection hT with h1 h2
      injection h2 with h2 h3
      exact .inr ⟨h0, by rw [h1, h5], by rw [h2, h6], h3⟩)
  have HBL : Hid (0 < L → bestI (fun i => costV ks (xs[i]?.getD 0) n) (L - 1) < L) := Lib.hid (fun h => by
    have := bestI_le (fun i => costV ks (xs[i]?.getD 0) n) (L - 1)
    omega)
  have hgv : gv = 0 ∨ gv = 11 := by
    rcases HLL.out with h | h
    · exact .inr h.2.2.2
    · exact .inl h.2.2.2
  clear hL hz hlp hs0 hma hrg HBN HBS HT
  have HB3 := Lib.hid (Below.refl w3.heap.size w3)
  obtain ⟨a0, a1⟩ := FC.out w3 HB3.out
  go_wp2_with fail
  clear a0 a1
  refine (HN1.out _ HB3.out).mono ?_
  rintro x w4 ⟨rfl, hb4⟩
  have HB4 := Lib.hid (HB3.out.trans (hb4.mono HB3.out.size))
  clear hb4
  have hri := refRight_any A2 len2 c2 ps w4 HPA.out.1 (by omega) (HI3.out.on HB4.out)
  rw [decide_eq_true HP.out] at hri
  have HRI := Lib.hid hri
  clear hri
  obtain ⟨a0, a1⟩ := FC.out w4 HB4.out
  go_wp2_with fail
  refine HRI.out.mono ?_
  rintro x w' ⟨rfl, rfl⟩
  go_wp2_with fail
  clear a0 a1
  refine (HMY.out _ HB4.out).mono ?_
  rintro x w5 ⟨rfl, hb5⟩
  have HB5 := Lib.hid (HB4.out.trans (hb5.mono HB4.out.size))
  clear hb5
  have HKV := Lib.hid (HK3.out.on HB5.out)
  have HWZ : Hid (wrongK n ks 0 = ((len3 : Int) != (n : Int))) := Lib.hid (by
    rw [wrongK, HKA.out.1, Bool.eq_iff_iff]
    simp only [bne_iff_ne, ne_eq]
    omega)
  have HWS : Hid (∀ k, wrongK n ks (k + 1) = (wrongK n ks k || (decide (ks[k]?.getD 0 < -1099511627776) || decide (1099511627776 < ks[k]?.getD 0)))) := Lib.hid (fun k => rfl)
  have HKL := Lib.hid HKA.out.1
  go_wp2_with fail
  go_loop [23, 24] (fun wv iv => ∃ k : Nat, k ≤ len3 ∧ iv = .int .i64 (k : Int) ∧ wv = .bool (wrongK n ks k)) (fun _ iv => len3 - (intOf iv).toNat)
  case atStart => exact ⟨0, Nat.zero_le _, rfl, by rw [HWZ.out]; try rfl⟩
  case round =>
    obtain ⟨k, hkn, rfl, rfl⟩ := hrel
    by_cases hlt : k < len3
    · have hlt' : (k : Int) < (len3 : Int) := by omega
      have hs := HWS.out k
      cases hw : wrongK n ks k with
      | true =>
        rw [hw, Bool.true_or] at hs
        have HS := Lib.hid hs
        clear hs hw
        go_wp2_with fail
        go_round
        case rel => exact ⟨k + 1, by omega, by go_num, by rw [HS.out]⟩
        case measure => simp [intOf]; omega
      | false =>
        obtain ⟨b, off, rfl, hbl, hc⟩ := HKV.out (by rw [HKL.out]; omega)
        have hck := hc k (by rw [HKL.out]; exact hlt)
        rw [hw, Bool.false_or] at hs
        generalize ks[k]?.getD 0 = v at *
        by_cases h1 : v < -1099511627776
        · rw [decide_eq_true h1, Bool.true_or] at hs
          have HS := Lib.hid hs
          clear hs hw hc
          go_wp2_with fail
          go_round
          case rel => exact ⟨k + 1, by omega, by go_num, by rw [HS.out]⟩
          case measure => simp [intOf]; omega
        · by_cases h2 : 1099511627776 < v
          · rw [decide_eq_false h1, decide_eq_true h2, Bool.false_or] at hs
            have HS := Lib.hid hs
            clear hs hw hc
            go_wp2_with fail
            go_round
            case rel => exact ⟨k + 1, by omega, by go_num, by rw [HS.out]⟩
            case measure => simp [intOf]; omega
          · rw [decide_eq_false h1, decide_eq_false h2, Bool.false_or] at hs
            have HS := Lib.hid hs
            clear hs hw hc
            go_wp2_with fail
            go_round
            case rel => exact ⟨k + 1, by omega, by go_num, by rw [HS.out]⟩
            case measure => simp [intOf]; omega
    · obtain rfl : k = len3 := by omega
      have hwr := HWR.out
      have HTB8 := Lib.hid (HTB.out w5 HB5.out)
      obtain ⟨a0, a1⟩ := FC.out w5 HB5.out
      go_wp2_with fail
      clear a0 a1
      refine HTB8.out.mono ?_
      rintro x wB ⟨gt, ct, rfl, hownB, hbB⟩
      have HAB := Lib.hid (HAL.out (some ⟨gt, 0, none⟩) ct wB ((HI3.out.on HB5.out).on hbB) (OwnF.rows hownB))
      have HBB := Lib.hid (HB5.out.trans (hbB.mono HB5.out.size))
      clear hownB hbB HTB8 HTB HAL
      go_wp2_with fail
      refine HAB.out.mono ?_
      rintro x wC ⟨vC, rfl, hownC, hbC⟩
      have HBC := Lib.hid (HBB.out.trans (hbC.mono HBB.out.size))
      obtain ⟨AC, nC, cC, rfl, hnC, hcC⟩ := hownC.form
      obtain rfl : nC = L := by rw [← hnC, List.length_map]; exact HL.out.symm
      have HINT := Lib.hid (OwnF.rows (d := (0 : Int)) hownC)
      have HKC := Lib.hid (HK3.out.on HBC.out)
      have HSA := Lib.hid (fun (W : World) (hW : Below wC.heap.size wC W) => stSame_any F F' g g' n 100 rs W ((HS3.out.on HBC.out).on hW) ((HR3.out.on HBC.out).on hW))
      have HCL : Hid (0 < nC → ∃ b off, AC = some ⟨b, off, none⟩ ∧ ∀ kn, kn < nC → ∀ W, Below wC.heap.size wC W → W.cell? ⟨b, off + kn, none⟩ = some (.int .i64 ((xs[kn]?.getD 0 : Nat) : Int))) := Lib.hid (fun h0 => by
        obtain ⟨b, off, hA, hb, hc⟩ := HINT.out (by rw [List.length_map, ← HL.out]; omega)
        refine ⟨b, off, hA, fun kn hkn W hW => ?_⟩
        have h1 := hc kn (by rw [List.length_map, ← HL.out]; exact hkn)
        have h2 : (xs.map fun z => ((z : Nat) : Int))[kn]?.getD 0 = ((xs[kn]?.getD 0 : Nat) : Int) := by
          rw [List.getElem?_map]
          cases xs[kn]? <;> rfl
        rw [h2] at h1
        exact (hW.cell (p := ⟨b, off + kn, none⟩) hb).trans h1)
      have HEND : Hid (∀ W, Below wC.heap.size wC W → Below w.heap.size w W) := Lib.hid (fun W h => HbW.out.trans ((HB13.out.trans ((HBC.out.trans (h.mono HBC.out.size)).mono HB13.out.size)).mono HbW.out.size))
      have HRB := Lib.hid (fun (W : World) (hW : Below wC.heap.size wC W) => rbest22_any AC A3 nC cC k c3 xs ks W HL.out.symm (by omega) HZ2.out (HINT.out.on hW) HKA.out.1 (by have h1 := HKA.out.1; have h2 := HKL2.out.1; omega) HKL2.out.2 (HKC.out.on hW))
      have HRC := Lib.hid (fun (z : Nat) (hz : z ≤ 1000000) (W : World) (hW : Below wC.heap.size wC W) => rcost22_any z A3 k c3 ks W hz HKA.out.1 (by have h1 := HKA.out.1; have h2 := HKL2.out.1; omega) HKL2.out.2 (HKC.out.on hW))
      have HKN : Hid (k = n) := Lib.hid (by rw [← HKA.out.1]; exact HKL2.out.1)
      have B0 := Lib.hid (Below.refl wC.heap.size wC)
      clear hownC hbC hnC
      rcases HLL.out with ⟨hL0, hx, hc, hg⟩ | ⟨hL0, hx, hc, hg⟩
      · have z1 : ((nC : Int) == 0) = true := by rw [hL0]; rfl
        have z2 : (nC == 0) = true := by rw [hL0]; rfl
        have z3 : ((gv : Int) == 11) = true := by rw [hg]; rfl
        have z4 : (xv == 0) = true := by rw [hx]; rfl
        have z5 : (cv == 0) = true := by rw [hc]; rfl
        have z6 : IntKind.i64.wrap (gv : Int) = (gv : Int) := by rw [hg]; rfl
        clear hL0 hx hc hg
        go_wp2_with fail
        go_ret
        exact ⟨rfl, HEND.out _ B0.out⟩
      · obtain ⟨b, off, rfl, hcl⟩ := HCL.out hL0
        have hbi := HBL.out hL0
        have HRB1 := HRB.out wC B0.out
        rw [HKN.out] at HRB1
        generalize hbk : bestI (fun i => costV ks (xs[i]?.getD 0) n) (nC - 1) = bk at *
        have HRB2 := Lib.hid HRB1
        have HCB := Lib.hid (fun W hW => hcl bk hbi W hW)
        have hzb : xs[bk]?.getD 0 ≤ 1000000 := by
          rw [List.getElem?_eq_getElem (by rw [← HL.out]; exact hbi)]
          exact HZ2.out _ (List.getElem_mem _)
        generalize xs[bk]?.getD 0 = z at *
        have HRC1 := Lib.hid (fun (W : World) (hW : Below wC.heap.size wC W) => HRC.out z hzb W hW)
        rw [HKN.out, ← hc] at HRC1
        rw [← hx] at HCB HRC1
        have z1 : ((nC : Int) == 0) = false := by rw [beq_eq_false_iff_ne]; omega
        have z2 : (nC == 0) = false := by rw [beq_eq_false_iff_ne]; omega
        have z3 : ((gv : Int) == 0) = true := by rw [hg]; rfl
        have z6 : IntKind.i64.wrap (gv : Int) = (gv : Int) := by rw [hg]; rfl
        have z7 : (bk : Int) < (nC : Int) := by omega
        have z8 : (xv == xv) = true := by simp
        have z9 : (cv == cv) = true := by simp
        have HKN2 := HKN.out
        subst HKN2
        clear hx hc hg hcl HRB1 hbk hzb
        go_wp2_with fail
        refine HRB2.out.mono ?_
        rintro x wD ⟨rfl, hbD⟩
        have BD := Lib.hid hbD
        have kc := HCB.out wD hbD
        clear hbD
        go_wp2_with fail
        refine (HRC1.out _ BD.out).mono ?_
        rintro x wE ⟨rfl, hbE⟩
        have BE := Lib.hid (BD.out.trans (hbE.mono BD.out.size))
        clear hbE
        go_wp2_with fail
        refine (HSA.out _ BE.out).mono ?_
        rintro x wG ⟨rfl, hbG⟩
        have BG := Lib.hid (BE.out.trans (hbG.mono BE.out.size))
        clear hbG
        go_wp2_with fail
        go_ret
        exact ⟨rfl, HEND.out _ BG.out⟩

theorem mbest_walk (n0 : Int) (A1 : Option Addr) (len1 c1 : Nat) (rl : List Rec) (A2 : Option Addr) (len2 c2 : Nat) (ps : List Int) (f : Int) (e : Edg) (A3 : Option Addr) (len3 c3 : Nat) (ks : List Int) (w : World) (hr : RecsArg w A1 len1 c1 rl) (hp : IArg w A2 len2 c2 ps) (hf : (Lit.int .u8 f).wf = true) (he : e.Wf) (hk : IArg w A3 len3 c3 ks) :
    Calls Tryz.prog 3 #[.int .i64 n0, .slice A1 len1 c1, .slice A2 len2 c2, .int .u8 f, .agg e.cells.toArray, .slice A3 len3 c3] w fun e w' => e = .returned (.bool true) ∧ Below w.heap.size w w' := by
  by_cases hin : len1 ≤ 40 ∧ 0 ≤ n0 ∧ n0 ≤ 7 ∧ len2 ≤ 16 ∧ len3 ≤ 30
  · obtain ⟨h1, h2, h3, h4, h5⟩ := hin
    obtain ⟨n, rfl⟩ : ∃ n : Nat, n0 = n := ⟨n0.toNat, by omega⟩
    have hf' := u8_wf hf
    by_cases hperm : IsPerm ps
    · cases hc : startC ((builtR n 100 rl).map some) n len2 f e with
      | zero =>
        cases hwr : wrongK n ks len3 with
        | true => exact mbest_wrong n A1 len1 c1 rl A2 len2 c2 ps f e A3 len3 c3 ks w hr hp hf' he hk (by omega) h1 h4 h5 hperm hc hwr
        | false => exact mbest_yes n A1 len1 c1 rl A2 len2 c2 ps f e A3 len3 c3 ks w hr hp hf' he hk (by omega) h1 h4 h5 hperm hc hwr
      | succ j => exact mbest_code n A1 len1 c1 rl A2 len2 c2 ps f e A3 len3 c3 ks w hr hp hf' he hk (by omega) h1 h4 h5 hperm (j + 1) (by omega) hc
    · exact mbest_no n A1 len1 c1 rl A2 len2 c2 ps f e A3 len3 c3 ks w hr hp hf' he hk (by omega) h1 h4 h5 hperm
  · exact mbest_out n0 A1 len1 c1 A2 len2 c2 f e A3 len3 c3 w (by omega)
end Go.Proofs.YtpjciaomhfeeeaaGreat
