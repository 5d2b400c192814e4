/- Contracts: the document's Exists. -/
import Derived.Test.YtdhfpnbpkbelmaaDoorSetTb
namespace Go.Proofs.YtdhfpnbpkbelmaaDoor
open Go.RowKit Go.Sort
set_option linter.unusedSimpArgs false
set_option linter.unusedVariables false

/-- a row filled so far with another one's values -/
def mixB (new old : List Bool) (j : Nat) : List Bool := new.take j ++ old.drop j
theorem mixB_zero (new old : List Bool) : mixB new old 0 = old := by simp [mixB]
theorem mixB_all {new old : List Bool} {N : Nat} (h1 : new.length = N) (h2 : old.length = N) : mixB new old N = new := by
  unfold mixB; rw [List.take_of_length_le (by omega), List.drop_of_length_le (by omega), List.append_nil]
theorem mixB_length {new old : List Bool} {N j : Nat} (h1 : new.length = N) (h2 : old.length = N) (hj : j ≤ N) : (mixB new old j).length = N := by
  unfold mixB; simp; omega
theorem mixB_set {new old : List Bool} {N j : Nat} (h1 : new.length = N) (h2 : old.length = N) (hj : j < N) {x : Bool} (hx : tat new j = x) : (mixB new old j).set j x = mixB new old (j + 1) := by
  subst hx
  apply List.ext_getElem
  · rw [List.length_set, mixB_length h1 h2 (by omega), mixB_length h1 h2 (by omega)]
  · intro i hi1 hi2
    rw [List.length_set, mixB_length h1 h2 (by omega)] at hi1
    simp only [mixB, List.getElem_set, List.getElem_append, List.length_take, List.getElem_take, List.getElem_drop, h1]
    have hm : min j N = j := by omega
    have hm1 : min (j + 1) N = j + 1 := by omega
    simp only [hm, hm1]
    by_cases hji : j = i
    · subst hji
      rw [if_pos rfl, dif_pos (by omega)]
      unfold tat
      rw [List.getElem?_eq_getElem (by omega)]; rfl
    · rw [if_neg hji]
      by_cases hlt : i < j
      · rw [dif_pos hlt, dif_pos (by omega)]
      · rw [dif_neg hlt, dif_neg (by omega)]
        congr 1; omega
def exO (each : Bool) : Nat := if each then 8 else 14
def exB (a b each : Bool) : Bool := a && b || (!each && (a || b))
theorem exO_bit : ∀ a b each : Bool, (exO each).testBit (2 * a.toNat + b.toNat) = exB a b each := by decide
theorem exT_at (each : Bool) {t1 t2 : List Bool} {N j : Nat} (h1 : t1.length = N) (hj : j < N) : tat (opT (exO each) t1 t2) j = exB (tat t1 j) (tat t2 j) each := by
  unfold opT
  rw [tat, List.getElem?_map, List.getElem?_range (by omega)]
  simp only [Option.map_some, Option.getD_some]
  exact exO_bit _ _ _
theorem exO_le (each : Bool) : exO each ≤ 15 := by cases each <;> decide
set_option maxRecDepth 100000 in
set_option maxHeartbeats 8000000 in
theorem rexists_any (n vars : Nat) (each : Bool) (hn : n ≤ 16) (hvars : vars < 65536) (A : Option Addr) (c : Nat) (t : List Bool) (w : World) (h : TabArg w A (2 ^ n) c t) :
    Calls Tryd.prog 27 #[.slice A (2 ^ n : Nat) c, .int .i64 (vars : Nat), .bool each] w (TabRes w (quantT (exO each) vars t n)) := by
  obtain ⟨i0, hi, hz0, hz1, hz2⟩ := info_parts info_bool5
  have hN := pow16 hn
  have hN1 := Nat.two_pow_pos n
  have hsrc := Lib.hid ((h.row.src h.hlen).alloc (.cells #[] 4))
  have hown0 : OwnF Value.bool 4 (w.alloc (.cells #[] 4)) w.heap.size (.slice (some ⟨w.heap.size, 0, none⟩) 0 0) [] := World.ownsRow_lit w #[] 0 (Nat.le_refl _) (by unfold maxLen; omega) rfl
  have hown := Lib.hid hown0
  have HTL : Hid (t.length = 2 ^ n) := Lib.hid h.hlen
  have HVR := Lib.hid (fun W A c => rvars_any n hn A c W)
  have HVA := Lib.hid (fun W v (hv : v ≤ 16) => rvalue_any vars v (by omega) hv W)
  have HQL : Hid (∀ k, (quantT (exO each) vars t k).length = 2 ^ n) := Lib.hid (fun k => by rw [quantT_length, h.hlen])
  have HWI := Lib.hid (fun W A c t v b (hv : v < n) (hb : b ≤ 1) (h : TabArg W A (2 ^ n) c t) => rwith_any n v b hn hv hb A c t W h)
  have HST1 : Hid (∀ k, vars.testBit k = true → quantT (exO each) vars t (k + 1) = opT (exO each) (withT (quantT (exO each) vars t k) k 0) (withT (quantT (exO each) vars t k) k 1)) := Lib.hid (fun k hk => by rw [quantT, if_pos hk])
  have HST0 : Hid (∀ k, vars.testBit k = false → quantT (exO each) vars t (k + 1) = quantT (exO each) vars t k) := Lib.hid (fun k hk => by rw [quantT, if_neg (by simp [hk])])
  have HZ : Hid (quantT (exO each) vars t 0 = t) := Lib.hid rfl
  have HWL : Hid (∀ k v b, (withT (quantT (exO each) vars t k) v b).length = 2 ^ n) := Lib.hid (fun k v b => by rw [withT_length, quantT_length, h.hlen])
  unfold TabRes at *
  have HQN := Lib.hid (HQL.out n)
  rw [HQN.out]
  generalize 2 ^ n = N at *
  clear h hown0
  go_enter Tryd.func27, Tryd.ntmps27
  go_wp2_with (at_builtin; refine wp_appN (f := Value.bool) Tryd.underlying32 hi hz0 hz1 hz2 rfl (by omega) _ rfl _ _ rfl w.heap.size _ [] t A N c (fun _ => rfl) hown.out hsrc.out (by simp) (by simp; omega) rfl rfl ?_; intro v1 w1 hown1 hb1 hs1 hg1 hv1)
  simp only [List.nil_append] at hown1
  obtain ⟨g, c1, rfl, hgb, hgl, hgc⟩ := hown1.head (by rw [HTL.out]; exact hN1)
  rw [HTL.out] at hown1 hgc ⊢
  have HC := Lib.hid hown1.cap_le
  have HB1 := Lib.hid (((Below.refl _ _).alloc (Nat.le_refl _) _).trans hb1)
  have HO := Lib.hid hown1
  have HG := Lib.hid hgl
  clear hown1 hb1 hs1 hg1 hv1 hgl
  go_wp2_with fail
  go_loopw [8] (fun i wr => ∃ k : Nat, k ≤ n ∧ i = .int .i64 k ∧ OwnF Value.bool 4 wr w.heap.size (.slice (some ⟨g, 0, none⟩) N c1) (quantT (exO each) vars t k) ∧ Below w.heap.size w wr) (fun i _ => n - (intOf i).toNat)
  case atStart => exact ⟨0, Nat.zero_le _, rfl, by rw [HZ.out]; exact HO.out, HB1.out⟩
  case round =>
    obtain ⟨k, hk, rfl, hown, hb⟩ := hrel
    have HO := Lib.hid hown
    have HB := Lib.hid hb
    clear hown hb
    by_cases hlt : k < n
    · have hva := fun W => HVA.out W k (by omega)
      cases hbit : vars.testBit k
      · rw [hbit] at hva
        simp only [Bool.toNat_false, Bool.toNat_true] at hva
        have HVK := Lib.hid hva
        have HSTK := Lib.hid (HST0.out k hbit)
        clear hbit hva
        go_wp2_with fail
        refine (HVR.out _ _ _).mono ?_
        rintro e w' ⟨rfl, rfl⟩
        go_wp2_with fail
        refine (HVK.out _).mono ?_
        rintro e w' ⟨rfl, rfl⟩
        go_wp2_with fail
        go_roundw
        case rel => exact ⟨k + 1, by omega, by go_num, by rw [HSTK.out]; exact HO.out, HB.out⟩
        case measure => simp [intOf]; omega
      · rw [hbit] at hva
        simp only [Bool.toNat_false, Bool.toNat_true] at hva
        have HVK := Lib.hid hva
        have HSTK := Lib.hid (HST1.out k hbit)
        clear hbit hva
        go_wp2_with fail
        refine (HVR.out _ _ _).mono ?_
        rintro e w' ⟨rfl, rfl⟩
        go_wp2_with fail
        refine (HVK.out _).mono ?_
        rintro e w' ⟨rfl, rfl⟩
        go_wp2_with fail
        refine (HWI.out _ _ _ _ k 0 hlt (by omega) (own_tab HO.out (HQL.out k) hN)).mono ?_
        rintro e wa ⟨A1, d1, rfl, hoa, hba⟩
        rw [HWL.out] at hoa ⊢
        have HOA := Lib.hid hoa
        have HO2 := Lib.hid (HO.out.below hba)
        have HB2 := Lib.hid (HB.out.trans (hba.mono HB.out.size))
        have hgw : g < wr.heap.size := (HO.out.lt g rfl).2
        have HGW := Lib.hid hgw
        have HS2 := Lib.hid hba.size
        clear hoa hba hgw
        go_wp2_with fail
        refine (HWI.out _ _ _ _ k 1 hlt (by omega) (own_tab HO2.out (HQL.out k) hN)).mono ?_
        rintro e wb ⟨A2, d2, rfl, hob, hbb⟩
        rw [HWL.out] at hob ⊢
        have HOB := Lib.hid (hob.mono HS2.out)
        have HOA2 := Lib.hid (HOA.out.below hbb)
        have HO3 := Lib.hid (HO2.out.below hbb)
        have HB3 := Lib.hid (HB2.out.trans (hbb.mono HB2.out.size))
        have HS3 := Lib.hid (Nat.le_trans HS2.out hbb.size)
        clear hob hbb
        obtain ⟨ga, ca, eA, hga1, hga2, hga3⟩ := HOA2.out.head (by rw [HWL.out]; exact hN1)
        rw [HWL.out] at eA hga3
        injection eA with eA _ eC
        subst eA eC
        obtain ⟨gb, cb, eB, hgb1, hgb2, hgb3⟩ := HOB.out.head (by rw [HWL.out]; exact hN1)
        rw [HWL.out] at eB hgb3
        injection eB with eB _ eC
        subst eB eC
        have HWA := HWL.out k k 0
        have HWB := HWL.out k k 1
        have HQK := HQL.out k
        have HTX : Hid (∀ j, j < N → tat (quantT (exO each) vars t (k + 1)) j = exB (tat (withT (quantT (exO each) vars t k) k 0) j) (tat (withT (quantT (exO each) vars t k) k 1) j) each) := Lib.hid (fun j hj => by rw [HSTK.out]; exact exT_at each HWA hj)
        have HQ1 := HQL.out (k + 1)
        have HL := Lib.hid (And.intro HQ1 (And.intro HQK (And.intro HWA HWB)))
        generalize withT (quantT (exO each) vars t k) k 0 = ta at *
        generalize withT (quantT (exO each) vars t k) k 1 = tb at *
        generalize hTN : quantT (exO each) vars t (k + 1) = tn at *
        have HTN := Lib.hid hTN
        clear hTN
        clear HWA HWB HQK HQ1
        obtain ⟨wo, rfl⟩ : ∃ wo : World, wo = wr := ⟨_, rfl⟩
        go_wp2_with fail
        go_loopw [11] (fun i wr => ∃ j : Nat, j ≤ N ∧ i = .int .i64 j ∧ OwnF Value.bool 4 wr w.heap.size (.slice (some ⟨g, 0, none⟩) N c1) (mixB tn (quantT (exO each) vars t k) j) ∧ OwnF Value.bool 4 wr wo.heap.size (.slice (some ⟨ga, 0, none⟩) N d1) ta ∧ OwnF Value.bool 4 wr wo.heap.size (.slice (some ⟨gb, 0, none⟩) N d2) tb ∧ Below w.heap.size w wr) (fun i _ => N - (intOf i).toNat)
        case atStart => exact ⟨0, Nat.zero_le _, rfl, by rw [mixB_zero]; exact HO3.out, HOA2.out, HOB.out, HB3.out⟩
        case round =>
          obtain ⟨j, hj, rfl, ho1, ho2, ho3, hb⟩ := hrel
          have H := Lib.hid (And.intro ho1 (And.intro ho2 (And.intro ho3 hb)))
          by_cases hjl : j < N
          · have ka := (ho2.at_ j (by rw [HL.out.2.2.1]; exact hjl)).1
            have kb := (ho3.at_ j (by rw [HL.out.2.2.2]; exact hjl)).1
            obtain ⟨uo, kc, kz⟩ := own_cell ho1 j (by rw [mixB_length HL.out.1 HL.out.2.1 (by omega)]; exact hjl)
            have hx := HTX.out j hjl
            have ka' : wr.cell? ⟨ga, j, none⟩ = some (.bool (tat ta j)) := by rw [ka]; unfold tat; rw [List.getElem?_eq_getElem (by rw [HL.out.2.2.1]; exact hjl)]; first | rfl | simp [List.getD]
            have kb' : wr.cell? ⟨gb, j, none⟩ = some (.bool (tat tb j)) := by rw [kb]; unfold tat; rw [List.getElem?_eq_getElem (by rw [HL.out.2.2.2]; exact hjl)]; first | rfl | simp [List.getD]
            clear ka kb ho1 ho2 ho3 hb
            generalize tat ta j = xa at *
            generalize tat tb j = xb at *
            cases xa <;> cases xb <;> cases each
            all_goals
              have HXX := Lib.hid hx
              clear hx
              go_wp2_with fail
              go_roundw
              case rel =>
                obtain ⟨ho1, ho2, ho3, hb⟩ := H.out
                have hst := ho1.set_ j (tat tn j)
                rw [mixB_set HL.out.1 HL.out.2.1 hjl rfl, HXX.out] at hst
                exact ⟨j + 1, by omega, by go_num, hst, ho2.set_below (a := ⟨g, j, none⟩) HGW.out _, ho3.set_below (a := ⟨g, j, none⟩) HGW.out _, hb.setCell (p := ⟨g, j, none⟩) hgb _⟩
              case measure => simp [intOf]; omega
          · obtain rfl : j = N := by omega
            clear ho1 ho2 ho3 hb
            go_wp2_with fail
            go_roundw
            case rel =>
              obtain ⟨ho1, ho2, ho3, hb⟩ := H.out
              rw [mixB_all HL.out.1 HL.out.2.1] at ho1
              exact ⟨k + 1, by omega, by go_num, by rw [HTN.out]; exact ho1, hb⟩
            case measure => simp [intOf]; omega
    · obtain rfl : k = n := by omega
      go_wp2_with fail
      refine (HVR.out _ _ _).mono ?_
      rintro e w' ⟨rfl, rfl⟩
      go_wp2_with fail
      go_ret
      exact ⟨_, _, rfl, HO.out, HB.out⟩
end Go.Proofs.YtdhfpnbpkbelmaaDoor
