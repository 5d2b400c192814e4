/- Contract: the document's Cost (22). Contract: the document's Best (22). -/
import Derived.Test.YtpjciaomhfeeeaaGreatMan
import Derived.Test.YtpjciaomhfeeeaaGreatMai
import Derived.Test.YtpjciaomhfeeeaaGreatMa
import Derived.Test.YtpjciaomhfeeeaaGreatMaa
section
namespace Go.Proofs.YtpjciaomhfeeeaaGreat
open Go Go.RowKit Go.Sort
set_option linter.unusedSimpArgs false
set_option linter.unusedVariables false

theorem bit_cases22 (x a : Nat) : (x / pow2 a % 2 = 0 ∧ x.testBit a = false) ∨ (x / pow2 a % 2 = 1 ∧ x.testBit a = true) := by
  rw [Nat.testBit_eq_decide_div_mod_eq, show (2 : Nat) ^ a = pow2 a from rfl]
  rcases Nat.mod_two_eq_zero_or_one (x / pow2 a) with h | h <;> simp [h]
theorem costV_bound {ks : List Int} (hk : ∀ v ∈ ks, -1099511627776 ≤ v ∧ v ≤ 1099511627776) (x : Nat) : ∀ k : Nat, k ≤ ks.length → -((k : Int) * 1099511627776) ≤ costV ks x k ∧ costV ks x k ≤ (k : Int) * 1099511627776
  | 0, _ => by simp [costV, sumL]
  | k + 1, hl => by
    have h := costV_bound hk x k (by omega)
    have h2 : -1099511627776 ≤ ks[k]?.getD 0 ∧ ks[k]?.getD 0 ≤ 1099511627776 := by
      rw [List.getElem?_eq_getElem (by omega)]
      exact hk _ (List.getElem_mem _)
    rw [costV_succ]
    split <;> omega
set_option maxRecDepth 100000 in
set_option maxHeartbeats 4000000 in
theorem rcost22_any (x : Nat) (B : Option Addr) (n d : Nat) (ks : List Int) (w : World) (hx : x ≤ 1000000) (hl : ks.length = n) (hn : n ≤ 16) (hk : ∀ v ∈ ks, -1099511627776 ≤ v ∧ v ≤ 1099511627776) (hB : Ints w w.heap.size B ks) :
    Calls Tryz.prog 13 #[.int .i64 (x : Nat), .slice B n d] w fun e w' => e = .returned (.int .i64 (costV ks x n)) ∧ Below w.heap.size w w' := by
  have HB := Lib.hid hB
  have HL := Lib.hid hl
  have HK := Lib.hid hk
  clear hB hl hk
  go_enter Tryz.func13, Tryz.ntmps13
  go_wp2_with fail
  go_loopw [5, 6] (fun sv iv wr => ∃ k : Nat, k ≤ n ∧ iv = .int .i64 (k : Int) ∧ sv = .int .i64 (costV ks x k) ∧ Below w.heap.size w wr) (fun _ iv _ => n - (intOf iv).toNat)
  case atStart => exact ⟨0, Nat.zero_le _, rfl, rfl, Below.refl _ _⟩
  case round =>
    obtain ⟨k, hkn, rfl, rfl, hb⟩ := hrel
    by_cases hlt : k < n
    · obtain ⟨b, off, rfl, hbl, hc⟩ := HB.out (by rw [HL.out]; omega)
      have hck := (hb.cell (p := ⟨b, off + k, none⟩) hbl).trans (hc k (by rw [HL.out]; exact hlt))
      have h1 := costV_bound HK.out x k (by rw [HL.out]; omega)
      have h2 : -1099511627776 ≤ ks[k]?.getD 0 ∧ ks[k]?.getD 0 ≤ 1099511627776 := by
        rw [List.getElem?_eq_getElem (by rw [HL.out]; omega)]
        exact HK.out _ (List.getElem_mem _)
      have hs := costV_succ ks x k
      generalize ks[k]?.getD 0 = c at *
      generalize costV ks x k = s at *
      have hv := fun W => value_any (x : Int) (k : Int) W (by omega) (by omega) (by omega)
      simp only [Int.toNat_natCast] at hv
      have HBW := Lib.hid hb
      have HS := Lib.hid hs
      have hlt' : (k : Int) < (n : Int) := by omega
      clear hc hs hb hbl
      rcases bit_cases22 x k with ⟨hb0, hb1⟩ | ⟨hb0, hb1⟩
      · rw [hb0] at hv
        have HV := Lib.hid hv
        have HS1 : Hid (costV ks x (k + 1) = s) := Lib.hid (by rw [HS.out, hb1]; simp)
        have e1 : IntKind.i64.wrap ((0 : Int) * c) = 0 := by rw [Int.zero_mul]; rfl
        have e2 : IntKind.i64.wrap (s + 0) = s := by rw [Int.add_zero]; exact IntWalk.i64_in _ ⟨by omega, by omega⟩
        clear hv hb0 hb1
        go_wp2_with fail
        go_quiet (exact q_same (HV.out _))
        go_wp2_with fail
        go_roundw
        case rel => exact ⟨k + 1, by omega, by go_num, by first | (rw [HS1.out]) | (rw [HS1.out]; go_num), below_drewN HBW.out _⟩
        case measure => simp [intOf]; omega
      · rw [hb0] at hv
        have HV := Lib.hid hv
        have HS1 : Hid (costV ks x (k + 1) = s + c) := Lib.hid (by rw [HS.out, hb1]; simp)
        have e1 : IntKind.i64.wrap ((1 : Int) * c) = c := by rw [Int.one_mul]; exact IntWalk.i64_in _ ⟨by omega, by omega⟩
        have e2 : IntKind.i64.wrap (s + c) = s + c := IntWalk.i64_in _ ⟨by omega, by omega⟩
        clear hv hb0 hb1
        go_wp2_with fail
        go_quiet (exact q_same (HV.out _))
        go_wp2_with fail
        go_roundw
        case rel => exact ⟨k + 1, by omega, by go_num, by first | (rw [HS1.out]) | (rw [HS1.out]; go_num), below_drewN HBW.out _⟩
        case measure => simp [intOf]; omega
    · obtain rfl : k = n := by omega
      have HBW := Lib.hid hb
      clear hb
      go_wp2_with fail
      go_ret
      exact ⟨rfl, HBW.out⟩
end Go.Proofs.YtpjciaomhfeeeaaGreat
end

section
namespace Go.Proofs.YtpjciaomhfeeeaaGreat
open Go Go.RowKit Go.Sort
set_option linter.unusedSimpArgs false
set_option linter.unusedVariables false

set_option maxRecDepth 100000 in
set_option maxHeartbeats 8000000 in
theorem rbest22_any (A B : Option Addr) (N c n d : Nat) (zs : List Nat) (ks : List Int) (w : World) (hz : zs.length = N) (hN : N ≤ 1000000) (hz2 : ∀ z ∈ zs, z ≤ 1000000) (hA : Ints w w.heap.size A (zs.map fun z => ((z : Nat) : Int))) (hl : ks.length = n) (hn : n ≤ 16) (hk : ∀ v ∈ ks, -1099511627776 ≤ v ∧ v ≤ 1099511627776) (hB : Ints w w.heap.size B ks) :
    Calls Tryz.prog 12 #[.slice A N c, .slice B n d] w fun e w' => e = .returned (.int .i64 (bestI (fun i => costV ks (zs[i]?.getD 0) n) (N - 1) : Nat)) ∧ Below w.heap.size w w' := by
  have HA := Lib.hid hA
  have HZ := Lib.hid hz
  have HCO := Lib.hid (fun (x : Nat) (hx : x ≤ 1000000) W (hW : Below w.heap.size w W) => rcost22_any x B n d ks W hx hl hn hk (hB.on hW))
  have HZL : Hid (∀ k : Nat, zs[k]?.getD 0 ≤ 1000000) := Lib.hid (fun k => by
    cases h : zs[k]? with
    | none => simp
    | some z => exact hz2 z (List.mem_of_getElem? h))
  have HCE : Hid (∀ k : Nat, k < N → ∃ b off, A = some ⟨b, off, none⟩ ∧ b < w.heap.size ∧ w.cell? ⟨b, off + k, none⟩ = some (.int .i64 ((zs[k]?.getD 0 : Nat) : Int))) := Lib.hid (fun k hk => by
    obtain ⟨b, off, e, hb, hc⟩ := HA.out (by rw [List.length_map, HZ.out]; omega)
    have h1 := hc k (by rw [List.length_map, HZ.out]; exact hk)
    have h2 : (zs.map fun z => ((z : Nat) : Int))[k]?.getD 0 = ((zs[k]?.getD 0 : Nat) : Int) := by
      rw [List.getElem?_map]
      cases zs[k]? <;> rfl
    rw [h2] at h1
    exact ⟨b, off, e, hb, h1⟩)
  obtain ⟨cf, hcf⟩ : ∃ cf : Nat → Int, cf = fun i => costV ks (zs[i]?.getD 0) n := ⟨_, rfl⟩
  have HCF : Hid (∀ i : Nat, costV ks (zs[i]?.getD 0) n = cf i) := Lib.hid (fun i => by rw [hcf])
  rw [← hcf]
  have HBI : Hid (∀ k, bestI cf k ≤ k) := Lib.hid (bestI_le cf)
  have HBS : Hid (∀ k, bestI cf (k + 1) = if cf (k + 1) < cf (bestI cf k) then k + 1 else bestI cf k) := Lib.hid (fun k => rfl)
  clear hA hz hz2 hB hk hcf
  go_enter Tryz.func12, Tryz.ntmps12
  go_wp2_with fail
  go_loopw [5, 6] (fun av iv wr => ∃ k : Nat, (k < N ∨ (N = 0 ∧ k = 0)) ∧ iv = .int .i64 ((k : Int) + 1) ∧ av = .int .i64 (bestI cf k : Nat) ∧ Below w.heap.size w wr) (fun _ iv _ => (N + 1) - (intOf iv).toNat)
  case atStart => exact ⟨0, by omega, rfl, rfl, Below.refl _ _⟩
  case round =>
    obtain ⟨k, hkn, rfl, rfl, hb⟩ := hrel
    by_cases hlt : k + 1 < N
    · obtain ⟨b, off, rfl, hbl, hc1⟩ := HCE.out (k + 1) hlt
      have hbi := HBI.out k
      obtain ⟨b', off', e', _, hc2⟩ := HCE.out (bestI cf k) (by omega)
      injection e' with e'
      injection e' with e1 e2
      subst e1 e2
      have hc1' := (hb.cell (p := ⟨b, off + (k + 1), none⟩) hbl).trans hc1
      have hc2' := (hb.cell (p := ⟨b, off + bestI cf k, none⟩) hbl).trans hc2
      have cC1 := regrown_calls (W := wr) (fun W' hW' => (HCO.out (zs[k + 1]?.getD 0) (HZL.out _) W' (hb.trans (hW'.mono hb.size))).mono fun _ _ ⟨q1, q2⟩ => ⟨q1, hW'.trans (q2.mono hW'.size)⟩)
      have cC2 := regrown_calls (W := wr) (fun W' hW' => (HCO.out (zs[bestI cf k]?.getD 0) (HZL.out _) W' (hb.trans (hW'.mono hb.size))).mono fun _ _ ⟨q1, q2⟩ => ⟨q1, hW'.trans (q2.mono hW'.size)⟩)
      rw [HCF.out] at cC1 cC2
      have j1 : ∀ dd os, (grow (redrawn wr dd) os).cell? ⟨b, off + (k + 1), none⟩ = some (.int .i64 ((zs[k + 1]?.getD 0 : Nat) : Int)) := fun dd os => cell_regrown hc1' dd os
      have j2 : ∀ dd os, (grow (redrawn wr dd) os).cell? ⟨b, off + bestI cf k, none⟩ = some (.int .i64 ((zs[bestI cf k]?.getD 0 : Nat) : Int)) := fun dd os => cell_regrown hc2' dd os
      have hs := HBS.out k
      generalize zs[k + 1]?.getD 0 = z1 at *
      generalize zs[bestI cf k]?.getD 0 = z2 at *
      generalize hv1 : cf (k + 1) = v1 at *
      generalize hv2 : cf (bestI cf k) = v2 at *
      generalize hbk : bestI cf k = bk at *
      have HS := Lib.hid hs
      have HBW := Lib.hid hb
      have g1 : (k : Int) + 1 < (N : Int) := by omega
      have g2 : ((k : Int) + 1).toNat = k + 1 := by omega
      have g3 : (bk : Int) < (N : Int) := by omega
      clear hs hb hc1 hc2 hc1' hc2' hv1 hv2 hbk
      go_wp2_with fail
      refine wp_region_quiet_below (by kernel_rfl) (by kernel_rfl) ?_
      repeat (first | go_big_quiet_step (first | with_reducible exact cC1 _ _ | with_reducible exact cC2 _ _ | fail) | quiet_step (first | with_reducible exact cC1 _ _ | with_reducible exact cC2 _ _ | fail))
      refine wpQuiet_nil ?_
      intro w9 hw'
      have hb9 : Below wr.heap.size wr w9 := regrown_below hw'
      have HB9 := Lib.hid (HBW.out.trans (hb9.mono HBW.out.size))
      clear hw' hb9 j1 j2 cC1 cC2
      by_cases hv : v1 < v2
      · have HS1 := Lib.hid (show bestI cf (k + 1) = k + 1 by rw [HS.out, if_pos hv])
        go_wp2_with fail
        go_roundw
        case rel => exact ⟨k + 1, .inl hlt, by go_num, by rw [HS1.out]; go_num, HB9.out⟩
        case measure => simp [intOf]; omega
      · have HS1 := Lib.hid (show bestI cf (k + 1) = bk by rw [HS.out, if_neg hv])
        go_wp2_with fail
        go_roundw
        case rel => exact ⟨k + 1, .inl hlt, by go_num, by rw [HS1.out], HB9.out⟩
        case measure => simp [intOf]; omega
    · have hk1 : k = N - 1 := by omega
      have HK1 := Lib.hid hk1
      have g1 : ¬ (k : Int) + 1 < (N : Int) := by omega
      have HBW := Lib.hid hb
      clear hk1 hb
      go_wp2_with fail
      go_ret
      exact ⟨by rw [← HK1.out]; rfl, HBW.out⟩
end Go.Proofs.YtpjciaomhfeeeaaGreat
end
