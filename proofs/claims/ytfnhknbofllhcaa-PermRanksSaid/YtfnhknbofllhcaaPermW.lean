/- Contract: perm.Rank. -/
import Derived.Test.YtfnhknbofllhcaaPermV
namespace Go.Proofs.Ytfnhknbofllhcaa
open Go.RowKit
set_option linter.unusedSimpArgs false
set_option linter.unusedVariables false

/-- the place among all, in order -/
def rankL : List Int → Nat
  | [] => 0
  | x :: r => r.countP (fun y => decide (y < x)) * fact r.length + rankL r
theorem rankL_lt : ∀ l : List Int, rankL l < fact l.length
  | [] => by decide
  | x :: r => by
    have h1 := rankL_lt r
    have h2 : r.countP (fun y => decide (y < x)) * fact r.length ≤ r.length * fact r.length := Nat.mul_le_mul_right _ List.countP_le_length
    have h3 : fact (r.length + 1) = r.length * fact r.length + fact r.length := by rw [fact_succ, Nat.add_mul, Nat.one_mul]
    simp only [rankL, List.length_cons]
    omega

set_option maxHeartbeats 2000000 in
theorem rank_yes (A : Option Addr) (n c : Nat) (zs : List Int) (w : World) (hz : zs.length = n) (hnc : n ≤ c) (hc63 : c ≤ 9223372036854775807) (hP : IsPerm zs) (hr : Ints w w.heap.size A zs) :
    Calls Try.prog 16 #[.slice A n c] w fun e w' => e = .returned (.tuple #[.int .i64 (rankL zs : Nat), .bool true]) ∧ w = w' := by
  have hn16 : n ≤ 16 := by rw [← hz]; exact hP.1
  have Hz := Lib.hid hz
  have HP := Lib.hid (decide_eq_true hP)
  have hlt := rankL_lt zs
  have hf16 := fact_le16 (n := zs.length) (by omega)
  have HRB : Hid (rankL zs < 20922789888000) := Lib.hid (by omega)
  clear hz hP hlt hf16
  go_enter Try.func16, Try.ntmps16
  go_wp2_with fail
  refine (right_any A n c zs _ Hz.out (by omega) hr).mono ?_
  rintro e w' ⟨rfl, rfl⟩
  rw [HP.out]
  go_wp2_with fail
  go_loop [4, 5, 6, 7, 9, 15] (fun q _ _ _ _ i => ∃ k s : Nat, k ≤ n ∧ i = .int .i64 k ∧ q = .int .i64 s ∧ s + rankL (zs.drop k) = rankL zs) (fun _ _ _ _ _ i => n - (intOf i).toNat)
  case atStart => exact ⟨0, 0, Nat.zero_le _, rfl, rfl, by simp⟩
  case round =>
    obtain ⟨k, s, hk, rfl, rfl, hs⟩ := hrel
    have HS := Lib.hid hs
    have hsb : s < 20922789888000 := by have := HRB.out; omega
    clear hs
    by_cases hlt : k < n
    · obtain ⟨b, off, rfl, hb, hc⟩ := hr (by rw [Hz.out]; omega)
      have HC := Lib.hid hc
      have hck := hc k (by rw [Hz.out]; exact hlt)
      clear hc
      obtain ⟨o2, hA2, Ho2⟩ : ∃ o2 : Nat, (if c = k + 1 then some (⟨b, off, none⟩ : Addr) else some ⟨b, off + (k + 1), none⟩) = some ⟨b, o2, none⟩ ∧ Hid (k + 1 < n → o2 = off + (k + 1)) := by
        by_cases h : c = k + 1
        · exact ⟨off, by rw [if_pos h], Lib.hid (fun h0 => by omega)⟩
        · exact ⟨off + (k + 1), by rw [if_neg h], Lib.hid (fun h0 => rfl)⟩
      have hp0 : (0 : Int) ≤ (k : Int) + 1 := by omega
      have hp1 : (k : Int) + 1 ≤ (n : Int) := by omega
      have hp2 : ((k : Int) + 1).toNat = k + 1 := by omega
      have hl2 : (zs.drop (k + 1)).length = n - (k + 1) := by rw [List.length_drop, Hz.out]
      have HD := Lib.hid (drop_cons zs k (by rw [Hz.out]; exact hlt))
      have HL2 := Lib.hid hl2
      have hcell2 : Hid (∀ j, j < n - (k + 1) → w.cell? ⟨b, o2 + j, none⟩ = some (.int .i64 ((zs.drop (k + 1))[j]?.getD 0))) := Lib.hid (fun j hj => by
        rw [Ho2.out (by omega), Nat.add_assoc, HC.out (k + 1 + j) (by rw [Hz.out]; omega), List.getElem?_drop])
      clear hl2
      generalize hd : zs.drop (k + 1) = ds at *
      have HDS := Lib.hid hd
      clear hd
      generalize hx : zs[k]?.getD 0 = x at *
      clear hx
      go_wp2_with fail
      go_loop [7, 9, 25] (fun q _ i => ∃ j : Nat, j ≤ n - (k + 1) ∧ i = .int .i64 j ∧ q = .int .i64 ((ds.take j).countP (fun y => decide (y < x)) : Nat)) (fun _ _ i => n - (intOf i).toNat)
      case atStart => exact ⟨0, Nat.zero_le _, rfl, by simp⟩
      case round =>
        obtain ⟨j, hj, rfl, rfl⟩ := hrel
        have hcj : (ds.take j).countP (fun y => decide (y < x)) ≤ j := Nat.le_trans List.countP_le_length (List.length_take_le _ _)
        by_cases hjl : j < n - (k + 1)
        · have hcjj := hcell2.out j hjl
          have hs : (ds.take (j + 1)).countP (fun y => decide (y < x)) = (ds.take j).countP (fun y => decide (y < x)) + if ds[j]?.getD 0 < x then 1 else 0 := by
            rw [take_succ_getD ds j (by rw [HL2.out]; omega), List.countP_append, List.countP_singleton]
            simp
          have HS2 := Lib.hid hs
          clear hs
          generalize hcjn : (ds.take j).countP (fun y => decide (y < x)) = cj at *
          have HCJ := Lib.hid hcjn
          clear hcjn
          go_wp2_with fail
          · go_round
            case rel => exact ⟨j + 1, by omega, by go_num, by rw [HS2.out, if_pos (by assumption)]; go_num⟩
            case measure => simp [intOf]; omega
          · go_round
            case rel => exact ⟨j + 1, by omega, by go_num, by rw [HS2.out, if_neg (by omega)]; go_num⟩
            case measure => simp [intOf]; omega
        · have hjn : j = ds.length := by rw [HL2.out]; omega
          have HE : Hid (s + ((ds.take j).countP (fun y => decide (y < x)) * fact (n - 1 - k) + rankL ds) = rankL zs) := Lib.hid (by
            rw [hjn, List.take_length, ← HS.out, HD.out]
            simp only [rankL]
            rw [HL2.out, show n - (k + 1) = n - 1 - k by omega])
          clear hjn
          generalize hcjn : (ds.take j).countP (fun y => decide (y < x)) = cj at *
          clear hcjn
          have e1 : ((n : Int) - 1 - (k : Int)).toNat = n - 1 - k := by omega
          have E1 := Lib.hid e1
          clear e1
          go_wp2_with fail
          refine (factorial_any ((n : Int) - 1 - (k : Int)) _ (by omega) (by omega)).mono ?_
          rintro e w' ⟨rfl, rfl⟩
          rw [E1.out]
          have hmul : (cj : Int) * (fact (n - 1 - k) : Nat) = ((cj * fact (n - 1 - k) : Nat) : Int) := by simp
          have hm0 : 0 ≤ (cj : Int) * (fact (n - 1 - k) : Nat) := by rw [hmul]; exact Int.natCast_nonneg _
          have hm1 : (s : Int) + (cj : Int) * (fact (n - 1 - k) : Nat) < 20922789888000 := by
            rw [hmul]
            have h1 := HE.out
            have h2 := HRB.out
            generalize cj * fact (n - 1 - k) = t at *
            omega
          have HM := Lib.hid hmul
          clear hmul
          generalize hF : fact (n - 1 - k) = F at *
          clear hF
          go_wp2_with fail
          go_round
          case rel => exact ⟨k + 1, s + cj * F, by omega, by go_num, by rw [HM.out]; go_num, by rw [HDS.out]; have := HE.out; omega⟩
          case measure => simp [intOf]; omega
    · have hkn : zs.drop k = [] := List.drop_of_length_le (by rw [Hz.out]; omega)
      have HR : Hid (s = rankL zs) := Lib.hid (by have := HS.out; rw [hkn] at this; exact this)
      clear hkn
      go_wp2_with fail
      go_ret2
      exact ⟨by rw [← HR.out]; rfl, rfl⟩

theorem rank_no (A : Option Addr) (n c : Nat) (zs : List Int) (w : World) (hz : zs.length = n) (hn : n ≤ 9223372036854775807) (hno : ¬ IsPerm zs) (hr : Ints w w.heap.size A zs) :
    Calls Try.prog 16 #[.slice A n c] w fun e w' => e = .returned (.tuple #[.int .i64 0, .bool false]) ∧ w = w' := by
  have Hz := Lib.hid hz
  have HP := Lib.hid (decide_eq_false hno)
  clear hz hno
  go_enter Try.func16, Try.ntmps16
  go_wp2_with fail
  refine (right_any A n c zs _ Hz.out hn hr).mono ?_
  rintro e w' ⟨rfl, rfl⟩
  rw [HP.out]
  go_wp2_with fail
  go_ret2
  exact ⟨rfl, rfl⟩
end Go.Proofs.Ytfnhknbofllhcaa
