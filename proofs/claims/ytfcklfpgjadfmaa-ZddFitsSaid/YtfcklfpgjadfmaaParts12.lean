/- Contract of the document's Parts: how many different nodes a text has. -/
import Derived.Test.YtfcklfpgjadfmaaTextD
import Derived.Test.YtfcklfpgjadfmaaTabW
import Derived.Test.YtfcklfpgjadfmaaQuiet
namespace Go.Proofs.Ytfcklfpgjadfmaa
open Go.RowKit Go.Sort
set_option linter.unusedSimpArgs false
set_option linter.unusedVariables false

theorem info_string12 : (Try.prog.info? 9).map (fun i => (i.zero, i.size, i.bytes)) = some (some (.string ⟨#[]⟩), 1, 16) := by kernel_rfl
set_option maxRecDepth 100000 in
set_option maxHeartbeats 2000000 in
theorem parts12_any (s : List UInt8) (hs : s.length ≤ 1000) (w : World) : Calls Try.prog 21 #[strV s] w fun e w' => (∃ A c, e = .returned (.slice A (dd (spots s)).length c)) ∧ Below w.heap.size w w' := by
  obtain ⟨i0, hi, hz0, hz1, hz2⟩ := info_parts info_string12
  unfold strV
  go_enter Try.func21, Try.ntmps21
  go_wp2_with fail
  go_loopw [3, 4, 5, 6, 7, 8] (fun v i _ _ _ _ wr => ∃ (k : Nat) (out : List (List UInt8)), k ≤ s.length ∧ i = .int .i64 k ∧ OwnF strV 9 wr w.heap.size v out ∧ out.length ≤ k ∧ (spots (s.drop k)).foldl gather out = dd (spots s) ∧ Below w.heap.size w wr) (fun _ i _ _ _ _ _ => s.length - (intOf i).toNat)
  case atStart => exact ⟨0, [], Nat.zero_le _, rfl, OwnF.nil_, Nat.le_refl _, rfl, Below.refl _ _⟩
  case round =>
    obtain ⟨k, out, hk, rfl, hown, hol, hfold, hb⟩ := hrel
    have HF := Lib.hid hfold
    clear hfold
    by_cases hlt : k < s.length
    · have hsz : k < (ByteArray.mk s.toArray).size := by simpa [ByteArray.size] using hlt
      have hstep := spots_drop s k hlt
      by_cases hc : s[k]?.getD 0 = 40
      · have hck : ((ByteArray.mk s.toArray)[k]'hsz).toNat = 40 := byte_is hlt hsz hc
        rw [if_pos hc] at hstep
        have HST := Lib.hid hstep
        have HOWN := Lib.hid hown
        have HB := Lib.hid hb
        clear hstep hown hb hc
        obtain ⟨wo, rfl⟩ : ∃ wo : World, wo = wr := ⟨_, rfl⟩
        go_wp2_with fail
        go_loopw [5, 6] (fun d i wx => ∃ (dp q : Nat), k + 1 ≤ q ∧ q ≤ s.length ∧ dp ≤ q ∧ d = .int .i64 dp ∧ i = .int .i64 q ∧ q + close (s.drop q) dp = k + 1 + close (s.drop (k + 1)) 1 ∧ wx = wo) (fun _ i _ => s.length - (intOf i).toNat)
        case atStart => exact ⟨1, k + 1, Nat.le_refl _, by omega, by omega, rfl, by go_num, rfl, rfl⟩
        case round =>
          obtain ⟨dp, q, hq1, hq2, hq3, rfl, rfl, hcl, rfl⟩ := hrel
          have HCL := Lib.hid hcl
          clear hcl hck
          by_cases hq : q < s.length
          · by_cases hd : 0 < dp
            · obtain ⟨dp, rfl⟩ : ∃ d', dp = d' + 1 := ⟨dp - 1, by omega⟩
              have hsz2 : q < (ByteArray.mk s.toArray).size := by simpa [ByteArray.size] using hq
              have hcd := close_drop s q dp hq
              by_cases h40 : s[q]?.getD 0 = 40
              · have hck2 : ((ByteArray.mk s.toArray)[q]'hsz2).toNat = 40 := byte_is hq hsz2 h40
                rw [if_pos h40] at hcd
                have HCD := Lib.hid hcd
                clear hcd h40
                go_wp2_with fail
                go_roundw
                case rel => exact ⟨dp + 2, q + 1, by omega, by omega, by omega, by go_num, by go_num, by have := HCL.out; rw [HCD.out] at this; omega, trivial⟩
                case measure => simp [intOf]; omega
              · have hcn2 : ((((ByteArray.mk s.toArray)[q]'hsz2).toNat : Int) == 40) = false := by rw [beq_eq_false_iff_ne]; exact byte_isnt hq hsz2 h40 rfl
                rw [if_neg h40] at hcd
                by_cases h41 : s[q]?.getD 0 = 41
                · have hck2 : ((ByteArray.mk s.toArray)[q]'hsz2).toNat = 41 := byte_is hq hsz2 h41
                  rw [if_pos h41] at hcd
                  have HCD := Lib.hid hcd
                  clear hcd h40 h41 hcn2
                  go_wp2_with fail
                  go_roundw
                  case rel => exact ⟨dp, q + 1, by omega, by omega, by omega, by go_num, by go_num, by have := HCL.out; rw [HCD.out] at this; omega, trivial⟩
                  case measure => simp [intOf]; omega
                · have hcn3 : ((((ByteArray.mk s.toArray)[q]'hsz2).toNat : Int) == 41) = false := by rw [beq_eq_false_iff_ne]; exact byte_isnt hq hsz2 h41 rfl
                  rw [if_neg h41] at hcd
                  have HCD := Lib.hid hcd
                  clear hcd h40 h41
                  go_wp2_with fail
                  go_roundw
                  case rel => exact ⟨dp + 1, q + 1, by omega, by omega, by omega, by go_num, by go_num, by have := HCL.out; rw [HCD.out] at this; omega, trivial⟩
                  case measure => simp [intOf]; omega
            · obtain rfl : dp = 0 := by omega
              have hE : q = k + 1 + close (s.drop (k + 1)) 1 := by have := HCL.out; rw [close_zero] at this; omega
              obtain ⟨wo, rfl⟩ : ∃ wo : World, wo = wr := ⟨_, rfl⟩
              have hXe : (s.drop k).take (1 + close (s.drop (k + 1)) 1) = (s.drop k).take (q - k) := by congr 1; omega
              obtain ⟨X, hX⟩ : ∃ X, X = (s.drop k).take (q - k) := ⟨_, rfl⟩
              have HXE : Hid (spots (s.drop k) = X :: spots (s.drop (k + 1))) := Lib.hid (by rw [HST.out, hXe, hX])
              have HEX : Hid ((⟨s.toArray⟩ : ByteArray).extract k q = ⟨X.toArray⟩) := Lib.hid (by rw [extract_list, hX])
              have hEL : ((⟨s.toArray⟩ : ByteArray).extract k q).toList = X := by rw [HEX.out, ByteArray.toList_mk]
              clear hE hXe hX
              have hown := HOWN.out
              obtain ⟨A, n, c, rfl, hn, _⟩ := hown.form
              have HN := Lib.hid hn
              have hnb : n ≤ 1000 := by omega
              clear hn hown
              go_wp2_with fail
              go_loopw [7, 8] (fun mt j wx => ∃ (jn z : Nat), jn ≤ n ∧ j = .int .i64 jn ∧ mt = .bool (decide (X ∈ out.take jn)) ∧ wx = wo.drewN z) (fun _ j _ => n - (intOf j).toNat)
              case atStart => exact ⟨0, 0, Nat.zero_le _, rfl, by simp, rfl⟩
              case round =>
                obtain ⟨jn, z, hj, rfl, rfl, rfl⟩ := hrel
                by_cases hjn : jn < n
                · by_cases hm : X ∈ out.take jn
                  · have hd1 : decide (X ∈ out.take jn) = true := decide_eq_true hm
                    have hm2 : X ∈ out.take (jn + 1) := by
                      rw [List.take_add_one]
                      exact List.mem_append_left _ hm
                    have HM2 := Lib.hid hm2
                    rw [hd1]
                    clear hm hd1 hm2
                    go_wp2_with fail
                    go_quiet (fail)
                    go_wp2_with fail
                    go_roundw
                    case rel => exact ⟨jn + 1, _, by omega, by go_num, by rw [decide_eq_true HM2.out], rfl⟩
                    case measure => simp [intOf]; omega
                  · have hd1 : decide (X ∈ out.take jn) = false := decide_eq_false hm
                    have hjo : jn < out.length := by have := HN.out; omega
                    obtain ⟨g, c', hv, _, _, _⟩ := HOWN.out.head (by omega)
                    injection hv with hv1 _ _
                    subst hv1
                    have hcell := (HOWN.out.at_ jn hjo).1
                    rw [List.getElem?_eq_getElem hjo] at hcell
                    obtain ⟨o, ho⟩ : ∃ o, o = out[jn] := ⟨_, rfl⟩
                    rw [← ho] at hcell
                    simp only [Option.map_some, strV] at hcell
                    have hcell2 : wo.cell? ⟨g, jn, none⟩ = some (.string ⟨o.toArray⟩) := hcell
                    have hmx : X ∈ out.take (jn + 1) ↔ X ∈ out.take jn ∨ o = X := by
                      rw [List.take_add_one, List.getElem?_eq_getElem hjo, List.mem_append, ← ho]
                      simp [eq_comm]
                    have HMX := Lib.hid hmx
                    have HM := Lib.hid hm
                    rw [hd1]
                    clear hcell hmx hm hd1 ho
                    by_cases hox : o = X
                    · have hoe : (o == X) = true := by rw [beq_iff_eq]; exact hox
                      have HOX := Lib.hid hox
                      clear hox
                      go_wp2_with fail
                      go_quiet (fail)
                      go_wp2_with fail
                      go_roundw
                      case rel => exact ⟨jn + 1, _, by omega, by go_num, by rw [decide_eq_true (HMX.out.2 (.inr HOX.out))], rfl⟩
                      case measure => simp [intOf]; omega
                    · have hoe : (o == X) = false := by rw [beq_eq_false_iff_ne]; exact hox
                      have HOX := Lib.hid hox
                      clear hox
                      go_wp2_with fail
                      go_quiet (fail)
                      go_wp2_with fail
                      go_roundw
                      case rel => exact ⟨jn + 1, _, by omega, by go_num, by rw [decide_eq_false (fun h => (HMX.out.1 h).elim HM.out HOX.out)], rfl⟩
                      case measure => simp [intOf]; omega
                · obtain rfl : jn = n := by omega
                  have htk : out.take jn = out := by rw [HN.out.symm]; exact List.take_length
                  rw [htk]
                  have hgat : Hid ((spots (s.drop (k + 1))).foldl gather (gather out X) = dd (spots s)) := Lib.hid (by have := HF.out; rw [HXE.out] at this; exact this)
                  by_cases hm : X ∈ out
                  · have hd1 : decide (X ∈ out) = true := decide_eq_true hm
                    have hge : Hid (gather out X = out) := Lib.hid (by unfold gather; rw [if_pos hm])
                    rw [hd1]
                    clear hm hd1 htk
                    go_wp2_with fail
                    go_roundw
                    case rel => exact ⟨k + 1, out, by omega, by go_num, HOWN.out, by omega, by rw [← hgat.out, hge.out], below_drewN HB.out z⟩
                    case measure => simp [intOf]; omega
                  · have hd1 : decide (X ∈ out) = false := decide_eq_false hm
                    have hge : Hid (gather out X = out ++ [X]) := Lib.hid (by unfold gather; rw [if_neg hm])
                    rw [hd1]
                    clear hm hd1 htk
                    go_wp2_with (at_builtin; (rw [HEX.out]; refine wp_app1 (f := strV) Try.underlying31 hi hz0 hz1 hz2 rfl (by omega) (wo.drewN z) rfl _ _ rfl w.heap.size _ out X 1 rfl (HOWN.out.drewN z) HB.out.size (by omega) rfl rfl (by first | rfl | simp [World.setCell]) ?_); intro v1 w1 hown1 hb1 hs1 hg1 hv1)
                    go_roundw
                    case rel => exact ⟨k + 1, out ++ [X], by omega, by go_num, hown1, by rw [List.length_append, List.length_singleton]; omega, by rw [← hgat.out, hge.out], (below_drewN HB.out z).trans hb1⟩
                    case measure => simp [intOf]; omega
          · have hE : q = k + 1 + close (s.drop (k + 1)) 1 := by have := HCL.out; rw [close_end s q dp (by omega)] at this; omega
            obtain ⟨wo, rfl⟩ : ∃ wo : World, wo = wr := ⟨_, rfl⟩
            have hXe : (s.drop k).take (1 + close (s.drop (k + 1)) 1) = (s.drop k).take (q - k) := by congr 1; omega
            obtain ⟨X, hX⟩ : ∃ X, X = (s.drop k).take (q - k) := ⟨_, rfl⟩
            have HXE : Hid (spots (s.drop k) = X :: spots (s.drop (k + 1))) := Lib.hid (by rw [HST.out, hXe, hX])
            have HEX : Hid ((⟨s.toArray⟩ : ByteArray).extract k q = ⟨X.toArray⟩) := Lib.hid (by rw [extract_list, hX])
            have hEL : ((⟨s.toArray⟩ : ByteArray).extract k q).toList = X := by rw [HEX.out, ByteArray.toList_mk]
            clear hE hXe hX
            have hown := HOWN.out
            obtain ⟨A, n, c, rfl, hn, _⟩ := hown.form
            have HN := Lib.hid hn
            have hnb : n ≤ 1000 := by omega
            clear hn hown
            go_wp2_with fail
            go_loopw [7, 8] (fun mt j wx => ∃ (jn z : Nat), jn ≤ n ∧ j = .int .i64 jn ∧ mt = .bool (decide (X ∈ out.take jn)) ∧ wx = wo.drewN z) (fun _ j _ => n - (intOf j).toNat)
            case atStart => exact ⟨0, 0, Nat.zero_le _, rfl, by simp, rfl⟩
            case round =>
              obtain ⟨jn, z, hj, rfl, rfl, rfl⟩ := hrel
              by_cases hjn : jn < n
              · by_cases hm : X ∈ out.take jn
                · have hd1 : decide (X ∈ out.take jn) = true := decide_eq_true hm
                  have hm2 : X ∈ out.take (jn + 1) := by
                    rw [List.take_add_one]
                    exact List.mem_append_left _ hm
                  have HM2 := Lib.hid hm2
                  rw [hd1]
                  clear hm hd1 hm2
                  go_wp2_with fail
                  go_quiet (fail)
                  go_wp2_with fail
                  go_roundw
                  case rel => exact ⟨jn + 1, _, by omega, by go_num, by rw [decide_eq_true HM2.out], rfl⟩
                  case measure => simp [intOf]; omega
                · have hd1 : decide (X ∈ out.take jn) = false := decide_eq_false hm
                  have hjo : jn < out.length := by have := HN.out; omega
                  obtain ⟨g, c', hv, _, _, _⟩ := HOWN.out.head (by omega)
                  injection hv with hv1 _ _
                  subst hv1
                  have hcell := (HOWN.out.at_ jn hjo).1
                  rw [List.getElem?_eq_getElem hjo] at hcell
                  obtain ⟨o, ho⟩ : ∃ o, o = out[jn] := ⟨_, rfl⟩
                  rw [← ho] at hcell
                  simp only [Option.map_some, strV] at hcell
                  have hcell2 : wo.cell? ⟨g, jn, none⟩ = some (.string ⟨o.toArray⟩) := hcell
                  have hmx : X ∈ out.take (jn + 1) ↔ X ∈ out.take jn ∨ o = X := by
                    rw [List.take_add_one, List.getElem?_eq_getElem hjo, List.mem_append, ← ho]
                    simp [eq_comm]
                  have HMX := Lib.hid hmx
                  have HM := Lib.hid hm
                  rw [hd1]
                  clear hcell hmx hm hd1 ho
                  by_cases hox : o = X
                  · have hoe : (o == X) = true := by rw [beq_iff_eq]; exact hox
                    have HOX := Lib.hid hox
                    clear hox
                    go_wp2_with fail
                    go_quiet (fail)
                    go_wp2_with fail
                    go_roundw
                    case rel => exact ⟨jn + 1, _, by omega, by go_num, by rw [decide_eq_true (HMX.out.2 (.inr HOX.out))], rfl⟩
                    case measure => simp [intOf]; omega
                  · have hoe : (o == X) = false := by rw [beq_eq_false_iff_ne]; exact hox
                    have HOX := Lib.hid hox
                    clear hox
                    go_wp2_with fail
                    go_quiet (fail)
                    go_wp2_with fail
                    go_roundw
                    case rel => exact ⟨jn + 1, _, by omega, by go_num, by rw [decide_eq_false (fun h => (HMX.out.1 h).elim HM.out HOX.out)], rfl⟩
                    case measure => simp [intOf]; omega
              · obtain rfl : jn = n := by omega
                have htk : out.take jn = out := by rw [HN.out.symm]; exact List.take_length
                rw [htk]
                have hgat : Hid ((spots (s.drop (k + 1))).foldl gather (gather out X) = dd (spots s)) := Lib.hid (by have := HF.out; rw [HXE.out] at this; exact this)
                by_cases hm : X ∈ out
                · have hd1 : decide (X ∈ out) = true := decide_eq_true hm
                  have hge : Hid (gather out X = out) := Lib.hid (by unfold gather; rw [if_pos hm])
                  rw [hd1]
                  clear hm hd1 htk
                  go_wp2_with fail
                  go_roundw
                  case rel => exact ⟨k + 1, out, by omega, by go_num, HOWN.out, by omega, by rw [← hgat.out, hge.out], below_drewN HB.out z⟩
                  case measure => simp [intOf]; omega
                · have hd1 : decide (X ∈ out) = false := decide_eq_false hm
                  have hge : Hid (gather out X = out ++ [X]) := Lib.hid (by unfold gather; rw [if_neg hm])
                  rw [hd1]
                  clear hm hd1 htk
                  go_wp2_with (at_builtin; (rw [HEX.out]; refine wp_app1 (f := strV) Try.underlying31 hi hz0 hz1 hz2 rfl (by omega) (wo.drewN z) rfl _ _ rfl w.heap.size _ out X 1 rfl (HOWN.out.drewN z) HB.out.size (by omega) rfl rfl (by first | rfl | simp [World.setCell]) ?_); intro v1 w1 hown1 hb1 hs1 hg1 hv1)
                  go_roundw
                  case rel => exact ⟨k + 1, out ++ [X], by omega, by go_num, hown1, by rw [List.length_append, List.length_singleton]; omega, by rw [← hgat.out, hge.out], (below_drewN HB.out z).trans hb1⟩
                  case measure => simp [intOf]; omega
      · have hcn : ((((ByteArray.mk s.toArray)[k]'hsz).toNat : Int) != 40) = true := by rw [bne_iff_ne]; exact byte_isnt hlt hsz hc rfl
        rw [if_neg hc] at hstep
        rw [hstep] at HF
        clear hstep hc
        go_wp2_with fail
        go_roundw
        case rel => exact ⟨k + 1, out, by omega, by go_num, hown, by omega, HF.out, hb⟩
        case measure => simp [intOf]; omega
    · have HL := Lib.hid (lenOf_own hown)
      have hend := spots_end s k (by omega)
      rw [hend] at HF
      have hf := HF.out
      rw [List.foldl_nil] at hf
      obtain ⟨A, n, c, rfl, hn, _⟩ := hown.form
      have HN := Lib.hid hn
      have HFF := Lib.hid hf
      clear hf hn hown hend
      go_wp2_with fail
      go_ret
      exact ⟨⟨A, c, by rw [← HFF.out, HN.out]; rfl⟩, hb⟩
end Go.Proofs.Ytfcklfpgjadfmaa
