/- ramageref02.Steps: the document's steps. -/
import Derived.Test.YtfnhknbofllhcaaPermT
namespace Go.Proofs.Ytfnhknbofllhcaa
open Go.RowKit
set_option linter.unusedSimpArgs false
set_option linter.unusedVariables false

theorem atL_spec (zs : List Int) (x : Int) : ∀ (s k : Nat), atL zs x s = (s + k : Nat) → k < zs.length ∧ zs[k]?.getD 0 = x ∧ ∀ j, j < k → zs[j]?.getD 0 ≠ x := by
  induction zs with
  | nil => intro s k h; unfold atL at h; omega
  | cons z r ih =>
    intro s k h
    unfold atL at h
    split at h
    · have : k = 0 := by omega
      subst this
      refine ⟨by simp, by simpa, fun j hj => by omega⟩
    · cases k with
      | zero =>
        rcases atL_lo r x (s + 1) with h2 | h2
        · omega
        · omega
      | succ k =>
        obtain ⟨h1, h2, h3⟩ := ih (s + 1) k (by rw [h]; congr 1; omega)
        refine ⟨by simp; omega, by simpa using h2, fun j hj => ?_⟩
        cases j with
        | zero => simpa
        | succ j => simpa using h3 j (by omega)

theorem atL_swap (cur : List Int) (x : Int) (m : Nat) (h : atL cur x 0 = ((m + 1 : Nat) : Int)) : atL (swapL cur m) x 0 = (m : Int) := by
  obtain ⟨h1, h2, h3⟩ := atL_spec cur x 0 (m + 1) (by rw [h]; congr 1; omega)
  have := atL_hit (swapL cur m) x m 0 (by rw [swapL_length]; omega) (by
      unfold swapL
      rw [List.getElem?_set_ne (by omega), List.getElem?_set_self (by omega)]
      exact h2) (fun j hj => by
      unfold swapL
      rw [List.getElem?_set_ne (by omega), List.getElem?_set_ne (by omega)]
      exact h3 j (by omega))
  rw [this, Nat.zero_add]

set_option maxHeartbeats 2000000 in
theorem refSteps_any (A B : Option Addr) (n c d : Nat) (ps qs : List Int) (w : World) (hp : ps.length = n) (hq : qs.length = n) (hn16 : n ≤ 16) (ha : Ints w w.heap.size A ps) (hb : Ints w w.heap.size B qs) :
    Calls Try.prog 13 #[.slice A n c, .slice B n d] w fun e w' => ∃ v, e = .returned v ∧ OwnI w' w.heap.size v (stepsM qs 0 ps) ∧ Below w.heap.size w w' := by
  obtain ⟨i0, hi, hz0, hz1, hz2⟩ := info_parts info_int
  have Hp := Lib.hid hp
  have Hq := Lib.hid hq
  have HA0 : Hid (∀ a, A = some a → 0 < n → a.block < w.heap.size) := Lib.hid (fun a e hn => by
    obtain ⟨b, off, h, h2, _⟩ := ha (by rw [Hp.out]; exact hn)
    rw [e] at h; injection h with h; subst h; exact h2)
  clear hp hq
  go_enter Try.func13, Try.ntmps13
  go_wp2_with fail
  go_loopw [0, 5, 6, 7] (fun p l ix _ wr => ∃ (k cp : Nat) (Ap : Option Addr) (now pre : List Int), k ≤ n ∧ ix = .int .i64 k ∧ p = .slice Ap n cp ∧ now.length = n ∧ Ints wr wr.heap.size Ap now ∧ (∀ a, Ap = some a → 0 < n → some a.block ≠ l.ownBlock) ∧ OwnI wr w.heap.size l pre ∧ pre.length ≤ 16 * k ∧
      pre ++ stepsM (qs.drop k) k now = stepsM qs 0 ps ∧ Below w.heap.size w wr) (fun _ _ ix _ _ => n - (intOf ix).toNat)
  case atStart => exact ⟨0, c, A, ps, [], Nat.zero_le _, rfl, rfl, Hp.out, ha, (fun a e h h2 => by simp [Value.ownBlock] at h2), OwnF.nil_, by simp, rfl, Below.refl _ _⟩
  case round =>
    obtain ⟨k, cp, Ap, now, pre, hk, rfl, rfl, hln, hI, hdis, hown, hpl, hst, hbw⟩ := hrel
    have HS := Lib.hid hst
    have HLN := Lib.hid hln
    have HDis := Lib.hid hdis
    clear hst hln hdis
    by_cases hlt : k < n
    · obtain ⟨bb, bo, rfl, hbb, hcb⟩ := hb (by rw [Hq.out]; omega)
      have hckk : ∀ wx, Below w.heap.size w wx → wx.cell? ⟨bb, bo + k, none⟩ = some (.int .i64 (qs[k]?.getD 0)) := fun wx hbx => (hbx.cell (p := ⟨bb, bo + k, none⟩) hbb).trans (hcb k (by rw [Hq.out]; omega))
      clear hcb
      have HD := Lib.hid (drop_cons qs k (by rw [Hq.out]; exact hlt))
      have Hck : Hid (∀ wx, Below w.heap.size w wx → wx.cell? ⟨bb, bo + k, none⟩ = some (.int .i64 (qs[k]?.getD 0))) := Lib.hid hckk
      clear hckk
      generalize hx : qs[k]?.getD 0 = x at *
      clear hx
      have HT : Hid (pre ++ (downL k (atL now x 0 - k).toNat ++ stepsM (qs.drop (k + 1)) (k + 1) (downs k (atL now x 0 - k).toNat now)) = stepsM qs 0 ps) := by
        have := HS.out
        rw [HD.out] at this
        exact this
      have hat0 := atL_lt now x 0
      rw [HLN.out, Nat.zero_add] at hat0
      go_wp2_with fail
      go_loopw [0, 5, 7] (fun p l _ wr => ∃ (cp : Nat) (Ap : Option Addr) (cur pre2 : List Int), p = .slice Ap n cp ∧ cur.length = n ∧ Ints wr wr.heap.size Ap cur ∧ (∀ a, Ap = some a → 0 < n → some a.block ≠ l.ownBlock) ∧ OwnI wr w.heap.size l pre2 ∧ pre2.length + (atL cur x 0 - k).toNat ≤ 16 * (k + 1) ∧
          pre2 ++ (downL k (atL cur x 0 - k).toNat ++ stepsM (qs.drop (k + 1)) (k + 1) (downs k (atL cur x 0 - k).toNat cur)) = stepsM qs 0 ps ∧ Below w.heap.size w wr ∧ pre2.length + (atL cur x 0 - k).toNat = pre.length + (atL now x 0 - k).toNat) (fun _ l _ wr => pre.length + (atL now x 0 - k).toNat - lenOf l)
      case atStart => exact ⟨cp, Ap, now, pre, rfl, HLN.out, hI, HDis.out, hown, by omega, HT.out, hbw, rfl⟩
      case round =>
        obtain ⟨cp2, Ap2, cur, pre2, rfl, hlc, hI2, hdis2, hown2, hpl2, hst2, hbw2, hme⟩ := hrel
        have HS2 := Lib.hid hst2
        have HLC := Lib.hid hlc
        have HDis2 := Lib.hid hdis2
        have HME := Lib.hid hme
        have hc1 := Hck.out _ hbw2
        clear hst2 hlc hdis2 hown hI HS HT hme
        have HLL := Lib.hid (lenOf_own hown2)
        go_wp2_with fail
        refine (at_any Ap2 n cp2 cur x _ HLC.out (by omega) hI2).mono ?_
        rintro e wr' ⟨rfl, rfl⟩
        have hat1 := atL_lt cur x 0
        rw [HLC.out, Nat.zero_add] at hat1
        rcases Int.lt_or_le (k : Int) (atL cur x 0) with hgt | hle
        · obtain ⟨m, hm⟩ : ∃ m : Nat, atL cur x 0 = ((m + 1 : Nat) : Int) := ⟨(atL cur x 0 - 1).toNat, by omega⟩
          have hsw := Lib.hid (atL_swap cur x m hm)
          have HM := Lib.hid hm
          have hdd : (atL cur x 0 - k).toNat = (m - k) + 1 := by omega
          have HDD := Lib.hid hdd
          have hdk : Hid (k + (m - k) = m) := Lib.hid (by omega)
          have hmn : ((m + 1 : Nat) : Int) < n := by omega
          have hkm : (k : Int) ≤ (m : Int) := by omega
          rw [hm]
          clear hm hdd hat1 hgt
          go_wp2_with fail
          refine (at_any Ap2 n cp2 cur x _ HLC.out (by omega) hI2).mono ?_
          rintro e wr' ⟨rfl, rfl⟩
          rw [HM.out]
          have hm1 : ((m + 1 : Nat) : Int) - 1 = (m : Int) := by omega
          go_wp2_with fail
          refine (refStep_any Ap2 n cp2 cur (m : Int) _ HLC.out (by omega) hI2 (by omega) (by omega)).mono ?_
          rintro e w3 ⟨pv, rfl, hown3, hb3⟩
          rw [Int.toNat_natCast] at hown3
          have hown4 := own_below hown2 hb3
          have hlt2 := hown2.lt
          have hs3 := hb3.size
          obtain ⟨Ap3, n3, cp3, hpv, hn3, _⟩ := hown3.form
          have hn3' : n3 = n := by rw [← hn3, swapL_length, HLC.out]
          subst hn3'
          have HL3 := Lib.hid hn3
          clear hn3
          rw [hpv] at hown3 ⊢
          clear hpv
          have hI3 := OwnI.ints hown3
          have hblk : Hid (∀ a, Ap3 = some a → wr.heap.size ≤ a.block ∧ a.block < w3.heap.size) := Lib.hid (fun a e => by
            subst e
            exact hown3.lt a.block rfl)
          have hbw3 : Below w.heap.size w w3 := hbw2.trans (hb3.mono hbw2.size)
          clear hown3 hown2
          go_wp2_with (at_builtin; go_loud (refine wp_app1 (f := Value.int .i64) Try.underlying22 hi hz0 hz1 hz2 rfl (by omega) _ rfl _ _ rfl w.heap.size _ pre2 (m : Int) 1 rfl hown4 hbw3.size (by omega) rfl rfl (by first | rfl | simp [World.setCell]) ?_); intro v4 w4 hown5 hb4 hs4 hg4 hv4)
          have hI4 := RowF.kept hI3 hg4 (fun a e h => by
            have h1 := hblk.out a e
            have h2 := hlt2 a.block h.symm
            omega)
          go_roundw
          case rel => exact ⟨cp3, Ap3, swapL cur m, pre2 ++ [(m : Int)], rfl, HL3.out, hI4, (fun a e _ h => by
              have h1 := hblk.out a e
              rcases hv4 a.block h.symm with h2 | h2
              · have := hlt2 a.block h2; omega
              · omega), hown5, by rw [hsw.out, List.length_append]; simp; have := HDD.out; omega, by
            rw [hsw.out]
            have h1 := HS2.out
            have h2 := HDD.out
            rw [h2] at h1
            rw [← h1, List.append_assoc]
            have e1 : ((m : Int) - k).toNat = m - k := by omega
            rw [e1]
            show _ = pre2 ++ (((k + (m - k) : Nat) : Int) :: downL k (m - k) ++ stepsM _ _ (downs k (m - k) (swapL cur (k + (m - k)))))
            rw [hdk.out]; rfl, hbw3.trans hb4, by rw [hsw.out, List.length_append]; simp; have h1 := HME.out; have h2 := HDD.out; omega⟩
          case measure =>
            have h1 := HME.out
            have h2 := HDD.out
            have h3 := lenOf_own hown5
            rw [List.length_append, List.length_singleton] at h3
            have h4 := HLL.out
            show _ - lenOf v4 < _ - lenOf u5
            rw [h3, h4]
            omega
        · have hz : Hid ((atL cur x 0 - k).toNat = 0) := Lib.hid (by omega)
          go_wp2_with fail
          go_roundw
          case rel => exact ⟨k + 1, cp2, Ap2, cur, pre2, by omega, by go_num, rfl, HLC.out, hI2, HDis2.out, hown2, by omega, by
            have h1 := HS2.out
            rw [hz.out] at h1
            exact h1, hbw2⟩
          case measure => simp [intOf]; omega
    · have HK : Hid (pre = stepsM qs 0 ps) := by
        have := HS.out
        rw [List.drop_of_length_le (by rw [Hq.out]; omega)] at this
        simp only [stepsM, List.append_nil] at this
        exact Lib.hid this
      go_wp2_with fail
      go_ret
      exact ⟨_, rfl, by rw [← HK.out]; exact hown, hbw⟩
end Go.Proofs.Ytfnhknbofllhcaa
