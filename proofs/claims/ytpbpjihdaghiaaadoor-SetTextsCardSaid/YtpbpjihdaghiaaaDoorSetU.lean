/- Contracts: the document's Table, Vars, Right, Zero; great. -/
import Derived.Test.YtpbpjihdaghiaaaDoorMe
namespace Go.Proofs.YtpbpjihdaghiaaaDoor
open Go.RowKit Go.Sort
set_option linter.unusedSimpArgs false
set_option linter.unusedVariables false

theorem info_bool5 : (Tryd.prog.info? 4).map (fun i => (i.zero, i.size, i.bytes)) = some (some (.bool false), 1, 1) := by kernel_rfl
/-- a table as a result -/
def TabRes (w : World) (t : List Bool) (e : Ending) (w' : World) : Prop := ∃ A c, e = .returned (.slice A t.length c) ∧ OwnF Value.bool 4 w' w.heap.size (.slice A t.length c) t ∧ Below w.heap.size w w'
theorem range_snoc {α : Type} (f : Nat → α) (k : Nat) : (List.range (k + 1)).map f = (List.range k).map f ++ [f k] := by rw [List.range_succ, List.map_append]; rfl
set_option maxRecDepth 100000 in
set_option maxHeartbeats 2000000 in
theorem rtable_any (n : Nat) (A : Option Addr) (len c : Nat) (ws : List Nat) (w : World) (h : SetArg w n A len c ws) (hok : SOk n ws) : Calls Tryd.prog 15 #[setA n A len c] w (TabRes w (tabS n ws)) := by
  obtain ⟨i0, hi, hz0, hz1, hz2⟩ := info_parts info_bool5
  have hn := hok.n16
  have hN := pow16 hn
  obtain ⟨b0, off, rfl, hb0, hcell⟩ := h.row (by rw [hok.len]; exact wordsN_pos n)
  have HCELL : Hid (∀ j, j < ws.length → w.cell? ⟨b0, off + j, none⟩ = some (U (wat ws j))) := Lib.hid hcell
  have HIX := Lib.hid (fun x (hx : x < 2 ^ n) => (show x / 64 < len from by have h1 := idx_lt hx; have h2 := h.hlen; have h3 := hok.len; omega))
  have HLEN := Lib.hid h.hlen
  have HLT := Lib.hid h.lt
  have HSZ := Lib.hid (fun W => size_any n hn W)
  have htab : tabS n ws = (List.range (2 ^ n)).map (bitAt ws) := rfl
  have HTB := Lib.hid htab
  have hlc := Nat.le_trans h.hcap h.hmax
  unfold maxLen at hlc
  have htl := tabS_length n ws
  unfold setA
  generalize tabS n ws = t at *
  generalize 2 ^ n = N at *
  obtain ⟨W, hW⟩ : ∃ W, W = w.alloc (.cells #[.int .i64 (n : Nat), .slice (some ⟨b0, off, none⟩) len c] 24) := ⟨_, rfl⟩
  have hbW : Below w.heap.size w W := by rw [hW]; exact (Below.refl _ _).alloc (Nat.le_refl _) _
  have hK : Blk W w.heap.size 24 #[.int .i64 (n : Nat), .slice (some ⟨b0, off, none⟩) len c] := by rw [hW]; exact Blk.new w _ _
  have HWW := Lib.hid hW
  have HS := Lib.hid (And.intro hK hbW)
  have HTL := Lib.hid htl
  clear h hok hcell htab hbW hK htl
  go_enter Tryd.func15, Tryd.ntmps15
  go_wp2_with fail
  rw [← HWW.out]
  clear hW
  go_loopw [3, 4] (fun v i wr => ∃ k : Nat, k ≤ N ∧ i = .int .i64 k ∧ OwnF Value.bool 4 wr (w.heap.size + 1) v ((List.range k).map (bitAt ws)) ∧ Blk wr w.heap.size 24 #[.int .i64 (n : Nat), .slice (some ⟨b0, off, none⟩) len c] ∧ Below w.heap.size w wr ∧ w.heap.size + 1 ≤ wr.heap.size) (fun _ i _ => N - (intOf i).toNat)
  case atStart => exact ⟨0, Nat.zero_le _, rfl, OwnF.nil_, HS.out.1, HS.out.2, HS.out.1.lt⟩
  case round =>
    obtain ⟨k, hk, rfl, hown, hK, hb, hsz⟩ := hrel
    have k0 : wr.cell? ⟨w.heap.size, 0, none⟩ = some (.int .i64 (n : Nat)) := hK.cell 0
    have hw0 : w.heap.size < wr.heap.size := by omega
    by_cases hlt : k < N
    · have hix := HIX.out k hlt
      have k1 : wr.cell? ⟨w.heap.size, 1, none⟩ = some (.slice (some ⟨b0, off, none⟩) len c) := hK.cell 1
      have hv : wr.cell? ⟨b0, off + k / 64, none⟩ = some (.int .u64 (wat ws (k / 64) : Nat)) := (hb.cell (p := ⟨b0, off + k / 64, none⟩) hb0).trans (HCELL.out _ (by rw [HLEN.out]; exact hix))
      have HBI := Lib.hid (fun W => rbit_any (wat ws (k / 64)) (k % 64) (wat_lt HLT.out _) (by omega) W)
      have HBV := Lib.hid (show (wat ws (k / 64)).testBit (k % 64) = bitAt ws k from rfl)
      have hq1 : ((k : Int) / 64) = ((k / 64 : Nat) : Int) := by omega
      have hr1 : ((k : Int) % 64) = ((k % 64 : Nat) : Int) := by omega
      have hr64 : k % 64 < 64 := Nat.mod_lt _ (by omega)
      have HK := Lib.hid hK
      have HB := Lib.hid hb
      have HOWN := Lib.hid hown
      rw [HBV.out] at HBI
      obtain ⟨x, hxE⟩ : ∃ x, x = bitAt ws k := ⟨_, rfl⟩
      have HBE := Lib.hid hxE.symm
      rw [← hxE] at HBI
      clear hxE
      generalize hqq : k / 64 = q at *
      generalize k % 64 = r at *
      generalize wat ws q = v at *
      clear hK hb hown HBV hqq
      go_wp2_with fail
      refine (HSZ.out _).mono ?_
      rintro e w' ⟨rfl, rfl⟩
      go_wp2_with fail
      refine (HBI.out _).mono ?_
      rintro e w' ⟨rfl, rfl⟩
      go_wp2_with (at_builtin; refine wp_app1 (f := Value.bool) Tryd.underlying33 hi hz0 hz1 hz2 rfl (by omega) wr rfl _ _ rfl (w.heap.size + 1) _ ((List.range k).map (bitAt ws)) x 1 rfl HOWN.out hsz (by simp; omega) rfl rfl (by first | rfl | simp [World.setCell]) ?_; intro v1 w1 hown1 hb1 hs1 hg1 hv1)
      go_roundw
      case rel =>
        have hB1 := hb1
        refine ⟨k + 1, by omega, by go_num, ?_, ?_, HB.out.trans (hb1.mono (by omega)), by omega⟩
        · rw [range_snoc, HBE.out]; exact hown1
        · exact (hb1.block _ (by omega)).trans HK.out
      case measure => simp [intOf]; omega
    · obtain rfl : k = N := by omega
      have HK := Lib.hid hK
      have HB := Lib.hid hb
      have HOWN := Lib.hid hown
      obtain ⟨A, m, c', rfl, hml, _⟩ := hown.form
      clear hK hb hown
      go_wp2_with fail
      refine (HSZ.out _).mono ?_
      rintro e w' ⟨rfl, rfl⟩
      go_wp2_with fail
      go_ret
      have hml2 : m = k := by rw [← hml]; simp
      subst hml2
      exact ⟨A, c', by rw [HTL.out]; rfl, by rw [HTL.out, HTB.out]; exact HOWN.out.mono (by omega), HB.out⟩
set_option maxHeartbeats 1000000 in
theorem rvars_any (n : Nat) (hn : n ≤ 16) (A : Option Addr) (c : Nat) (w : World) : Calls Tryd.prog 59 #[.slice A (2 ^ n) c] w fun e w' => e = .returned (.int .i64 (n : Nat)) ∧ w = w' := by
  have hN := pow16 hn
  go_enter Tryd.func59, Tryd.ntmps59
  go_wp2
  go_loop [3] (fun i => ∃ k : Nat, k ≤ n ∧ i = .int .i64 k) (fun i => n - (intOf i).toNat)
  case atStart => exact ⟨0, Nat.zero_le _, rfl⟩
  case round =>
    obtain ⟨k, hk, rfl⟩ := hrel
    have hSZ := Lib.hid (fun W => size_any k (by omega) W)
    by_cases hlt : k < n
    · have hpl : 2 ^ k < 2 ^ n := Nat.pow_lt_pow_right (by decide) hlt
      generalize 2 ^ k = p at *
      generalize 2 ^ n = N at *
      go_wp2_with fail
      refine (hSZ.out _).mono ?_
      rintro e w' ⟨rfl, rfl⟩
      go_wp2_with fail
      go_round
      case rel => exact ⟨k + 1, by omega, by go_num⟩
      case measure => simp [intOf]; omega
    · obtain rfl : k = n := by omega
      generalize 2 ^ k = p at *
      go_wp2_with fail
      refine (hSZ.out _).mono ?_
      rintro e w' ⟨rfl, rfl⟩
      go_wp2_with fail
      go_ret
      exact ⟨rfl, rfl⟩
theorem rzero_any (m : Int) (A : Option Addr) (len c : Nat) (w : World) (x : Bool) (hx : decide (m = 0 ∧ len = 0) = x) : Calls Tryd.prog 36 #[setA m A len c] w fun e w' => e = .returned (.bool x) ∧ Below w.heap.size w w' := by
  unfold setA
  by_cases h1 : m = 0
  · subst h1
    by_cases h2 : len = 0
    · subst h2
      have : x = true := by rw [← hx]; decide
      subst this
      go_enter Tryd.func36, Tryd.ntmps36
      go_wp2
      go_ret
      exact ⟨rfl, (Below.refl _ _).alloc (Nat.le_refl _) _⟩
    · have : x = false := by rw [← hx, decide_eq_false]; omega
      subst this
      have hd : ((len : Int) == 0) = false := by rw [beq_eq_false_iff_ne]; omega
      clear h2 hx
      go_enter Tryd.func36, Tryd.ntmps36
      go_wp2
      go_ret
      exact ⟨by first | rfl | exact ret_bool hd, (Below.refl _ _).alloc (Nat.le_refl _) _⟩
  · have : x = false := by rw [← hx, decide_eq_false]; omega
    subst this
    have hd : (m == 0) = false := by rw [beq_eq_false_iff_ne]; exact h1
    clear h1 hx
    go_enter Tryd.func36, Tryd.ntmps36
    go_wp2
    go_ret
    exact ⟨by first | rfl | exact ret_bool hd, (Below.refl _ _).alloc (Nat.le_refl _) _⟩
def greatB (m : Int) (len : Nat) : Bool := decide (8 < m ∨ 8 < len)
theorem great_any (m : Int) (A : Option Addr) (len c : Nat) (w : World) : Calls Tryd.prog 9 #[setA m A len c] w fun e w' => e = .returned (.bool (greatB m len)) ∧ Below w.heap.size w w' := by
  unfold setA
  by_cases h1 : 8 < m
  · have h : greatB m len = true := decide_eq_true (.inl h1)
    rw [h]
    go_enter Tryd.func9, Tryd.ntmps9
    go_wp2
    go_ret
    exact ⟨rfl, (Below.refl _ _).alloc (Nat.le_refl _) _⟩
  · have hd0 : decide (8 < m) = false := decide_eq_false h1
    by_cases h2 : 8 < len
    · have h : greatB m len = true := decide_eq_true (.inr h2)
      rw [h]
      have hd : decide (8 < (len : Int)) = true := decide_eq_true (by omega)
      go_enter Tryd.func9, Tryd.ntmps9
      go_wp2
      go_ret
      exact ⟨by first | rfl | exact ret_bool hd, (Below.refl _ _).alloc (Nat.le_refl _) _⟩
    · have h : greatB m len = false := decide_eq_false (by omega)
      rw [h]
      have hd : decide (8 < (len : Int)) = false := decide_eq_false (by omega)
      go_enter Tryd.func9, Tryd.ntmps9
      go_wp2
      go_ret
      exact ⟨by first | rfl | exact ret_bool hd, (Below.refl _ _).alloc (Nat.le_refl _) _⟩
/-- may a set be, bit by bit -/
theorem sright_bits {m : Int} {ws : List Nat} (n : Nat) (hm : m = n) (hn : n ≤ 16) (hlt : ∀ v ∈ ws, v < 18446744073709551616) (hl : ws.length = wordsN n) : srightB m ws = true ↔ ∀ x, 2 ^ n ≤ x → x < 64 → (wat ws 0).testBit x = false := by
  have hi := sright_iff (m := m) hlt
  have hb0 : ∀ j, j < 64 → bitAt ws j = (wat ws 0).testBit j := fun j hj => by
    unfold bitAt wat
    rw [show j / 64 = 0 by omega, Nat.mod_eq_of_lt hj]
  rw [hi, hm, Int.toNat_natCast]
  constructor
  · rintro ⟨_, h⟩ x h1 h2
    rw [← hb0 x h2]
    exact h.hi x h1 h2
  · intro h
    exact ⟨by omega, hn, hl, hlt, fun x h1 h2 => by rw [hb0 x h2]; exact h x h1 h2⟩
set_option maxRecDepth 100000 in
set_option maxHeartbeats 2000000 in
theorem rright_any (m : Int) (A : Option Addr) (len c : Nat) (ws : List Nat) (w : World) (h : SetArg w m A len c ws) : Calls Tryd.prog 11 #[setA m A len c] w fun e w' => e = .returned (.bool (srightB m ws)) ∧ Below w.heap.size w w' := by
  have hm := i64_of_wf h.wf
  have hlc : len ≤ maxLen := Nat.le_trans h.hcap h.hmax
  unfold maxLen at hlc
  by_cases h1 : smayB m = true
  · have h1' : 0 ≤ m ∧ m ≤ 16 := by simpa [smayB] using h1
    obtain ⟨n, rfl⟩ := Int.eq_ofNat_of_zero_le h1'.1
    have hn : n ≤ 16 := by omega
    have hN := pow16 hn
    have hN1 := Nat.one_le_two_pow (n := n)
    have HPW := Lib.hid (fun k (hk : k < n) => (show 2 * 2 ^ k = 2 ^ (k + 1) ∧ 2 ^ k ≤ 65536 from ⟨by rw [Nat.pow_succ, Nat.mul_comm], pow16 (by omega)⟩))
    have HWC := Lib.hid (wordsN_ceil n)
    have hwP := wordsN_pos n
    have hwN := wordsN_le hn
    have HL := Lib.hid h.hlen
    have HLT := Lib.hid h.lt
    have HROW := Lib.hid h.row
    have HBT := Lib.hid (fun hl => sright_bits (ws := ws) n rfl hn h.lt hl)
    have HNO := Lib.hid (fun hl : ¬ ws.length = wordsN n => (show srightB n ws = false from by unfold srightB; rw [Int.toNat_natCast, decide_eq_false hl]; simp))
    have hd1 : ¬ (n : Int) < 0 := by omega
    have hd2 : ¬ 16 < (n : Int) := by omega
    obtain ⟨y, hy⟩ : ∃ y, y = srightB n ws := ⟨_, rfl⟩
    have HY := Lib.hid hy
    rw [← hy]
    unfold setA
    obtain ⟨W, hW⟩ : ∃ W, W = w.alloc (.cells #[.int .i64 (n : Nat), .slice A len c] 24) := ⟨_, rfl⟩
    have HbW : Hid (Below w.heap.size w W) := Lib.hid (by rw [hW]; exact (Below.refl _ _).alloc (Nat.le_refl _) _)
    have hK : Blk W w.heap.size 24 #[.int .i64 (n : Nat), .slice A len c] := by rw [hW]; exact Blk.new w _ _
    have HWW := Lib.hid hW
    have k0 : W.cell? ⟨w.heap.size, 0, none⟩ = some (.int .i64 (n : Nat)) := hK.cell 0
    have k1 : W.cell? ⟨w.heap.size, 1, none⟩ = some (.slice A len c) := hK.cell 1
    clear h h1 h1' hy hK
    go_enter Tryd.func11, Tryd.ntmps11
    go_wp2_with fail
    rw [← HWW.out]
    clear hW
    go_loop [3, 4] (fun s i => ∃ k : Nat, k ≤ n ∧ i = .int .i64 k ∧ s = .int .i64 (2 ^ k : Nat)) (fun _ i => n - (intOf i).toNat)
    case atStart => exact ⟨0, Nat.zero_le _, rfl, rfl⟩
    case round =>
      obtain ⟨k, hk, rfl, rfl⟩ := hrel
      by_cases hlt : k < n
      · have hpw := HPW.out k hlt
        obtain ⟨hp1, hp2⟩ := hpw
        have HP := Lib.hid hp1
        generalize 2 ^ k = p at *
        clear hp1
        go_wp2_with fail
        go_round
        case rel => exact ⟨k + 1, by omega, by go_num, by rw [← HP.out]; go_num⟩
        case measure => simp [intOf]; omega
      · obtain rfl : k = n := by omega
        generalize hNe : 2 ^ k = N at *
        have hq : ((N : Int) + 63) / 64 = ((wordsN k : Nat) : Int) := by rw [HWC.out]; omega
        by_cases hlen : len = wordsN k
        · obtain ⟨b0, off, rfl, hb0, hcell⟩ := HROW.out (by rw [HL.out]; omega)
          have h0 : W.cell? ⟨b0, off, none⟩ = some (.int .u64 (wat ws 0 : Nat)) := (HbW.out.cell (p := ⟨b0, off, none⟩) hb0).trans (hcell 0 (by rw [HL.out]; omega))
          have hbt := HBT.out (by rw [HL.out]; exact hlen)
          have HBI := Lib.hid (fun x (hx : x < 64) W => rbit_any (wat ws 0) x (wat_lt HLT.out 0) (by omega) W)
          have HBB := Lib.hid hbt
          generalize wat ws 0 = v at *
          rw [← hlen] at hq
          clear hlen hcell hbt
          go_wp2_with fail
          go_loop [6] (fun i => ∃ x : Nat, i = .int .i64 x ∧ N ≤ x ∧ (∀ j, N ≤ j → j < x → j < 64 → v.testBit j = false)) (fun i => 64 - (intOf i).toNat)
          case atStart => exact ⟨N, rfl, Nat.le_refl _, fun j h1 h2 => by omega⟩
          case round =>
            obtain ⟨x, rfl, hx, hall⟩ := hrel
            have HALL := Lib.hid hall
            clear hall
            by_cases hx64 : x < 64
            · have hbi := HBI.out x hx64
              cases hvx : v.testBit x
              · have HVX := Lib.hid hvx
                rw [hvx] at hbi
                have HBX := Lib.hid hbi
                clear hvx hbi
                go_wp2_with fail
                refine (HBX.out _).mono ?_
                rintro e w' ⟨rfl, rfl⟩
                go_wp2_with fail
                go_round
                case rel => exact ⟨x + 1, by go_num, by omega, fun j h1 h2 h3 => by
                  rcases Nat.lt_succ_iff_lt_or_eq.1 h2 with h4 | h4
                  · exact HALL.out j h1 h4 h3
                  · subst h4; exact HVX.out⟩
                case measure => simp [intOf]; omega
              · have HVX := Lib.hid hvx
                rw [hvx] at hbi
                have HBX := Lib.hid hbi
                clear hvx hbi
                go_wp2_with fail
                refine (HBX.out _).mono ?_
                rintro e w' ⟨rfl, rfl⟩
                go_wp2_with fail
                go_ret
                exact ⟨ret_bool (by
                  rw [HY.out]
                  cases hsr : srightB (k : Int) ws
                  · rfl
                  · have := HBB.out.1 hsr x (by omega) hx64
                    rw [HVX.out] at this
                    cases this), HbW.out⟩
            · have hge : ¬ (x : Int) < 64 := by omega
              clear HBI
              go_wp2_with fail
              go_ret
              exact ⟨ret_bool (by
                rw [HY.out]
                exact (HBB.out.2 (fun j h1 h2 => HALL.out j (by omega) (by omega) h2)).symm), HbW.out⟩
        · have hne : ((len : Int) != ((wordsN k : Nat) : Int)) = true := by rw [bne_iff_ne]; omega
          have hno := HNO.out (by rw [HL.out]; exact hlen)
          have HNN := Lib.hid hno
          generalize wordsN k = m at *
          clear hlen hno
          go_wp2_with fail
          go_ret
          exact ⟨ret_bool (by rw [HY.out, HNN.out]), HbW.out⟩
  · have h1' : smayB m = false := by simpa using h1
    have hd : srightB m ws = false := by unfold srightB; rw [h1', Bool.false_and, Bool.false_and]
    have hmm : m < 0 ∨ 16 < m := by
      unfold smayB at h1'
      rw [decide_eq_false_iff_not] at h1'
      omega
    rw [hd]
    unfold setA
    clear h h1 h1' hd
    rcases hmm with hmm | hmm
    · go_enter Tryd.func11, Tryd.ntmps11
      go_wp2_with fail
      go_ret
      exact ⟨rfl, (Below.refl _ _).alloc (Nat.le_refl _) _⟩
    · have hm0 : ¬ m < 0 := by omega
      go_enter Tryd.func11, Tryd.ntmps11
      go_wp2_with fail
      go_ret
      exact ⟨rfl, (Below.refl _ _).alloc (Nat.le_refl _) _⟩
end Go.Proofs.YtpbpjihdaghiaaaDoor
