/- Law 29: ExprFree. -/
import Derived.Test.YtbmhinbomailmaaGreatDoorExY
namespace Go.Proofs.YtbmhinbomailmaaGreatDoor
open Go.RowKit Go.Sort
set_option linter.unusedSimpArgs false
set_option linter.unusedVariables false

/-- the low bits of an int -/
def lowN (y : Int) (n : Nat) : Nat := (y % ((2 ^ n : Nat) : Int)).toNat
theorem low_64 (y : Int) (n : Nat) (hn : n ≤ 16) : lowN y n = (y % ((2 ^ 64 : Nat) : Int)).toNat % 2 ^ n := by
  have hp1 := Nat.two_pow_pos n
  have a1 : 0 ≤ y % ((2 ^ 64 : Nat) : Int) := Int.emod_nonneg _ (by decide)
  have a2 : 0 ≤ y % ((2 ^ n : Nat) : Int) := Int.emod_nonneg _ (by omega)
  unfold lowN
  apply Int.ofNat.inj
  show ((y % ((2 ^ n : Nat) : Int)).toNat : Int) = (((y % ((2 ^ 64 : Nat) : Int)).toNat % 2 ^ n : Nat) : Int)
  rw [Int.natCast_emod, Int.toNat_of_nonneg a1, Int.toNat_of_nonneg a2]
  exact (Int.emod_emod_of_dvd y (Int.natCast_dvd_natCast.2 (Nat.pow_dvd_pow 2 (by omega)))).symm
theorem low_lt (y : Int) (n : Nat) : lowN y n < 2 ^ n := by
  have hp1 := Nat.two_pow_pos n
  have := Int.emod_lt_of_pos y (show (0 : Int) < ((2 ^ n : Nat) : Int) by omega)
  have := Int.emod_nonneg y (show ((2 ^ n : Nat) : Int) ≠ 0 by omega)
  unfold lowN
  omega
theorem wrap_mod (X : Nat) (h : X < 18446744073709551616) : IntKind.i64.wrap (X : Int) % ((2 ^ 64 : Nat) : Int) = (X : Int) := by
  rw [IntKind.wrap_i64]
  omega
theorem wrap_in (X : Int) : -9223372036854775808 ≤ IntKind.i64.wrap X ∧ IntKind.i64.wrap X ≤ 9223372036854775807 := by
  rw [IntKind.wrap_i64]
  omega
/-- y ^ 1<<v of any int -/
theorem xor_bits (y : Int) (v n : Nat) (hv : v ≤ 15) (hn : n ≤ 16) (j : Nat) (hj : j ≠ v) : (lowN (bits .xor .i64 y ((2 ^ v : Nat) : Int)) n).testBit j = (lowN y n).testBit j := by
  have hp : 2 ^ v < 65536 := pow_lt16 hv
  rw [low_64 _ _ hn, low_64 _ _ hn, Nat.testBit_mod_two_pow, Nat.testBit_mod_two_pow]
  congr 1
  have e : bits .xor .i64 y ((2 ^ v : Nat) : Int) = IntKind.i64.wrap (((BitVec.ofInt 64 y ^^^ BitVec.ofInt 64 ((2 ^ v : Nat) : Int)).toNat : Nat) : Int) := rfl
  rw [e, wrap_mod _ (BitVec.isLt _), Int.toNat_natCast, BitVec.toNat_xor, ofInt_i64 _ (by omega), BitVec.toNat_ofInt, Nat.testBit_xor, Nat.testBit_two_pow]
  have : decide (v = j) = false := by simp; omega
  rw [this, Bool.xor_false]
theorem holdsI_low (x : Ex) (y : Int) : x.holdsI y = x.holdsE x.own (lowN y x.own) := by
  unfold Ex.holdsI Ex.holdsE
  rw [Nat.mod_eq_of_lt (low_lt y x.own)]
  rfl
theorem flip_same {x : Ex} (hs : x.Small) (y : Int) {v : Nat} (hv : v ≤ 15) (hf : x.freeN.testBit v = false) : x.holdsI (bits .xor .i64 y ((2 ^ v : Nat) : Int)) = x.holdsI y := by
  rw [holdsI_low, holdsI_low]
  exact holds_flip (fun _ => hf) _ (fun j hj => xor_bits y v x.own hv (bitLen16 (vars_lt x hs)) j hj)
set_option maxRecDepth 100000 in
set_option maxHeartbeats 16000000 in
theorem efree_walk (s : ByteArray) (y : Int) (w : World) (hsm : s.size ≤ maxLen) (hyw : (Lit.int .i64 y).wf = true) (hV : PV w) :
    Calls Tryz.prog 6 #[.string s, .int .i64 y] w fun e w' => e = .returned (.bool true) ∧ Below w.heap.size w w' := by
  obtain ⟨l, rfl, hl⟩ := size_list s
  have hy := i64_of_wf hyw
  have hlm : l.length ≤ 9223372036854775807 := by unfold maxLen at hsm; omega
  have hsz := bytes_size l
  have HA := Lib.hid (alive29_any w hV)
  have HV := Lib.hid hV
  have HY := Lib.hid hy
  clear hV hsm hl hyw hy
  go_enter Tryz.func6, Tryz.ntmps6
  go_wp2_with fail
  refine HA.out.mono ?_
  rintro e w1 ⟨rfl, h1⟩
  have H1 := Lib.hid h1
  clear h1
  by_cases h400 : 400 < l.length
  · have hi : (400 : Int) < (l.length : Int) := by omega
    go_wp2_with fail
    go_ret
    exact ⟨rfl, H1.out⟩
  · have hi : ¬ (400 : Int) < (l.length : Int) := by omega
    have HP := Lib.hid (parse_400 l w1 (by omega) (HV.out.on H1.out))
    go_wp2_with fail
    refine HP.out.mono ?_
    rintro e w2 ⟨hb, ⟨c, p, hc, rfl⟩ | ⟨g, x, rfl, hx, hs, hf, htl, hdl⟩⟩
    · have hb2 := H1.out.trans (hb.mono H1.out.size)
      have HB2 := Lib.hid hb2
      have hc0 : ((c : Int) != 0) = true := by simp; omega
      have hcr : IntKind.i64.wrap (c : Int) = (c : Int) := by rcases hc with rfl | rfl <;> rfl
      clear hb hb2 hc
      go_wp2_with fail
      go_ret
      exact ⟨rfl, HB2.out⟩
    · have hb2 := H1.out.trans (hb.mono H1.out.size)
      have HB2 := Lib.hid hb2
      have HVs := Lib.hid (fun W (hW : Below w2.heap.size w2 W) => exprVars_any g x W (hx.on hW) hs)
      have HFr := Lib.hid (fun W (hW : Below w2.heap.size w2 W) => exprFree_any g x W (hx.on hW) hs)
      have HHo := Lib.hid (fun W (hW : Below w2.heap.size w2 W) y (hy : -9223372036854775808 ≤ y ∧ y ≤ 9223372036854775807) => exprHolds_any g x y W (hx.on hW) hs hy)
      have HS := Lib.hid hs
      have hfl := free_lt x hs
      have hvl := vars_lt x hs
      have hfr : IntKind.i64.wrap (x.freeN : Int) = (x.freeN : Int) := wrap_i64_nat _ (by omega)
      have hvr : IntKind.i64.wrap (x.varsN : Int) = (x.varsN : Int) := wrap_i64_nat _ (by omega)
      have HVF := Lib.hid (fun k W (hk : k ≤ 16) => rvalue_any x.freeN k (by omega) hk W)
      have HVV := Lib.hid (fun k W (hk : k ≤ 16) => rvalue_any x.varsN k (by omega) hk W)
      clear hb hb2 hx hs hf hdl htl
      go_wp2_with fail
      refine (HHo.out _ (Below.refl _ _) y HY.out).mono ?_
      rintro e w3 ⟨rfl, h3⟩
      have H3 := Lib.hid h3
      clear h3
      go_wp2_with fail
      go_loopw [9] (fun ix wr => ∃ k : Nat, k ≤ 16 ∧ ix = .int .i64 (k : Nat) ∧ Below w2.heap.size w2 wr) (fun ix _ => 16 - (intOf ix).toNat)
      case atStart => exact ⟨0, by omega, rfl, H3.out⟩
      case round =>
        obtain ⟨k, hk, rfl, hbr⟩ := hrel
        have HBR := Lib.hid hbr
        clear hbr
        by_cases hk2 : k < 16
        · have hki : (k : Int) < 16 := by omega
          have HF := Lib.hid (HFr.out wr HBR.out)
          have HSZ := Lib.hid (fun W => size_any k (by omega) W)
          go_wp2_with fail
          refine (HSZ.out _).mono ?_
          rintro e w4 ⟨rfl, rfl⟩
          go_wp2_with fail
          cases hbit : x.freeN.testBit k with
          | true =>
            have HVk := Lib.hid (fun W => HVF.out k W (by omega))
            rw [hbit] at HVk
            simp only [Bool.toNat_true] at HVk
            have HVv := Lib.hid (fun W => HVV.out k W (by omega))
            rw [free_vars x hbit] at HVv
            simp only [Bool.toNat_true] at HVv
            clear hbit
            refine (HFr.out _ HBR.out).mono ?_
            rintro e w5 ⟨rfl, h5⟩
            have B5 := Lib.hid (HBR.out.trans (h5.mono HBR.out.size))
            clear h5
            go_wp2_with fail
            refine (HVk.out _).mono ?_
            rintro e w' ⟨rfl, rfl⟩
            go_wp2_with fail
            refine (HVs.out _ B5.out).mono ?_
            rintro e w6 ⟨rfl, h6⟩
            have B6 := Lib.hid (B5.out.trans (h6.mono B5.out.size))
            clear h6
            go_wp2_with fail
            refine (HVv.out _).mono ?_
            rintro e w' ⟨rfl, rfl⟩
            go_wp2_with fail
            refine (HFr.out _ B6.out).mono ?_
            rintro e w7 ⟨rfl, h7⟩
            have B7 := Lib.hid (B6.out.trans (h7.mono B6.out.size))
            clear h7
            go_wp2_with fail
            refine (HVk.out _).mono ?_
            rintro e w' ⟨rfl, rfl⟩
            go_wp2_with fail
            go_roundw
            case rel => exact ⟨k + 1, by omega, by go_num, B7.out⟩
            case measure => simp [intOf]; omega
          | false =>
            have HVk := Lib.hid (fun W => HVF.out k W (by omega))
            rw [hbit] at HVk
            simp only [Bool.toNat_false] at HVk
            have HFL := Lib.hid (flip_same HS.out y (show k ≤ 15 by omega) hbit)
            obtain ⟨z, hz⟩ : ∃ z, z = bits .xor .i64 y ((2 ^ k : Nat) : Int) := ⟨_, rfl⟩
            have hzr : -9223372036854775808 ≤ z ∧ z ≤ 9223372036854775807 := by rw [hz]; exact wrap_in _
            have HZR := Lib.hid hzr
            have hz2 : bits .xor .i64 y ((2 : Int) ^ k) = z := by rw [hz]; congr 1 <;> simp
            rw [← hz] at HFL
            have HFL2 : Hid ((x.holdsI z != x.holdsI y) = false) := Lib.hid (by rw [HFL.out]; simp)
            have hz3 := hz.symm
            clear hbit hzr hz
            refine (HFr.out _ HBR.out).mono ?_
            rintro e w5 ⟨rfl, h5⟩
            have B5 := Lib.hid (HBR.out.trans (h5.mono HBR.out.size))
            clear h5
            go_wp2_with fail
            refine (HVk.out _).mono ?_
            rintro e w' ⟨rfl, rfl⟩
            go_wp2_with fail
            refine (HFr.out _ B5.out).mono ?_
            rintro e w6 ⟨rfl, h6⟩
            have B6 := Lib.hid (B5.out.trans (h6.mono B5.out.size))
            clear h6
            go_wp2_with fail
            refine (HVk.out _).mono ?_
            rintro e w' ⟨rfl, rfl⟩
            go_wp2_with fail
            refine (HHo.out _ B6.out z HZR.out).mono ?_
            rintro e w7 ⟨rfl, h7⟩
            have B7 := Lib.hid (B6.out.trans (h7.mono B6.out.size))
            have hfl := HFL.out
            clear h7
            go_wp2_with fail
            go_roundw
            case rel => exact ⟨k + 1, by omega, by go_num, B7.out⟩
            case measure => simp [intOf]; omega
        · obtain rfl : k = 16 := by omega
          go_wp2_with fail
          go_ret
          exact ⟨rfl, HB2.out.trans (HBR.out.mono HB2.out.size)⟩
end Go.Proofs.YtbmhinbomailmaaGreatDoor
