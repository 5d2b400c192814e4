/- Contract: the document's text of a table. -/
import Derived.Test.YtpbpjihdaghiaaaDoorSetPt
import Derived.Test.YtpbpjihdaghiaaaDoorSetU
import Derived.Laws.Concat
namespace Go.Proofs.YtpbpjihdaghiaaaDoor
open Go.RowKit Go.Sort
set_option linter.unusedSimpArgs false
set_option linter.unusedVariables false

theorem hex_at2 (d : Nat) (hd : d < 16) (w : World) : (Instr.index 9 (.string ⟨#[48, 49, 50, 51, 52, 53, 54, 55, 56, 57, 97, 98, 99, 100, 101, 102]⟩) (.int .i64 (d : Nat))).run Tryd.prog w = .ok (.int .u8 ((hexB d).toNat : Nat)) w := by
  have hsz : hexS.size = 16 := by decide +kernel
  have h := str_at hexS d (by rw [hsz]; exact hd) w
  rw [hexS_at ⟨d, hd⟩] at h
  exact h
theorem byte_str (b : UInt8) (x : Int) (hx : x = (b.toNat : Int)) (w : World) : (convert 38 9 (.slice (some ⟨w.heap.size, 0, none⟩) 1 1)).run Tryd.prog (w.alloc (.cells #[.int .u8 x] 5)) = .ok (.string ⟨[b].toArray⟩) (w.alloc (.cells #[.int .u8 x] 5)) := by
  subst hx
  have hb := run_convert_bytes_back (P := Tryd.prog) (w.alloc (.cells #[.int .u8 (b.toNat : Nat)] 5)) 38 9 5 ⟨w.heap.size, 0, none⟩ 1 [b] (by kernel_rfl) (by kernel_rfl) (by kernel_rfl) (fun j hj => by
    have : j = 0 := by simpa using hj
    subst this
    rw [Addr.add_lit]
    simp)
  exact hb
theorem hexT_snoc (ws : List Nat) (i : Nat) : hexT ws (i + 1) 0 = [hexB (nib ws i)] ++ hexT ws i 0 := by
  unfold hexT
  rw [Nat.sub_zero, Nat.sub_zero, List.range_succ_eq_map, List.map_cons, List.map_map]
  simp only [List.cons_append, List.nil_append]
  congr 1
  apply List.map_congr_left
  intro j hj
  have := List.mem_range.1 hj
  simp only [Function.comp]
  congr 2
  omega
theorem nib_half (ws : List Nat) (i k : Nat) (hk : k < 4) : nib ws i / 2 ^ k = 2 * (nib ws i / 2 ^ (k + 1)) + (bitAt ws (4 * i + k)).toNat := by
  have h := nib_bit ws i k
  rw [decide_eq_true hk, Bool.true_and] at h
  rw [← h, Nat.testBit_eq_decide_div_mod_eq, Nat.pow_succ, ← Nat.div_div_eq_div_mul]
  rcases Nat.mod_two_eq_zero_or_one (nib ws i / 2 ^ k) with h1 | h1 <;> simp [h1] <;> omega
set_option maxRecDepth 100000 in
set_option maxHeartbeats 8000000 in
theorem rtext_any (n : Nat) (hn : n ≤ 16) (A : Option Addr) (c : Nat) (t : List Bool) (w : World) (h : TabArg w A (2 ^ n) c t) :
    Calls Tryd.prog 35 #[.slice A (2 ^ n : Nat) c] w fun e w' => e = .returned (txt (textS n (packT t))) ∧ Below w.heap.size w w' := by
  have hN := pow16 hn
  have hp := Nat.two_pow_pos n
  have hD1 := size_digits n
  have hD2 : 4 * (digitsN n - 1) < 2 ^ n := by unfold digitsN; omega
  have hD3 := digitsN_le hn
  have HA := Lib.hid h
  have HVR := Lib.hid (fun W => rvars_any n hn A c W)
  have HB0 : Hid (∀ x, bitAt (packT t) x = tat t x) := Lib.hid (fun x => bitAt_pack t x)
  have HTL : Hid (∀ x, 2 ^ n ≤ x → tat t x = false) := Lib.hid (fun x hx => by unfold tat; rw [List.getElem?_eq_none (by rw [h.hlen]; exact hx)]; rfl)
  have hdf := dec_form ⟨n, by omega⟩
  have HDF : Hid (textS n (packT t) = (if n < 10 then [UInt8.ofNat (48 + n)] else [49, UInt8.ofNat (38 + n)]) ++ 58 :: hexT (packT t) (digitsN n) 0) := Lib.hid (by unfold textS; rw [show Lib.decDigits n = _ from hdf])
  have HT0 : Hid (hexT (packT t) 0 0 = []) := Lib.hid rfl
  have HTS : Hid (∀ i, hexT (packT t) (i + 1) 0 = [hexB (nib (packT t) i)] ++ hexT (packT t) i 0) := Lib.hid (hexT_snoc (packT t))
  have HTN : Hid (∀ i, (hexT (packT t) i 0).length = i) := Lib.hid (fun i => hexT_length (packT t) i)
  have HNB : Hid (∀ i k, k < 4 → nib (packT t) i / 2 ^ k = 2 * (nib (packT t) i / 2 ^ (k + 1)) + (tat t (4 * i + k)).toNat) := Lib.hid (fun i k hk => by rw [nib_half _ i k hk, bitAt_pack]; rfl)
  have HNL : Hid (∀ i, nib (packT t) i < 16) := Lib.hid (fun i => nib_lt (packT t) i)
  generalize textS n (packT t) = T at *
  generalize hexT (packT t) = hx at *
  generalize nib (packT t) = nb at *
  generalize 2 ^ n = N at *
  generalize digitsN n = D at *
  clear h hdf
  unfold txt at *
  go_enter Tryd.func35, Tryd.ntmps35
  go_wp2_with fail
  refine (HVR.out _).mono ?_
  rintro e w' ⟨rfl, rfl⟩
  go_wp2_with fail
  go_loopw [4, 5] (fun o x wr => ∃ i : Nat, i ≤ D ∧ x = .int .i64 (4 * i : Nat) ∧ o = .string ⟨(hx i 0).toArray⟩ ∧ Below w.heap.size w wr) (fun _ x _ => 4 * D + 4 - (intOf x).toNat)
  case atStart => exact ⟨0, Nat.zero_le _, rfl, by rw [HT0.out], Below.refl _ _⟩
  case round =>
    obtain ⟨i, hi, rfl, rfl, hb⟩ := hrel
    have HB := Lib.hid hb
    clear hb
    by_cases hlt : 4 * i < N
    · have e4 : ((4 * i : Nat) : Int) = 4 * (i : Int) := by omega
      rw [e4]
      obtain ⟨b1, off1, rfl, hb1, hv1⟩ := HA.out.val hp
      have HV1 := Lib.hid (fun x hx => hv1 wr x HB.out hx)
      clear hv1
      go_wp2_with fail
      go_loop [6, 7] (fun d k => ∃ j : Nat, j ≤ 4 ∧ k = .int .i64 ((j : Int) - 1) ∧ d = .int .i64 (nb i / 2 ^ j : Nat)) (fun _ k => (intOf k + 1).toNat)
      case atStart => exact ⟨4, Nat.le_refl _, rfl, by have := HNL.out i; rw [Nat.div_eq_of_lt (show nb i < 2 ^ 4 from this)]; rfl⟩
      case round =>
        obtain ⟨j, hj, rfl, rfl⟩ := hrel
        have hnl := HNL.out i
        by_cases h0 : j = 0
        · subst h0
          rw [Nat.pow_zero, Nat.div_one]
          have hhx := fun W => hex_at2 (nb i) hnl W
          have hsn := HTS.out i
          have hln := HTN.out i
          generalize hexB (nb i) = b at *
          generalize nb i = d at *
          generalize hx i 0 = l at *
          have HSN := Lib.hid hsn
          have hbs := byte_str b (b.toNat : Nat) rfl wr
          have hl1 : (l.length : Int) ≤ 8388608 := by omega
          have hl2 : (([b] : List UInt8).length : Int) ≤ 8388608 := by simp
          have hadd := fun W => run_string_add_lists (P := Tryd.prog) (w := W) [b] l hl2 hl1
          clear hsn hln hl2
          go_wp2_with fail
          go_roundw
          case rel => exact ⟨i + 1, by omega, by go_num, by rw [HSN.out]; rfl, HB.out.alloc HB.out.size _⟩
          case measure => simp [intOf]; omega
        · obtain ⟨k, rfl⟩ : ∃ k, j = k + 1 := ⟨j - 1, by omega⟩
          have hst := HNB.out i k (by omega)
          have hle : nb i / 2 ^ (k + 1) ≤ nb i := Nat.div_le_self _ _
          have ek : ((k + 1 : Nat) : Int) - 1 = (k : Int) := by omega
          rw [ek]
          have HST := Lib.hid hst
          have HTF := Lib.hid (HTL.out (4 * i + k))
          have HC1 := Lib.hid (HV1.out (4 * i + k))
          generalize nb i / 2 ^ (k + 1) = d at *
          generalize tat t (4 * i + k) = bt at *
          clear hst ek
          by_cases hin : 4 * i + k < N
          · have hc := HC1.out hin
            have hq0 : (0 : Int) ≤ 4 * (i : Int) + (k : Int) := by omega
            have hq1 : 4 * (i : Int) + (k : Int) < (N : Int) := by omega
            have hq2 : (4 * (i : Int) + (k : Int)).toNat = 4 * i + k := by omega
            cases bt
            · go_wp2_with fail
              go_round
              case rel => exact ⟨k, by omega, by go_num, by rw [HST.out]; first | (simp; done) | (simp; go_num) | go_num⟩
              case measure => first | (simp [intOf]; done) | (simp [intOf]; omega)
            · go_wp2_with fail
              go_round
              case rel => exact ⟨k, by omega, by go_num, by rw [HST.out]; first | (simp; done) | (simp; go_num) | go_num⟩
              case measure => first | (simp [intOf]; done) | (simp [intOf]; omega)
          · have hf := HTF.out (by omega)
            subst hf
            clear HC1
            have hq1 : ¬ 4 * (i : Int) + (k : Int) < (N : Int) := by omega
            go_wp2_with fail
            go_round
            case rel => exact ⟨k, by omega, by go_num, by rw [HST.out]; first | (simp; done) | (simp; go_num) | go_num⟩
            case measure => first | (simp [intOf]; done) | (simp [intOf]; omega)
    · obtain rfl : i = D := by omega
      have e4 : ((4 * i : Nat) : Int) = 4 * (i : Int) := by omega
      rw [e4]
      have hlt2 : ¬ 4 * (i : Int) < (N : Int) := by omega
      have hln := HTN.out i
      have hdf := HDF.out
      generalize hx i 0 = l at *
      have HDF2 := Lib.hid hdf
      have hl1 : (l.length : Int) ≤ 8388608 := by omega
      obtain ⟨ob, hob⟩ : ∃ x : ByteArray, x = ⟨l.toArray⟩ := ⟨_, rfl⟩
      have HOB := Lib.hid hob
      have hos : (ob.size : Int) ≤ 8388608 := by rw [hob, bytes_size]; exact hl1
      rw [← hob]
      clear hdf hob hln
      by_cases h10 : n < 10
      · have hdt : (UInt8.ofNat (48 + n)).toNat = 48 + n := by rw [UInt8.toNat_ofNat']; omega
        have hbs := byte_str (UInt8.ofNat (48 + n)) (48 + (n : Int)) (by rw [hdt]; omega) wr
        have HDT : Hid (l = l ∧ T = [UInt8.ofNat (48 + n)] ++ 58 :: l) := Lib.hid ⟨rfl, by rw [HDF2.out, if_pos h10]⟩
        have e2 : IntKind.u8.wrap (48 + (n : Int)) = 48 + (n : Int) := by
          simp [IntKind.wrap, IntKind.signed, IntKind.bits]
          omega
        have hge : ¬ (10 : Int) ≤ (n : Int) := by omega
        generalize UInt8.ofNat (48 + n) = b at *
        clear HDF HDF2
        go_wp2_with fail
        go_ret
        refine ⟨?_, HB.out.alloc HB.out.size _⟩
        rw [HDT.out.2, HOB.out]
        first
          | rfl
          | (congr 2; apply ByteArray.ext; simp [ByteArray.data_append]; done)
          | (congr 2; done)
      · have hdt : (UInt8.ofNat (38 + n)).toNat = 38 + n := by rw [UInt8.toNat_ofNat']; omega
        have hbs := byte_str (UInt8.ofNat (38 + n)) (38 + (n : Int)) (by rw [hdt]; omega) wr
        have HDT : Hid (l = l ∧ T = [49, UInt8.ofNat (38 + n)] ++ 58 :: l) := Lib.hid ⟨rfl, by rw [HDF2.out, if_neg h10]⟩
        have e2 : IntKind.u8.wrap (38 + (n : Int)) = 38 + (n : Int) := by
          simp [IntKind.wrap, IntKind.signed, IntKind.bits]
          omega
        have hge : (10 : Int) ≤ (n : Int) := by omega
        generalize UInt8.ofNat (38 + n) = b at *
        clear HDF HDF2
        go_wp2_with fail
        go_ret
        refine ⟨?_, HB.out.alloc HB.out.size _⟩
        rw [HDT.out.2, HOB.out]
        first
          | rfl
          | (congr 2; apply ByteArray.ext; simp [ByteArray.data_append]; done)
          | (congr 2; done)
end Go.Proofs.YtpbpjihdaghiaaaDoor
