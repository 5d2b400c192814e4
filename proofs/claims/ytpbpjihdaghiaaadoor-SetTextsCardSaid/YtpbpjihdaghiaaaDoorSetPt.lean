/- Contract: set.Parse. -/
import Derived.Test.YtpbpjihdaghiaaaDoorSetPs
import Derived.Test.YtpbpjihdaghiaaaDoorMh
namespace Go.Proofs.YtpbpjihdaghiaaaDoor
open Go.RowKit Go.Sort
set_option linter.unusedSimpArgs false
set_option linter.unusedVariables false

theorem idx_any (b : UInt8) (w : World) : Calls Tryd.prog 68 #[.string ⟨#[48, 49, 50, 51, 52, 53, 54, 55, 56, 57, 97, 98, 99, 100, 101, 102]⟩, .int .u8 (b.toNat : Nat)] w fun e w' => e = .returned (.int .i64 (Lib.indexByte hexL b)) ∧ w = w' := by
  refine (Tryd.strings_IndexByte ⟨#[48, 49, 50, 51, 52, 53, 54, 55, 56, 57, 97, 98, 99, 100, 101, 102]⟩ (b.toNat : Nat) w).mono ?_
  rintro e w' ⟨rfl, rfl⟩
  refine ⟨?_, rfl⟩
  rw [Int.toNat_natCast, Nat.toUInt8_eq, UInt8.ofNat_toNat]
  rfl
theorem str_at (s : ByteArray) (k : Nat) (hk : k < s.size) (w : World) : (Instr.index 9 (.string s) (.int .i64 (k : Nat))).run Tryd.prog w = .ok (.int .u8 ((s.data.toList.getD k 0).toNat : Nat)) w := by
  rw [run_index_string w 9 s .i64 _ Tryd.underlying9, dif_pos ⟨by omega, by omega⟩]
  have e : ((k : Int)).toNat = k := by omega
  simp only [e]
  rw [Lib.getD_at s k hk]
theorem i64_nat2 (x : Nat) (hx : x < 9223372036854775808) : IntKind.i64.wrap (x : Int) = (x : Int) := IntWalk.i64_in _ (by omega)
theorem u64_nat2 (x : Nat) (hx : x < 18446744073709551616) : IntKind.u64.wrap (x : Int) = (x : Int) := by rw [IntKind.wrap_u64]; omega
theorem i64_div16 (y : Nat) (hy : y < 65536) : IntKind.i64.wrap ((y : Int) / 16) = ((y / 16 : Nat) : Int) := by
  rw [show ((y : Int) / 16) = ((y / 16 : Nat) : Int) by omega]
  have : y / 16 ≤ y := Nat.div_le_self _ _
  generalize y / 16 = z at *
  exact i64_nat2 z (by omega)
theorem i64_mul4 (y : Nat) (hy : y < 16) : IntKind.i64.wrap ((y : Int) * 4) = ((y * 4 : Nat) : Int) := by
  rw [show ((y : Int) * 4) = ((y * 4 : Nat) : Int) by omega]
  exact i64_nat2 _ (by omega)
theorem u64_dig (d r : Nat) (hd : d < 16) (hr : r < 16) : IntKind.u64.wrap ((d : Int) * 2 ^ (r * 4)) = ((d * 2 ^ (r * 4) : Nat) : Int) ∧ d * 2 ^ (r * 4) < 18446744073709551616 := by
  have h1 : d * 2 ^ (r * 4) < 2 ^ 64 := by
    calc d * 2 ^ (r * 4) < 2 ^ 4 * 2 ^ (r * 4) := Nat.mul_lt_mul_of_pos_right hd (Nat.two_pow_pos _)
      _ = 2 ^ (4 + r * 4) := (Nat.pow_add ..).symm
      _ ≤ 2 ^ 64 := Nat.pow_le_pow_right (by omega) (by omega)
  have h2 : ((d : Int) * 2 ^ (r * 4)) = ((d * 2 ^ (r * 4) : Nat) : Int) := by simp
  rw [h2, IntKind.wrap_u64]
  clear h2
  generalize d * 2 ^ (r * 4) = z at *
  have h3 : z < 18446744073709551616 := h1
  exact ⟨by omega, h3⟩
def ParsePost (n : Nat) (rest : List UInt8) (w : World) (e : Ending) (w' : World) : Prop :=
  (DigOk rest (digitsN n) ∧ SOk n (parW n rest (digitsN n)) ∧ SetRes2 w n (parW n rest (digitsN n)) e w') ∨ (¬ (DigOk rest (digitsN n) ∧ SOk n (parW n rest (digitsN n))) ∧ SetErr w 10 e w')
set_option maxRecDepth 100000 in
set_option maxHeartbeats 8000000 in
theorem sparse_head (s : ByteArray) (hs : s.size < 4294967281) (n : Nat) (rest : List UInt8) (h : HeadOk s.data.toList n rest) (w : World) (hV : PV w) : Calls Tryd.prog 34 #[.string s] w (ParsePost n rest w) := by
  have hn := h.n16
  have hm := wordsN_le hn
  have hD := digitsN_le hn
  have hlen := h.len
  have hszT : s.data.toList.length = s.size := (Lib.size_eq s).symm
  have hdl2 : (Lib.decDigits n).length ≤ s.size := by rw [← hszT, h.eq]; simp
  have hcut := fun W (hV : PV W) => cut_any s hs W hV
  rw [h.cut] at hcut
  have HCUT := Lib.hid hcut
  have hat := fun W (hV : PV W) => atoi_any ⟨(Lib.decDigits n).toArray⟩ (by rw [bytes_size]; omega) W hV
  have hok := dec_atoi ⟨n, by omega⟩
  have HAT : Hid (∀ W, PV W → Calls Tryd.prog 67 #[.string ⟨(Lib.decDigits n).toArray⟩] W fun e w' => e = .returned (.tuple #[.int .i64 (n : Nat), .nilIface]) ∧ Below W.heap.size W w') := Lib.hid (fun W hV => (hat W hV).mono fun e w' hh => by
    obtain ⟨hx, hb⟩ := hh
    rcases hx with ⟨v, h1, h2⟩ | ⟨h1, _⟩
    · have : v = (n : Int) := by
        have h3 : Lib.atoiAll (Lib.decDigits n) = .ok v := h1
        rw [hok] at h3
        injection h3 with h3
        exact h3.symm
      rw [h2, this]; exact ⟨rfl, hb⟩
    · exact absurd hok (h1 _))
  have hit := fun W => itoa_sm n W (by omega)
  unfold txt at hit
  have HIT := Lib.hid hit
  have hma := fun W => smay_any (n : Int) W
  rw [show smayB (n : Int) = true from decide_eq_true (by omega)] at hma
  have HMA := Lib.hid hma
  have HDG := Lib.hid (fun W => sdigits_any n hn W)
  have HBL := Lib.hid (fun W => sblank_any n hn W)
  unfold setV at HBL
  obtain ⟨rs, hrs⟩ : ∃ x : ByteArray, x = ⟨rest.toArray⟩ := ⟨_, rfl⟩
  have hrl : rs.data.toList = rest := by rw [hrs]
  have hrz : rs.size = digitsN n := by rw [hrs, bytes_size, hlen]
  rw [← hrs] at HCUT
  have HCH : Hid (∀ k, k < digitsN n → ∀ W, (Instr.index 9 (.string rs) (.int .i64 ((digitsN n - 1 - k : Nat) : Int))).run Tryd.prog W = .ok (.int .u8 ((rest.getD (rest.length - 1 - k) 0).toNat : Nat)) W) := Lib.hid (fun k hk W => by
    have := str_at rs (digitsN n - 1 - k) (by omega) W
    rw [hrl] at this
    rw [hlen]; exact this)
  have HIX := Lib.hid (fun k (hk : k < digitsN n) => dig_word hk)
  have HID := Lib.hid (fun b W => idx_any b W)
  have HRG := Lib.hid (fun b W (h : OwnF U 71 W w.heap.size (.slice (some ⟨b, 0, none⟩) (wordsN n) (wordsN n)) (parW n rest (digitsN n))) (hd : DigOk rest (digitsN n)) => sright_any n (some ⟨b, 0, none⟩) (wordsN n) (wordsN n) (parW n rest (digitsN n)) W (own_arg h (parW_length n rest _) (parW_lt _ hd) hn hm))
  have HOKS : Hid (DigOk rest (digitsN n) → srightB (n : Nat) (parW n rest (digitsN n)) = true → SOk n (parW n rest (digitsN n))) := Lib.hid (fun hd h => by have := ((sright_iff (parW_lt _ hd)).1 h).2; simpa using this)
  have HOKN : Hid (srightB (n : Nat) (parW n rest (digitsN n)) = false → ¬ (DigOk rest (digitsN n) ∧ SOk n (parW n rest (digitsN n)))) := Lib.hid (fun h ⟨hd, ok⟩ => by rw [(sright_iff ok.lt).2 ⟨by omega, by simpa using ok⟩] at h; cases h)
  have HPL : Hid (∀ k, (parW n rest k).length = wordsN n) := Lib.hid (fun k => parW_length n rest k)
  have HP0 : Hid (parW n rest 0 = List.replicate (wordsN n) 0) := Lib.hid rfl
  have HPS : Hid (∀ k, parW n rest (k + 1) = (parW n rest k).set (k / 16) (wat (parW n rest k) (k / 16) ||| dgN rest k * 2 ^ (k % 16 * 4))) := Lib.hid (fun k => rfl)
  unfold setA at HRG
  unfold ParsePost SetRes2 SetErr setV
  obtain ⟨D, hDE⟩ : ∃ D, D = digitsN n := ⟨_, rfl⟩
  obtain ⟨m, hME⟩ : ∃ m, m = wordsN n := ⟨_, rfl⟩
  obtain ⟨hd, hhd⟩ : ∃ x : ByteArray, x = ⟨(Lib.decDigits n).toArray⟩ := ⟨_, rfl⟩
  rw [← hhd] at HCUT HAT HIT
  simp only [← hDE] at *
  simp only [← hME] at *
  clear hcut hat hok hit hma hrs hrl hdl2 hszT h hDE hME hhd
  have HV := Lib.hid hV
  obtain ⟨W0, hW0⟩ : ∃ W0, W0 = w.alloc (.cells #[.int .i64 0, .slice none 0 0] 24) := ⟨_, rfl⟩
  have hb0 : Below w.heap.size w W0 := by rw [hW0]; exact (Below.refl _ _).alloc (Nat.le_refl _) _
  have hR : Blk W0 w.heap.size 24 #[.int .i64 0, .slice none 0 0] := by rw [hW0]; exact Blk.new w _ _
  have HWW := Lib.hid hW0
  have hsz0 : W0.heap.size = w.heap.size + 1 := by rw [hW0]; simp
  have S := Lib.hid (And.intro hR (And.intro hb0 hsz0))
  clear hW0 hb0 hR hV hsz0
  go_enter Tryd.func34, Tryd.ntmps34
  go_wp2_with fail
  rw [← HWW.out]
  refine (HCUT.out _ (HV.out.on S.out.2.1)).mono ?_
  rintro e w1 ⟨rfl, hb1⟩
  have S1 := Lib.hid (And.intro (S.out.1.onB hb1) (And.intro (S.out.2.1.trans (hb1.mono S.out.2.1.size)) (show w.heap.size + 1 ≤ w1.heap.size by have := hb1.size; have := S.out.2.2; omega)))
  clear hb1 S HWW
  go_wp2_with fail
  refine (HAT.out _ (HV.out.on S1.out.2.1)).mono ?_
  rintro e w2 ⟨rfl, hb2⟩
  have S2 := Lib.hid (And.intro (S1.out.1.onB hb2) (And.intro (S1.out.2.1.trans (hb2.mono S1.out.2.1.size)) (Nat.le_trans S1.out.2.2 hb2.size)))
  clear hb2 S1
  go_wp2_with fail
  refine (HMA.out _).mono ?_
  rintro e w' ⟨rfl, rfl⟩
  go_wp2_with fail
  refine (HIT.out _).mono ?_
  rintro e w3 ⟨rfl, hb3⟩
  have S3 := Lib.hid (And.intro (S2.out.1.onB hb3) (And.intro (S2.out.2.1.trans (hb3.mono S2.out.2.1.size)) (Nat.le_trans S2.out.2.2 hb3.size)))
  clear hb3 S2
  have hbe : (hd.toList == hd.toList) = true := by simp
  have hb : ((rs.size : Int) != (D : Int)) = false := by rw [hrz]; simp
  go_wp2_with fail
  refine (HDG.out _).mono ?_
  rintro e w' ⟨rfl, rfl⟩
  go_wp2_with fail
  refine (HBL.out _).mono ?_
  rintro e w4 ⟨b, rfl, hbb, hown, hb4⟩
  have hblt := (hown.lt b rfl).2
  have hs3 := S3.out.2.2
  have hs4 := hb4.size
  obtain ⟨V, hV⟩ : ∃ V, V = w4.alloc (.cells #[.int .i64 (n : Nat), .slice (some ⟨b, 0, none⟩) m m] 24) := ⟨_, rfl⟩
  have hbV : Below w.heap.size w V := by rw [hV]; exact (S3.out.2.1.trans (hb4.mono S3.out.2.1.size)).alloc (by omega) _
  have hR : Blk V w.heap.size 24 #[.int .i64 0, .slice none 0 0] := by rw [hV]; exact (S3.out.1.onB hb4).alloc _
  have hO : Blk V w4.heap.size 24 #[.int .i64 (n : Nat), .slice (some ⟨b, 0, none⟩) m m] := by rw [hV]; exact Blk.new w4 _ _
  have hown' : OwnF U 71 V w.heap.size (.slice (some ⟨b, 0, none⟩) m m) (parW n rest 0) := by rw [hV, HP0.out]; exact (hown.mono (by omega)).alloc _
  have HVV := Lib.hid hV
  have SV := Lib.hid (And.intro hR (And.intro hO (And.intro hown' hbV)))
  have HNB : Hid (w.heap.size + 1 ≤ b ∧ b < w4.heap.size) := Lib.hid ⟨by omega, hblt⟩
  clear hV hbV hR hO hown' hown hbb hblt hb4 hs3 hs4 S3 hbe hb
  go_wp2_with fail
  rw [← HVV.out]
  go_loopw [52] (fun i wr => ∃ k : Nat, k ≤ D ∧ i = .int .i64 k ∧ DigOk rest k ∧ Blk wr w.heap.size 24 #[.int .i64 0, .slice none 0 0] ∧ Blk wr w4.heap.size 24 #[.int .i64 (n : Nat), .slice (some ⟨b, 0, none⟩) m m] ∧
    OwnF U 71 wr w.heap.size (.slice (some ⟨b, 0, none⟩) m m) (parW n rest k) ∧ Below w.heap.size w wr) (fun i _ => D - (intOf i).toNat)
  case atStart => exact ⟨0, Nat.zero_le _, rfl, fun j hj => by omega, SV.out.1, SV.out.2.1, SV.out.2.2.1, SV.out.2.2.2⟩
  case round =>
    obtain ⟨k, hk, rfl, hdig, hR, hO, hown, hbw⟩ := hrel
    have R := Lib.hid (And.intro hR (And.intro hO (And.intro hown hbw)))
    have HDI := Lib.hid hdig
    have kR0 : wr.cell? ⟨w.heap.size, 0, none⟩ = some (.int .i64 0) := hR.cell 0
    have kR1 : wr.cell? ⟨w.heap.size, 1, none⟩ = some (.slice none 0 0) := hR.cell 1
    have z0 := hR.frozen 0
    have z1 := hR.frozen 1
    clear hdig
    by_cases hlt : k < D
    · have hch := HCH.out k hlt
      have hc1 : ((D - 1 - k : Nat) : Int) = (D : Int) - 1 - (k : Int) := by omega
      rw [hc1] at hch
      have hidx := fun W => HID.out (rest.getD (rest.length - 1 - k) 0) W
      have hdd : Lib.indexByte hexL (rest.getD (rest.length - 1 - k) 0) = dgt rest k := rfl
      rw [hdd] at hidx
      have HIDX := Lib.hid hidx
      generalize hcc : (rest.getD (rest.length - 1 - k) 0) = c at *
      clear hidx hdd hcc hc1
      have HDE : Hid (∀ j, j < k + 1 → 0 ≤ dgt rest k → 0 ≤ dgt rest j) := Lib.hid (fun j hj h0 => by
        rcases Nat.lt_succ_iff_lt_or_eq.1 hj with h1 | rfl
        · exact HDI.out j h1
        · exact h0)
      have HDF : Hid (DigOk rest D → 0 ≤ dgt rest k) := Lib.hid (fun h => h k hlt)
      have HDL := Lib.hid (dgt_lt (rest := rest) (k := k))
      have HDN : Hid (0 ≤ dgt rest k → dgt rest k = (dgN rest k : Int)) := Lib.hid (fun h => (Int.toNat_of_nonneg h).symm)
      by_cases hneg : dgt rest k < 0
      · have HNO : Hid (¬ (DigOk rest D ∧ SOk n (parW n rest D))) := Lib.hid (fun h => by have := HDF.out h.1; omega)
        generalize dgt rest k = dg at *
        clear hO hown hbw hR
        go_wp2_with fail
        refine (HIDX.out _).mono ?_
        rintro e w' ⟨rfl, rfl⟩
        go_wp2_with fail
        refine bodyPost_ret (v := .tuple #[.agg #[.int .i64 0, .slice none 0 0], .int .u8 10]) ?_ rfl (.inr ⟨HNO.out, rfl, ?_⟩)
        · simp [results, Tryd.results34, go_sem, *]
        · first | exact R.out.2.2.2 | exact (R.out.2.2.2.setCell (Nat.le_refl _) _).setCell (Nat.le_refl _) _
      · have hde := HDN.out (by omega)
        have hd16 := (HDL.out (by omega)).1
        have HDG2 : Hid (DigOk rest (k + 1)) := Lib.hid (fun j hj => HDE.out j hj (by omega))
        have hym := HIX.out k hlt
        have kO : wr.cell? ⟨w4.heap.size, 1, none⟩ = some (.slice (some ⟨b, 0, none⟩) m m) := hO.cell 1
        have hat := hown.at_ (k / 16) (by rw [HPL.out]; exact hym)
        have hwat : (parW n rest k)[k / 16]? = some (wat (parW n rest k) (k / 16)) := by
          unfold wat
          rw [List.getElem?_eq_getElem (by rw [HPL.out]; exact hym)]
          rfl
        rw [hwat] at hat
        have kc : wr.cell? ⟨b, k / 16, none⟩ = some (.int .u64 (wat (parW n rest k) (k / 16) : Nat)) := hat.1
        have kz : wr.frozen? ⟨b, k / 16, none⟩ = false := hat.2
        have hwl := wat_lt (parW_lt (n := n) k HDI.out) (k / 16)
        have hpb : Hid (parW n rest (k + 1) = (parW n rest k).set (k / 16) (wat (parW n rest k) (k / 16) ||| dgN rest k * 2 ^ (k % 16 * 4))) := Lib.hid (HPS.out k)
        have hq1 := i64_div16 k (by omega)
        have hr1 : Int.tmod (k : Int) 16 = ((k % 16 : Nat) : Int) := by rw [Int.tmod_eq_emod_of_nonneg (by omega)]; omega
        have hr16 : k % 16 < 16 := Nat.mod_lt _ (by omega)
        rw [hde] at HIDX hneg
        generalize dgN rest k = dg at *
        have hmul := i64_mul4 (k % 16) hr16
        have hsh := u64_dig dg (k % 16) hd16 hr16
        have hcv : IntKind.u64.wrap (dg : Int) = (dg : Int) := u64_nat2 dg (by omega)
        obtain ⟨hsh1, hsh2⟩ := hsh
        have hor := u64_or_nat (wat (parW n rest k) (k / 16)) (dg * 2 ^ (k % 16 * 4)) hwl hsh2
        clear hsh2 hde hwat
        generalize k / 16 = q at *
        generalize k % 16 = r at *
        have hmn : min (r * 4) 64 = r * 4 := Nat.min_eq_left (by omega)
        generalize dg * 2 ^ (r * 4) = sh at *
        generalize r * 4 = r4 at *
        generalize hwv : wat (parW n rest k) q = v at *
        clear hO hown hbw hR hat hwv HDE HDF HDL HDN
        go_wp2_with fail
        refine (HIDX.out _).mono ?_
        rintro e w' ⟨rfl, rfl⟩
        go_wp2_with fail
        go_still_tail 14, (by kernel_rfl)
        go_wp2_with fail
        go_roundw
        case rel =>
          obtain ⟨hR, hO, hown, hbw⟩ := R.out
          have hst := hown.set_ q (v ||| sh)
          rw [← hpb.out] at hst
          exact ⟨k + 1, by omega, by go_num, HDG2.out, hR.store (by have := HNB.out; omega) q _, hO.store (by have := HNB.out; omega) q _, hst, (hbw.setCell (p := ⟨b, q, none⟩) (by have := HNB.out; simp only; omega) _).drew⟩
        case measure => simp [intOf]; omega
    · obtain rfl : k = D := by omega
      have kO0 : wr.cell? ⟨w4.heap.size, 0, none⟩ = some (.int .i64 (n : Nat)) := hO.cell 0
      have kO1 : wr.cell? ⟨w4.heap.size, 1, none⟩ = some (.slice (some ⟨b, 0, none⟩) m m) := hO.cell 1
      have hrg := HRG.out b wr hown HDI.out
      have hok := HOKS.out HDI.out
      have hon := HOKN.out
      have hpl := HPL.out k
      generalize hq : srightB (n : Nat) (parW n rest k) = q at *
      have HRG2 := Lib.hid hrg
      have HH := Lib.hid (And.intro hok (And.intro hon hpl))
      clear hrg hok hon hpl hq hO hown hbw hR
      go_wp2_with fail
      refine (HRG2.out).mono ?_
      rintro e w5 ⟨rfl, hb5⟩
      have S5 := Lib.hid (And.intro (R.out.1.onB hb5) (And.intro (R.out.2.1.onB hb5) (And.intro (R.out.2.2.1.below hb5) (R.out.2.2.2.trans (hb5.mono R.out.2.2.2.size)))))
      clear kR0 kR1 z0 z1 kO0 kO1 hb5
      have kR0 := S5.out.1.cell 0
      have kR1 := S5.out.1.cell 1
      have z0 := S5.out.1.frozen 0
      have z1 := S5.out.1.frozen 1
      have kO0 := S5.out.2.1.cell 0
      have kO1 := S5.out.2.1.cell 1
      cases q
      · go_wp2_with fail
        refine bodyPost_ret (v := .tuple #[.agg #[.int .i64 0, .slice none 0 0], .int .u8 10]) ?_ rfl (.inr ⟨HH.out.2.1 (by first | rfl | trivial), rfl, ?_⟩)
        · simp [results, Tryd.results34, go_sem, *]
        · first | exact S5.out.2.2.2 | exact (S5.out.2.2.2.setCell (Nat.le_refl _) _).setCell (Nat.le_refl _) _
      · go_wp2_with fail
        refine bodyPost_ret (v := .tuple #[.agg #[.int .i64 (n : Nat), .slice (some ⟨b, 0, none⟩) m m], .int .u8 0]) ?_ rfl (.inl ⟨HDI.out, HH.out.1 (by first | rfl | trivial), b, rfl, by have := HNB.out; omega, ?_, HH.out.2.2, ?_⟩)
        · simp [results, Tryd.results34, go_sem, *]
        · have := HNB.out
          exact (S5.out.2.2.1.set_below' (by simp only; omega) _).set_below' (by simp only; omega) _
        · exact (S5.out.2.2.2.setCell (Nat.le_refl _) _).setCell (Nat.le_refl _) _
/-- set.Parse: the set of a text, or none -/
def TextPost (l : List UInt8) (w : World) (e : Ending) (w' : World) : Prop :=
  (∃ n ws, SOk n ws ∧ textS n ws = l ∧ SetRes2 w n ws e w') ∨ (¬ IsText l ∧ SetErr w 10 e w')
theorem sparse_any (s : ByteArray) (hs : s.size < 4294967281) (w : World) (hV : PV w) : Calls Tryd.prog 34 #[.string s] w (TextPost s.data.toList w) := by
  by_cases hh : ∃ n rest, HeadOk s.data.toList n rest
  · obtain ⟨n, rest, h⟩ := hh
    refine (sparse_head s hs n rest h w hV).mono ?_
    rintro e w' (⟨hd, ok, hr⟩ | ⟨hno, he⟩)
    · exact .inl ⟨n, _, ok, par_text h hd, hr⟩
    · refine .inr ⟨?_, he⟩
      rintro ⟨m, ws, ok, e2⟩
      obtain ⟨_, hd, ok2⟩ := text_par h ok e2
      exact hno ⟨hd, ok2⟩
  · refine (sparse_bad s hs w hV (fun n rest h => hh ⟨n, rest, h⟩)).mono fun e w' he => .inr ⟨?_, he⟩
    rintro ⟨m, ws, ok, e2⟩
    exact hh ⟨m, _, by rw [← e2]; exact HeadOk.of ok⟩
/-- one text, one set -/
theorem text_one {n m : Nat} {a b : List Nat} (ha : SOk n a) (hb : SOk m b) (e : textS n a = textS m b) : n = m ∧ a = b := by
  have h1 := HeadOk.of ha
  have h2 := HeadOk.of hb
  rw [e] at h1
  obtain ⟨rfl, h3⟩ := h1.uniq h2
  refine ⟨rfl, SOk.ext ha hb fun x hx => ?_⟩
  have hD := size_digits n
  have hi : x / 4 < digitsN n := by omega
  have h4 : (nib a (x / 4) : Int) = (nib b (x / 4) : Int) := by rw [← dgt_text hi, ← dgt_text hi, h3]
  have h5 : nib a (x / 4) = nib b (x / 4) := by omega
  have h6 := congrArg (fun v => v.testBit (x % 4)) h5
  simp only [nib_bit] at h6
  rw [show 4 * (x / 4) + x % 4 = x by omega] at h6
  simpa [show x % 4 < 4 by omega] using h6
end Go.Proofs.YtpbpjihdaghiaaaDoor
