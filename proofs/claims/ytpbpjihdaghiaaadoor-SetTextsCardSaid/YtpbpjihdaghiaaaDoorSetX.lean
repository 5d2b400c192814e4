/- Contracts: set.digits, Text; the example. -/
import Derived.Test.YtpbpjihdaghiaaaDoorSetV
import Derived.Test.YtpbpjihdaghiaaaDoorBuf
import Derived.Lib.AppendIntMem
namespace Go.Proofs.YtpbpjihdaghiaaaDoor
open Go.RowKit Go.Sort
set_option linter.unusedSimpArgs false
set_option linter.unusedVariables false

/-- how many digits -/
def digitsN (n : Nat) : Nat := max 1 (2 ^ n / 4)
/-- a digit -/
def hexB (d : Nat) : UInt8 := UInt8.ofNat (if d < 10 then 48 + d else 87 + d)
def nib (ws : List Nat) (i : Nat) : Nat := wat ws (i / 16) / 2 ^ (i % 16 * 4) % 16
/-- the digits from the last one down to the k-th -/
def hexT (ws : List Nat) (D k : Nat) : List UInt8 := (List.range (D - k)).map fun j => hexB (nib ws (D - 1 - j))
theorem hexT_step (ws : List Nat) {D k : Nat} (h : k < D) : hexT ws D k = hexT ws D (k + 1) ++ [hexB (nib ws k)] := by
  unfold hexT
  rw [show D - k = (D - (k + 1)) + 1 by omega, range_snoc, show D - 1 - (D - (k + 1)) = k by omega]
theorem hexT_end (ws : List Nat) (D : Nat) : hexT ws D D = [] := by unfold hexT; rw [Nat.sub_self]; rfl
/-- a set's text -/
def textS (n : Nat) (ws : List Nat) : List UInt8 := Lib.decDigits n ++ 58 :: hexT ws (digitsN n) 0
theorem digitsN_le {n : Nat} (hn : n ≤ 16) : digitsN n ≤ 16384 := by
  have := pow16 hn
  unfold digitsN; omega
theorem dig_word {n i : Nat} (hi : i < digitsN n) : i / 16 < wordsN n := by
  unfold digitsN at hi
  by_cases h : 6 ≤ n
  · rw [wordsN_big h]
    have hp := pow_split h
    have h1 := Nat.one_le_two_pow (n := n - 6)
    omega
  · rw [wordsN_small h]
    have := pow_lt64 h
    omega
set_option maxHeartbeats 400000 in
theorem sdigits_any (n : Nat) (hn : n ≤ 16) (w : World) : Calls Tryd.prog 64 #[.int .i64 (n : Nat)] w fun e w' => e = .returned (.int .i64 (digitsN n : Nat)) ∧ w = w' := by
  have hN := pow16 hn
  have hp := wrap64_pow n (by omega)
  have hW := Lib.hid (show digitsN n = max 1 (2 ^ n / 4) from rfl)
  generalize 2 ^ n = N at *
  have hd : (N : Int).tdiv 4 = ((N / 4 : Nat) : Int) := by rw [Int.tdiv_eq_ediv_of_nonneg (by omega)]; omega
  have hw : wrap64 ((N / 4 : Nat) : Int) = ((N / 4 : Nat) : Int) := IntWalk.wrap64_in _ ⟨by omega, by omega⟩
  go_enter Tryd.func64, Tryd.ntmps64
  go_wp2
  all_goals
    go_ret
    exact ⟨ret_int (by have := hW.out; omega), rfl⟩
def hexS : ByteArray := ⟨#[48, 49, 50, 51, 52, 53, 54, 55, 56, 57, 97, 98, 99, 100, 101, 102]⟩
theorem hexS_at : ∀ d : Fin 16, hexS.data.toList.getD d.val 0 = hexB d.val := by decide +kernel
theorem hex_at (d : Nat) (hd : d < 16) (w : World) : (Instr.index 9 (.string ⟨#[48, 49, 50, 51, 52, 53, 54, 55, 56, 57, 97, 98, 99, 100, 101, 102]⟩) (.int .u64 (d : Nat))).run Tryd.prog w = .ok (.int .u8 ((hexB d).toNat : Nat)) w := by
  have hsz : hexS.size = 16 := by decide +kernel
  show (Instr.index 9 (.string hexS) (.int .u64 (d : Nat))).run Tryd.prog w = _
  rw [run_index_string w 9 hexS .u64 _ Tryd.underlying9, dif_pos ⟨by omega, by rw [hsz]; omega⟩]
  have e : ((d : Int)).toNat = d := by omega
  simp only [e]
  rw [Lib.getD_at hexS d (by rw [hsz]; exact hd), hexS_at ⟨d, hd⟩]
theorem nib_and {v s : Nat} (hv : v < 18446744073709551616) : bits .and .u64 ((v : Int) / 2 ^ s) 15 = ((v / 2 ^ s % 16 : Nat) : Int) := by
  rw [show ((v : Int) / 2 ^ s) = ((v / 2 ^ s : Nat) : Int) by simp]
  have h := u64_and_nat (v / 2 ^ s) 15 (Nat.lt_of_le_of_lt (Nat.div_le_self _ _) hv) (by omega)
  rw [show v / 2 ^ s % 16 = v / 2 ^ s &&& 15 from (Nat.and_two_pow_sub_one_eq_mod _ 4).symm]
  exact h
set_option maxRecDepth 100000 in
set_option maxHeartbeats 4000000 in
theorem stext_any (n : Nat) (A : Option Addr) (len c : Nat) (ws : List Nat) (w : World) (h : SetArg w n A len c ws) (hok : SOk n ws) :
    Calls Tryd.prog 33 #[setA n A len c] w fun e w' => e = .returned (.tuple #[txt (textS n ws), .int .u8 0]) ∧ Below w.heap.size w w' := by
  have hn := hok.n16
  have hD := digitsN_le hn
  have hD1 : 1 ≤ digitsN n := by unfold digitsN; omega
  have hr := fun W hW => sright_any n A len c ws W (h.on hW)
  rw [show srightB (n : Int) ws = true from (sright_iff h.lt).2 ⟨by omega, by simpa using hok⟩] at hr
  have HRT := Lib.hid hr
  have HDG := Lib.hid (fun W => sdigits_any n hn W)
  have HIT := Lib.hid (fun W => itoa_sm n W (by omega))
  obtain ⟨b0, off, rfl, hb0, hcell⟩ := h.row (by rw [hok.len]; exact wordsN_pos n)
  have HCELL : Hid (∀ j, j < ws.length → w.cell? ⟨b0, off + j, none⟩ = some (U (wat ws j))) := Lib.hid hcell
  have HLEN := Lib.hid h.hlen
  have HLT := Lib.hid h.lt
  have HDW := Lib.hid (fun i (hi : i < digitsN n) => (show i / 16 < len from by have h1 := dig_word hi; have h2 := h.hlen; have h3 := hok.len; omega))
  have hlc := Nat.le_trans h.hcap h.hmax
  unfold maxLen at hlc
  have hdl := digs_len n (by omega)
  obtain ⟨T, hT⟩ : ∃ T, T = textS n ws := ⟨_, rfl⟩
  have hT2 : T = Lib.decDigits n ++ 58 :: hexT ws (digitsN n) 0 := hT
  rw [← hT]
  have HT := Lib.hid hT2
  generalize digitsN n = D at *
  generalize Lib.decDigits n = dn at *
  unfold setA at *
  obtain ⟨W, hW⟩ : ∃ W, W = w.alloc (.cells #[.int .i64 (n : Nat), .slice (some ⟨b0, off, none⟩) len c] 24) := ⟨_, rfl⟩
  have hbW : Below w.heap.size w W := by rw [hW]; exact (Below.refl _ _).alloc (Nat.le_refl _) _
  have hK : Blk W w.heap.size 24 #[.int .i64 (n : Nat), .slice (some ⟨b0, off, none⟩) len c] := by rw [hW]; exact Blk.new w _ _
  have HWW := Lib.hid hW
  have HK := Lib.hid hK
  have HbW := Lib.hid hbW
  have k0 : W.cell? ⟨w.heap.size, 0, none⟩ = some (.int .i64 (n : Nat)) := hK.cell 0
  have k1 : W.cell? ⟨w.heap.size, 1, none⟩ = some (.slice (some ⟨b0, off, none⟩) len c) := hK.cell 1
  clear h hok hr hcell hT hT2 hbW hK
  go_enter Tryd.func33, Tryd.ntmps33
  go_wp2_with fail
  rw [← HWW.out]
  clear hW
  go_wp2_with fail
  refine (HRT.out _ HbW.out).mono ?_
  rintro e w1 ⟨rfl, hb1⟩
  have hK1 := HK.out.onB hb1
  have k0' : w1.cell? ⟨w.heap.size, 0, none⟩ = some (.int .i64 (n : Nat)) := hK1.cell 0
  have hl1 := hK1.lt
  have HK1 := Lib.hid hK1
  have HB1 := Lib.hid (HbW.out.trans (hb1.mono HbW.out.size))
  clear k0 k1 hK1 hb1
  go_wp2_with fail
  refine (HIT.out _).mono ?_
  rintro e w2 ⟨rfl, hb2⟩
  unfold txt
  have hbk := (Blk.new w1 93 #[.pointer none, .slice none 0 0]).onB hb2
  have hbuf : IsBuf w1.heap.size w1.heap.size [] w2 := .inl ⟨Nat.le_refl _, _, hbk, World.ownsRow_nil _ _ _ _, by simp [Value.ownBlock]⟩
  have hb12 : Below w1.heap.size w1 w2 := ((Below.refl _ _).alloc (Nat.le_refl _) _).trans (hb2.mono (by simp))
  have HBUF := Lib.hid hbuf
  have HB12 := Lib.hid hb12
  clear hbk hbuf hb12 hb2 k0'
  go_wp2_with fail
  refine (writeString_any w1.heap.size w1.heap.size [] _ _ HBUF.out (by simp [ByteArray.size]; omega) HB12.out.size).mono ?_
  rintro e w3 ⟨rfl, hbuf, hb3⟩
  have HBUF3 : Hid (IsBuf w1.heap.size w1.heap.size (Lib.byteCells dn) w3) := Lib.hid (.inr (by rw [← Lib.strCells_toArray]; simpa using hbuf))
  have HB13 := Lib.hid (HB12.out.trans hb3)
  clear hbuf hb3
  go_wp2_with fail
  refine (writeByte_any w1.heap.size w1.heap.size (Lib.byteCells dn) 58 _ HBUF3.out (by simp [Lib.byteCells]; omega) HB13.out.size).mono ?_
  rintro e w4 ⟨rfl, hbuf, hb4⟩
  have HBUF4 : Hid (IsBuf w1.heap.size w1.heap.size (Lib.byteCells (dn ++ 58 :: hexT ws D D)) w4) := Lib.hid (.inr (by rw [hexT_end]; simpa [Lib.byteCells] using hbuf))
  have hb14 := HB13.out.trans hb4
  have k0 : w4.cell? ⟨w.heap.size, 0, none⟩ = some (.int .i64 (n : Nat)) := (HK1.out.onB hb14).cell 0
  have HB14 := Lib.hid hb14
  clear hbuf hb4 hb14
  go_wp2_with fail
  refine (HDG.out _).mono ?_
  rintro e w' ⟨rfl, rfl⟩
  go_wp2_with fail
  clear k0
  go_loopw [5] (fun i wr => ∃ k : Nat, k ≤ D ∧ i = .int .i64 ((k : Int) - 1) ∧ IsBuf w1.heap.size w1.heap.size (Lib.byteCells (dn ++ 58 :: hexT ws D k)) wr ∧ Below w1.heap.size w1 wr) (fun i _ => (intOf i + 1).toNat)
  case atStart => exact ⟨D, Nat.le_refl _, rfl, HBUF4.out, HB14.out⟩
  case round =>
    obtain ⟨k, hk, rfl, hbuf, hbw⟩ := hrel
    have HBU := Lib.hid hbuf
    have HBW := Lib.hid hbw
    have hK := HK1.out.onB hbw
    clear hbuf hbw
    cases k with
    | zero =>
      clear hK
      go_wp2_with fail
      refine (Tryd.Builder_String_any w1.heap.size w1.heap.size _ _ HBU.out HBW.out.size).mono ?_
      rintro e w5 ⟨rfl, hb5⟩
      rw [← HT.out]
      go_wp2_with fail
      go_ret2
      exact ⟨rfl, HB1.out.trans ((HBW.out.trans hb5).mono HB1.out.size)⟩
    | succ i =>
      have e1 : ((i + 1 : Nat) : Int) - 1 = (i : Int) := by omega
      rw [e1]
      have hstep := hexT_step ws (D := D) (k := i) (by omega)
      have hix := HDW.out i (by omega)
      have k1 : wr.cell? ⟨w.heap.size, 1, none⟩ = some (.slice (some ⟨b0, off, none⟩) len c) := hK.cell 1
      have hv : wr.cell? ⟨b0, off + i / 16, none⟩ = some (.int .u64 (wat ws (i / 16) : Nat)) := ((HB1.out.trans (HBW.out.mono HB1.out.size)).cell (p := ⟨b0, off + i / 16, none⟩) hb0).trans (HCELL.out _ (by rw [HLEN.out]; exact hix))
      have hand := nib_and (v := wat ws (i / 16)) (s := i % 16 * 4) (wat_lt HLT.out _)
      have hnb : wat ws (i / 16) / 2 ^ (i % 16 * 4) % 16 = nib ws i := rfl
      rw [hnb] at hand
      have hn16 : nib ws i < 16 := Nat.mod_lt _ (by omega)
      have hhx := fun W => hex_at (nib ws i) hn16 W
      have HST := Lib.hid hstep
      have hq1 : ((i : Int) / 16) = ((i / 16 : Nat) : Int) := by omega
      have hr1 : ((i : Int) % 16) = ((i % 16 : Nat) : Int) := by omega
      have hr64 : i % 16 < 16 := Nat.mod_lt _ (by omega)
      generalize nib ws i = d at *
      generalize i / 16 = q at *
      generalize i % 16 = r at *
      generalize wat ws q = v at *
      clear hK hstep e1 hnb
      go_wp2_with fail
      have hblen : (Lib.byteCells (dn ++ 58 :: hexT ws D (i + 1))).length ≤ 100000 := by simp [Lib.byteCells, hexT]; omega
      refine (writeByte_any w1.heap.size w1.heap.size _ _ _ HBU.out (by omega) HBW.out.size).mono ?_
      rintro e w5 ⟨rfl, hbuf, hb5⟩
      have HBU5 : Hid (IsBuf w1.heap.size w1.heap.size (Lib.byteCells (dn ++ 58 :: hexT ws D i)) w5) := Lib.hid (.inr (by rw [HST.out]; simpa [Lib.byteCells] using hbuf))
      have HBW5 := Lib.hid (HBW.out.trans hb5)
      clear hbuf hb5 hblen
      go_wp2_with fail
      go_roundw
      case rel => exact ⟨i, by omega, by go_num, HBU5.out, HBW5.out⟩
      case measure => simp [intOf]
end Go.Proofs.YtpbpjihdaghiaaaDoor
