/- Contract: the statement's written: it says yes of texts of sets alone. -/
import Derived.Test.YtpbpjihdaghiaaaDoorSetPt
import Derived.Test.YtpbpjihdaghiaaaDoorSetTr
import Derived.BigQuiet
import Derived.Deep.QuietTactic
namespace Go.Proofs.YtpbpjihdaghiaaaDoor
open Go.RowKit Go.Sort
set_option linter.unusedSimpArgs false
set_option linter.unusedVariables false

/-- what stands ahead of the digits -/
def hdL (n : Nat) : List UInt8 := if n < 10 then [UInt8.ofNat (48 + n), 58] else [49, UInt8.ofNat (38 + n), 58]
theorem hdL_eq {n : Nat} (hn : n ≤ 16) : hdL n = Lib.decDigits n ++ [58] := by
  have := dec_form ⟨n, by omega⟩
  rw [show Lib.decDigits n = _ from this]
  unfold hdL
  split <;> rfl
def hexC (c : Nat) : Prop := (48 ≤ c ∧ c ≤ 57) ∨ (97 ≤ c ∧ c ≤ 102)
instance (c : Nat) : Decidable (hexC c) := by unfold hexC; exact inferInstance
theorem hexC_idx : ∀ c : Fin 256, hexC c.val → 0 ≤ Lib.indexByte hexL (UInt8.ofNat c.val) ∧ (c.val ≤ 57 → Lib.indexByte hexL (UInt8.ofNat c.val) = (c.val : Int) - 48) := by decide +kernel
theorem hexC_dig {c : UInt8} (h : hexC c.toNat) : 0 ≤ Lib.indexByte hexL c ∧ (c.toNat ≤ 57 → Lib.indexByte hexL c = (c.toNat : Int) - 48) := by
  have h1 := hexC_idx ⟨c.toNat, c.toNat_lt⟩ h
  simpa using h1
def chk (l : List UInt8) (n j : Nat) : Prop := if j < (hdL n).length then l.getD j 0 = (hdL n).getD j 0 else hexC (l.getD j 0).toNat
theorem chk_text {l : List UInt8} {n : Nat} (hn : n ≤ 16) (hl : l.length = (hdL n).length + digitsN n) (hc : ∀ j, j < l.length → chk l n j) (h2 : 2 ≤ n ∨ ((l.getD 2 0).toNat ≤ 57 ∧ ((l.getD 2 0).toNat : Int) - 48 < (2 ^ 2 ^ n : Nat))) : IsText l := by
  obtain ⟨rest, hr⟩ : ∃ r, r = l.drop (hdL n).length := ⟨_, rfl⟩
  have hrl : rest.length = digitsN n := by rw [hr, List.length_drop]; omega
  have hrg : ∀ j, rest.getD j 0 = l.getD ((hdL n).length + j) 0 := fun j => by rw [hr, List.getD_eq_getElem?_getD, List.getD_eq_getElem?_getD, List.getElem?_drop]
  have hhd : l = hdL n ++ rest := by
    rw [hr]
    apply List.ext_getElem (by simp; omega)
    intro j h1 h2'
    rcases Nat.lt_or_ge j (hdL n).length with h3 | h3
    · have := hc j h1
      unfold chk at this
      rw [if_pos h3, List.getD_eq_getElem?_getD, List.getD_eq_getElem?_getD, List.getElem?_eq_getElem h1, List.getElem?_eq_getElem h3] at this
      rw [List.getElem_append_left h3]
      simpa using this
    · rw [List.getElem_append_right h3, List.getElem_drop]
      congr 1
      omega
  have hho : HeadOk l n rest := ⟨hn, by rw [hhd, hdL_eq hn, List.append_assoc]; rfl, hrl⟩
  have hx : ∀ k, k < digitsN n → hexC (rest.getD (rest.length - 1 - k) 0).toNat := fun k hk => by
    have := hc ((hdL n).length + (rest.length - 1 - k)) (by omega)
    unfold chk at this
    rw [if_neg (by omega)] at this
    rwa [hrg]
  have hd : DigOk rest (digitsN n) := fun k hk => (hexC_dig (hx k hk)).1
  refine ⟨n, _, par_ok hn hd ?_, par_text hho hd⟩
  rcases h2 with h2 | ⟨h2, h3⟩
  · exact .inl h2
  · rcases Nat.lt_or_ge n 2 with h4 | h4
    · right
      have hD : digitsN n = 1 := by
        unfold digitsN
        have : n = 0 ∨ n = 1 := by omega
        rcases this with rfl | rfl <;> decide
      have hH : (hdL n).length = 2 := by unfold hdL; rw [if_pos (by omega)]; rfl
      have e : rest.getD (rest.length - 1 - 0) 0 = l.getD 2 0 := by rw [hrg, hH, hrl, hD]
      have h5 := hx 0 (by omega)
      rw [e] at h5
      have h6 := (hexC_dig h5).2 h2
      have h7 : dgt rest 0 = ((l.getD 2 0).toNat : Int) - 48 := by unfold dgt; rw [e]; exact h6
      unfold dgN
      rw [h7]
      have h8 : 48 ≤ (l.getD 2 0).toNat := by rcases h5 with h5 | h5 <;> omega
      generalize 2 ^ 2 ^ n = N at *
      omega
    · exact .inl h4
theorem chk_in {l : List UInt8} {n j : Nat} (h : j < (hdL n).length) : chk l n j ↔ l.getD j 0 = (hdL n).getD j 0 := by unfold chk; rw [if_pos h]
theorem chk_out {l : List UInt8} {n j : Nat} (h : ¬ j < (hdL n).length) : chk l n j ↔ hexC (l.getD j 0).toNat := by unfold chk; rw [if_neg h]
theorem byte_lt (b : UInt8) : b.toNat < 256 := b.toNat_lt
theorem i64_c (c : Nat) (h : c < 256) : IntKind.i64.wrap (c : Int) = (c : Int) ∧ IntKind.i64.wrap ((c : Int) - 48) = (c : Int) - 48 := ⟨IntWalk.i64_in _ (by omega), IntWalk.i64_in _ (by omega)⟩
theorem u8_in (x : Nat) (h : x < 256) : IntKind.u8.wrap (x : Int) = (x : Int) := by rw [IntKind.wrap_u8]; omega
set_option maxRecDepth 100000 in
set_option maxHeartbeats 16000000 in
theorem written_any (s : ByteArray) (hs : s.size ≤ 300) (w : World) : Calls Tryd.prog 37 #[.string s] w fun e w' => (∃ b, e = .returned (.bool b) ∧ (b = true → IsText s.data.toList)) ∧ Below w.heap.size w w' := by
  have hsz : s.data.toList.length = s.size := (Lib.size_eq s).symm
  have HSZ := Lib.hid hsz
  obtain ⟨l, hl⟩ : ∃ l, l = s.data.toList := ⟨_, rfl⟩
  have HST : Hid (∀ k, k < s.size → ∀ W, (Instr.index 9 (.string s) (.int .i64 (k : Nat))).run Tryd.prog W = .ok (.int .u8 ((l.getD k 0).toNat : Nat)) W) := Lib.hid (fun k hk W => by rw [hl]; exact str_at s k hk W)
  rw [← hl] at HSZ ⊢
  have HSI := Lib.hid (fun (n : Nat) W (hn : n ≤ 16) => size_any n hn W)
  have HCT := Lib.hid (fun n (hn : n ≤ 16) hl hc h2 => chk_text (l := l) (n := n) hn hl hc h2)
  clear hsz hl
  go_enter Tryd.func37, Tryd.ntmps37
  go_wp2_with fail
  go_loopw [3] (fun x wr => ∃ n : Nat, n ≤ 17 ∧ x = .int .i64 n ∧ Below w.heap.size w wr) (fun x _ => 17 - (intOf x).toNat)
  case atStart => exact ⟨0, by omega, rfl, Below.refl _ _⟩
  case round =>
    obtain ⟨n, hn, rfl, hb⟩ := hrel
    have HB := Lib.hid hb
    clear hb
    by_cases hlt : n ≤ 16
    · have hi1 : (n : Int) ≤ 16 := by omega
      have hN := pow16 hlt
      have hD3 := digitsN_le hlt
      have hmx : max (1 : Int) (((2 ^ n : Nat) : Int) / 4) = (digitsN n : Int) := by unfold digitsN; generalize 2 ^ n = N at *; omega
      have HSN := Lib.hid (fun W => HSI.out n W hlt)
      have hCT := HCT.out n hlt
      have HCN := Lib.hid hCT
      clear hCT
      have hs0 := HB.out.size
      by_cases h10 : n < 10
      · have hge : ¬ (10 : Int) ≤ (n : Int) := by omega
        have hhd : hdL n = [UInt8.ofNat (48 + n), 58] := by unfold hdL; rw [if_pos h10]
        have hbt : (UInt8.ofNat (48 + n)).toNat = 48 + n := by rw [UInt8.toNat_ofNat']; omega
        have e1 : IntKind.u8.wrap (48 + (n : Int)) = 48 + (n : Int) := by
          have := u8_in (48 + n) (by omega)
          simpa using this
        obtain ⟨W1, hW1⟩ : ∃ W1, W1 = (wr.alloc (.cells #[.int .u8 (48 + (n : Int)), .int .u8 58] 5)) := ⟨_, rfl⟩
        have hbW : Below w.heap.size w W1 := by rw [hW1]; exact HB.out.alloc hs0 _
        have hkW : Blk W1 wr.heap.size 5 #[.int .u8 (48 + (n : Int)), .int .u8 58] := by
          have := Blk.new wr 5 #[.int .u8 (48 + (n : Int)), .int .u8 58]
          rw [hW1]
          exact this
        have HWW := Lib.hid hW1
        have HB1 := Lib.hid hbW
        have HK1 := Lib.hid hkW
        clear hW1 hbW hkW
        have hlen : (hdL n).length = 2 := by rw [hhd]; rfl
        have HHD : Hid (∀ j, j < 2 → ∀ W, Below W1.heap.size W1 W → W.cell? ⟨wr.heap.size, j, none⟩ = some (.int .u8 (((hdL n).getD j 0).toNat : Nat))) := Lib.hid (fun j hj W hW => by
          rw [(HK1.out.onB hW).cell j, hhd]
          have hbt' := hbt
          match j, hj with
          | 0, _ => (simp [hbt']; omega)
          | 1, _ => simp
          )
        clear hbt
        go_wp2_with fail
        rw [← HWW.out]
        refine (HSN.out _).mono ?_
        rintro e w' ⟨rfl, rfl⟩
        clear e1 HB hs0
        have HCC := HCN
        generalize hDD : digitsN n = D at *
        generalize hPN : 2 ^ n = N at *
        rw [hlen] at HCC
        by_cases hlq : s.size = 2 + D
        · have hb1 : ((s.size : Int) != 2 + (D : Int)) = false := by rw [bne_eq_false_iff_eq]; omega
          go_wp2_with fail
          go_loopw [6, 7] (fun ok x wr => ∃ (b : Bool) (i : Nat), i ≤ s.size ∧ x = .int .i64 i ∧ ok = .bool b ∧ (b = true → ∀ j, j < i → chk l n j) ∧ Below W1.heap.size W1 wr) (fun _ x _ => s.size - (intOf x).toNat)
          case atStart => exact ⟨true, 0, Nat.zero_le _, rfl, rfl, fun _ j hj => by omega, Below.refl _ _⟩
          case round =>
            obtain ⟨b, i, hi, rfl, rfl, hck, hbw⟩ := hrel
            have HCK := Lib.hid hck
            have HBW := Lib.hid hbw
            clear hck hbw
            by_cases hil : i < s.size
            · have hst := fun W => HST.out i hil W
              have hbl := byte_lt (l.getD i 0)
              have HSTEP : Hid (∀ b' : Bool, (b' = true → b = true ∧ chk l n i) → b' = true → ∀ j, j < i + 1 → chk l n j) := Lib.hid (fun b' h hb' j hj => by
                rcases Nat.lt_succ_iff_lt_or_eq.1 hj with h1 | rfl
                · exact HCK.out (h hb').1 j h1
                · exact (h hb').2)
              by_cases hih : i < 2
              · have kc := HHD.out i hih _ HBW.out
                have hii : (i : Int) < 2 := by omega
                have HCI := Lib.hid (chk_in (l := l) (n := n) (j := i) (by rw [hlen]; exact hih))
                generalize l.getD i 0 = c at *
                generalize (hdL n).getD i 0 = h at *
                cases b
                · go_wp2_with fail
                  go_quiet (fail)
                  go_wp2_with fail
                  go_roundw
                  case rel => exact ⟨false, i + 1, by omega, by go_num, rfl, HSTEP.out false (fun h => by cases h), below_drewN HBW.out _⟩
                  case measure => simp [intOf]; omega
                · by_cases hch : c = h
                  · subst hch
                    have hq : ((c.toNat : Int) == (c.toNat : Int)) = true := by simp
                    go_wp2_with fail
                    go_quiet (fail)
                    go_wp2_with fail
                    go_roundw
                    case rel => exact ⟨true, i + 1, by omega, by go_num, rfl, HSTEP.out true (fun _ => ⟨(by first | rfl | trivial), HCI.out.2 (by first | rfl | trivial)⟩), below_drewN HBW.out _⟩
                    case measure => simp [intOf]; omega
                  · have hq : ((c.toNat : Int) == (h.toNat : Int)) = false := by rw [beq_eq_false_iff_ne]; intro e; exact hch (UInt8.toNat_inj.1 (by omega))
                    go_wp2_with fail
                    go_quiet (fail)
                    go_wp2_with fail
                    go_roundw
                    case rel => exact ⟨false, i + 1, by omega, by go_num, rfl, HSTEP.out false (fun h => by cases h), below_drewN HBW.out _⟩
                    case measure => simp [intOf]; omega
              · have hii : ¬ (i : Int) < 2 := by omega
                have HCI := Lib.hid (chk_out (l := l) (n := n) (j := i) (by rw [hlen]; exact hih))
                generalize (l.getD i 0).toNat = c at *
                have HC2 : Hid (hexC c ↔ ((48 ≤ c ∧ c ≤ 57) ∨ (97 ≤ c ∧ c ≤ 102))) := Lib.hid Iff.rfl
                cases b
                · go_wp2_with fail
                  go_roundw
                  case rel => exact ⟨false, i + 1, by omega, by go_num, rfl, HSTEP.out false (fun h => by cases h), HBW.out⟩
                  case measure => simp [intOf]; omega
                · go_wp2_with fail
                  all_goals
                    go_roundw
                    case rel => exact ⟨_, i + 1, by omega, by go_num, rfl, HSTEP.out _ (fun h => ⟨(by first | rfl | trivial), HCI.out.2 (HC2.out.2 (by first | omega | (simp at h; omega) | (exfalso; simp at h; done) | (simp at h)))⟩), HBW.out⟩
                    case measure => first | (simp [intOf]; done) | (simp [intOf]; omega)
            · obtain rfl : i = s.size := by omega
              have hck := HCK.out
              have HFIN := Lib.hid (fun (hb : b = true) h2 => HCC.out (by rw [HSZ.out]; omega) (by rw [HSZ.out]; exact hck hb) h2)
              clear hck
              have hbb := HB1.out.trans (HBW.out.mono HB1.out.size)
              have HBB := Lib.hid hbb
              clear hbb
              cases b
              · go_wp2_with fail
                go_quiet (fail)
                go_wp2_with fail
                go_roundw
                case rel => exact ⟨n + 1, by omega, by go_num, below_drewN HBB.out _⟩
                case measure => simp [intOf]; omega
              · by_cases h2 : 2 ≤ n
                · have f1 : (2 : Int) ≤ (n : Int) := by omega
                  go_wp2_with fail
                  go_quiet (fail)
                  go_wp2_with fail
                  go_ret
                  exact ⟨⟨true, rfl, fun _ => HFIN.out (by first | rfl | trivial) (.inl h2)⟩, below_drewN HBB.out _⟩
                · have f1 : ¬ (2 : Int) ≤ (n : Int) := by omega
                  have hD1 : D = 1 := by
                    rw [← hDD]; unfold digitsN
                    have : n = 0 ∨ n = 1 := by omega
                    rcases this with rfl | rfl <;> decide
                  have hst : ∀ W, (Instr.index 9 (.string s) (.int .i64 2)).run Tryd.prog W = .ok (.int .u8 ((l.getD 2 0).toNat : Nat)) W := fun W => HST.out 2 (by omega) W
                  have hs2 : (2 : Int) < (s.size : Int) := by omega
                  have hNn : N ≤ 2 := by
                    rw [← hPN]
                    have : n = 0 ∨ n = 1 := by omega
                    rcases this with rfl | rfl <;> decide
                  have hsz2 := fun W => HSI.out N W (by omega)
                  have hpp : 2 ^ N ≤ 4 := Nat.le_trans (Nat.pow_le_pow_right (by omega) hNn) (by omega)
                  generalize 2 ^ N = M at *
                  have hbl := byte_lt (l.getD 2 0)
                  have hxc : hexC (l.getD 2 0).toNat := (chk_out (by rw [hlen]; omega)).1 (HCK.out (by first | rfl | trivial) 2 (by omega))
                  generalize (l.getD 2 0).toNat = c at *
                  have HWC := Lib.hid (i64_c c hbl)
                  by_cases h57 : c ≤ 57
                  · have f2 : (c : Int) ≤ 57 := by omega
                    go_wp2_with fail
                    go_quiet (exact q_same (hsz2 _))
                    go_wp2_with fail
                    · go_ret
                      rename_i hh
                      refine ⟨⟨true, rfl, fun _ => HFIN.out (by first | rfl | trivial) (.inr ⟨h57, ?_⟩)⟩, below_drewN HBB.out _⟩
                      rcases hh with hh | hh
                      · omega
                      · rw [HWC.out.1, HWC.out.2] at hh; exact hh
                    · go_roundw
                      case rel => exact ⟨n + 1, by omega, by go_num, below_drewN HBB.out _⟩
                      case measure => simp [intOf]; omega
                  · have h6 : c = 97 ∨ c = 98 ∨ c = 99 ∨ c = 100 ∨ c = 101 ∨ c = 102 := by rcases hxc with h | h <;> omega
                    clear HFIN HCN HCC HCT HWC hxc hbl h57
                    have h01 : n = 0 ∨ n = 1 := by omega
                    rcases h01 with rfl | rfl
                    all_goals
                      rcases h6 with rfl | rfl | rfl | rfl | rfl | rfl
                    all_goals
                      go_wp2_with fail
                      go_big_quiet (fail)
                      go_wp2_with fail
                      go_roundw
                      case rel => exact ⟨_ + 1, by omega, rfl, below_drewN HBB.out _⟩
                      case measure => simp [intOf]; done
        · have hb1 : ((s.size : Int) != 2 + (D : Int)) = true := by rw [bne_iff_ne]; omega
          go_wp2_with fail
          go_roundw
          case rel => exact ⟨n + 1, by omega, by go_num, HB1.out⟩
          case measure => simp [intOf]; omega
      · have hge : (10 : Int) ≤ (n : Int) := by omega
        have hhd : hdL n = [49, UInt8.ofNat (38 + n), 58] := by unfold hdL; rw [if_neg h10]
        have hbt : (UInt8.ofNat (38 + n)).toNat = 38 + n := by rw [UInt8.toNat_ofNat']; omega
        have e1 : IntKind.u8.wrap (48 + (n : Int)) = 48 + (n : Int) := by
          have := u8_in (48 + n) (by omega)
          simpa using this
        have e2 : IntKind.u8.wrap (38 + (n : Int)) = 38 + (n : Int) := by
          have := u8_in (38 + n) (by omega)
          simpa using this
        obtain ⟨W1, hW1⟩ : ∃ W1, W1 = ((wr.alloc (.cells #[.int .u8 (48 + (n : Int)), .int .u8 58] 5)).alloc (.cells #[.int .u8 49, .int .u8 (38 + (n : Int)), .int .u8 58] 5)) := ⟨_, rfl⟩
        have hbW : Below w.heap.size w W1 := by rw [hW1]; exact (HB.out.alloc hs0 _).alloc (by simp; omega) _
        have hkW : Blk W1 (wr.heap.size + 1) 5 #[.int .u8 49, .int .u8 (38 + (n : Int)), .int .u8 58] := by
          have := Blk.new (wr.alloc (.cells #[.int .u8 (48 + (n : Int)), .int .u8 58] 5)) 5 #[.int .u8 49, .int .u8 (38 + (n : Int)), .int .u8 58]
          rw [hW1]
          rwa [World.size_alloc] at this
        have HWW := Lib.hid hW1
        have HB1 := Lib.hid hbW
        have HK1 := Lib.hid hkW
        clear hW1 hbW hkW
        have hlen : (hdL n).length = 3 := by rw [hhd]; rfl
        have HHD : Hid (∀ j, j < 3 → ∀ W, Below W1.heap.size W1 W → W.cell? ⟨(wr.heap.size + 1), j, none⟩ = some (.int .u8 (((hdL n).getD j 0).toNat : Nat))) := Lib.hid (fun j hj W hW => by
          rw [(HK1.out.onB hW).cell j, hhd]
          have hbt' := hbt
          match j, hj with
          | 0, _ => simp
          | 1, _ => (simp [hbt']; omega)
          | 2, _ => simp
          )
        clear hbt
        go_wp2_with fail
        rw [← HWW.out]
        refine (HSN.out _).mono ?_
        rintro e w' ⟨rfl, rfl⟩
        clear e1 e2 HB hs0
        have HCC := HCN
        generalize hDD : digitsN n = D at *
        generalize hPN : 2 ^ n = N at *
        rw [hlen] at HCC
        by_cases hlq : s.size = 3 + D
        · have hb1 : ((s.size : Int) != 3 + (D : Int)) = false := by rw [bne_eq_false_iff_eq]; omega
          go_wp2_with fail
          go_loopw [6, 7] (fun ok x wr => ∃ (b : Bool) (i : Nat), i ≤ s.size ∧ x = .int .i64 i ∧ ok = .bool b ∧ (b = true → ∀ j, j < i → chk l n j) ∧ Below W1.heap.size W1 wr) (fun _ x _ => s.size - (intOf x).toNat)
          case atStart => exact ⟨true, 0, Nat.zero_le _, rfl, rfl, fun _ j hj => by omega, Below.refl _ _⟩
          case round =>
            obtain ⟨b, i, hi, rfl, rfl, hck, hbw⟩ := hrel
            have HCK := Lib.hid hck
            have HBW := Lib.hid hbw
            clear hck hbw
            by_cases hil : i < s.size
            · have hst := fun W => HST.out i hil W
              have hbl := byte_lt (l.getD i 0)
              have HSTEP : Hid (∀ b' : Bool, (b' = true → b = true ∧ chk l n i) → b' = true → ∀ j, j < i + 1 → chk l n j) := Lib.hid (fun b' h hb' j hj => by
                rcases Nat.lt_succ_iff_lt_or_eq.1 hj with h1 | rfl
                · exact HCK.out (h hb').1 j h1
                · exact (h hb').2)
              by_cases hih : i < 3
              · have kc := HHD.out i hih _ HBW.out
                have hii : (i : Int) < 3 := by omega
                have HCI := Lib.hid (chk_in (l := l) (n := n) (j := i) (by rw [hlen]; exact hih))
                generalize l.getD i 0 = c at *
                generalize (hdL n).getD i 0 = h at *
                cases b
                · go_wp2_with fail
                  go_quiet (fail)
                  go_wp2_with fail
                  go_roundw
                  case rel => exact ⟨false, i + 1, by omega, by go_num, rfl, HSTEP.out false (fun h => by cases h), below_drewN HBW.out _⟩
                  case measure => simp [intOf]; omega
                · by_cases hch : c = h
                  · subst hch
                    have hq : ((c.toNat : Int) == (c.toNat : Int)) = true := by simp
                    go_wp2_with fail
                    go_quiet (fail)
                    go_wp2_with fail
                    go_roundw
                    case rel => exact ⟨true, i + 1, by omega, by go_num, rfl, HSTEP.out true (fun _ => ⟨(by first | rfl | trivial), HCI.out.2 (by first | rfl | trivial)⟩), below_drewN HBW.out _⟩
                    case measure => simp [intOf]; omega
                  · have hq : ((c.toNat : Int) == (h.toNat : Int)) = false := by rw [beq_eq_false_iff_ne]; intro e; exact hch (UInt8.toNat_inj.1 (by omega))
                    go_wp2_with fail
                    go_quiet (fail)
                    go_wp2_with fail
                    go_roundw
                    case rel => exact ⟨false, i + 1, by omega, by go_num, rfl, HSTEP.out false (fun h => by cases h), below_drewN HBW.out _⟩
                    case measure => simp [intOf]; omega
              · have hii : ¬ (i : Int) < 3 := by omega
                have HCI := Lib.hid (chk_out (l := l) (n := n) (j := i) (by rw [hlen]; exact hih))
                generalize (l.getD i 0).toNat = c at *
                have HC2 : Hid (hexC c ↔ ((48 ≤ c ∧ c ≤ 57) ∨ (97 ≤ c ∧ c ≤ 102))) := Lib.hid Iff.rfl
                cases b
                · go_wp2_with fail
                  go_roundw
                  case rel => exact ⟨false, i + 1, by omega, by go_num, rfl, HSTEP.out false (fun h => by cases h), HBW.out⟩
                  case measure => simp [intOf]; omega
                · go_wp2_with fail
                  all_goals
                    go_roundw
                    case rel => exact ⟨_, i + 1, by omega, by go_num, rfl, HSTEP.out _ (fun h => ⟨(by first | rfl | trivial), HCI.out.2 (HC2.out.2 (by first | omega | (simp at h; omega) | (exfalso; simp at h; done) | (simp at h)))⟩), HBW.out⟩
                    case measure => first | (simp [intOf]; done) | (simp [intOf]; omega)
            · obtain rfl : i = s.size := by omega
              have hck := HCK.out
              have HFIN := Lib.hid (fun (hb : b = true) h2 => HCC.out (by rw [HSZ.out]; omega) (by rw [HSZ.out]; exact hck hb) h2)
              clear hck
              have hbb := HB1.out.trans (HBW.out.mono HB1.out.size)
              have HBB := Lib.hid hbb
              clear hbb
              cases b
              · go_wp2_with fail
                go_quiet (fail)
                go_wp2_with fail
                go_roundw
                case rel => exact ⟨n + 1, by omega, by go_num, below_drewN HBB.out _⟩
                case measure => simp [intOf]; omega
              · by_cases h2 : 2 ≤ n
                · have f1 : (2 : Int) ≤ (n : Int) := by omega
                  go_wp2_with fail
                  go_quiet (fail)
                  go_wp2_with fail
                  go_ret
                  exact ⟨⟨true, rfl, fun _ => HFIN.out (by first | rfl | trivial) (.inl h2)⟩, below_drewN HBB.out _⟩
                · exact absurd h2 (by omega)
        · have hb1 : ((s.size : Int) != 3 + (D : Int)) = true := by rw [bne_iff_ne]; omega
          go_wp2_with fail
          go_roundw
          case rel => exact ⟨n + 1, by omega, by go_num, HB1.out⟩
          case measure => simp [intOf]; omega
    · have hi1 : ¬ (n : Int) ≤ 16 := by omega
      go_wp2_with fail
      go_ret
      refine ⟨?_, HB.out⟩
      first
        | exact ⟨false, rfl, fun h => by cases h⟩
        | exact .inl rfl
end Go.Proofs.YtpbpjihdaghiaaaDoor
