/- Contracts: the document's Of, SameSet, Is; told. -/
import Derived.Test.YtbhbhfplpbcfiaaGreatDoorSetU
import Derived.Deep.RegionHeld3
namespace Go.Proofs.YtbhbhfplpbcfiaaGreatDoor
open Go.RowKit Go.Sort
set_option linter.unusedSimpArgs false
set_option linter.unusedVariables false

/-- a word of a table -/
def pk (t : List Bool) (k : Nat) : Nat := ofBits (fun j => t[64 * k + j]?.getD false) 64
theorem packT_pk (t : List Bool) : packT t = (List.range ((t.length + 63) / 64)).map (pk t) := rfl
theorem pk_lt (t : List Bool) (k : Nat) : pk t k < 18446744073709551616 := ofBits_lt _ 64
theorem pk_bit (t : List Bool) (k j : Nat) (hj : j < 64) : (pk t k).testBit j = t[64 * k + j]?.getD false := by
  unfold pk; rw [testBit_ofBits, decide_eq_true hj, Bool.true_and]
/-- words of the places from i on -/
def downW (t : List Bool) (m i : Nat) : List Nat := (List.range m).map fun k => pk t k / 2 ^ (i - 64 * k)
theorem downW_length (t : List Bool) (m i : Nat) : (downW t m i).length = m := by simp [downW]
theorem downW_at (t : List Bool) (m i k : Nat) (hk : k < m) : (downW t m i)[k]? = some (pk t k / 2 ^ (i - 64 * k)) := by
  unfold downW; rw [List.getElem?_map, List.getElem?_range hk]; rfl
theorem pk_small (t : List Bool) (k s : Nat) (h : ∀ j, s ≤ j → j < 64 → t[64 * k + j]?.getD false = false) : pk t k < 2 ^ s := by
  apply Nat.lt_pow_two_of_testBit
  intro j hj
  by_cases h64 : j < 64
  · rw [pk_bit t k j h64]; exact h j hj h64
  · unfold pk; rw [testBit_ofBits, decide_eq_false h64, Bool.false_and]
theorem downW_start (t : List Bool) (m : Nat) (hm : m = (t.length + 63) / 64) : downW t m t.length = List.replicate m 0 := by
  unfold downW
  apply List.ext_getElem (by simp)
  intro k h1 h2
  simp only [List.getElem_map, List.getElem_range, List.getElem_replicate]
  apply Nat.div_eq_of_lt
  exact pk_small t k _ (fun j h3 _ => by rw [List.getElem?_eq_none (by omega)]; rfl)
theorem downW_end (t : List Bool) (m : Nat) (hm : m = (t.length + 63) / 64) : downW t m 0 = packT t := by
  unfold downW
  rw [packT_pk, ← hm]
  apply List.map_congr_left
  intro k _
  rw [Nat.zero_sub, Nat.pow_zero, Nat.div_one]
/-- one place more -/
theorem downW_step (t : List Bool) (m i : Nat) (hi : i / 64 < m) : ((downW t m (i + 1)).set (i / 64) (2 * (pk t (i / 64) / 2 ^ (i + 1 - 64 * (i / 64))) + (t[i]?.getD false).toNat)) = downW t m i := by
  have hdm := Nat.div_add_mod i 64
  have hml := Nat.mod_lt i (show 0 < 64 by omega)
  apply List.ext_getElem?
  intro k
  by_cases hk : k < m
  · rw [downW_at _ _ _ _ hk]
    by_cases he : k = i / 64
    · subst he
      rw [List.getElem?_set_self (by rw [downW_length]; exact hk)]
      have hs : i + 1 - 64 * (i / 64) = (i - 64 * (i / 64)) + 1 := by omega
      have hb := pk_bit t (i / 64) (i - 64 * (i / 64)) (by omega)
      rw [show 64 * (i / 64) + (i - 64 * (i / 64)) = i by omega] at hb
      rw [← hb, ← bit_val, hs, Nat.pow_succ, ← Nat.div_div_eq_div_mul]
      congr 1
      omega
    · rw [List.getElem?_set_ne (fun e => he e.symm), downW_at _ _ _ _ hk]
      rcases Nat.lt_or_gt_of_ne he with h | h
      · rw [Nat.div_eq_of_lt (Nat.lt_of_lt_of_le (pk_lt t k) (show 2 ^ 64 ≤ 2 ^ (i + 1 - 64 * k) from Nat.pow_le_pow_right (by decide) (by omega))), Nat.div_eq_of_lt (Nat.lt_of_lt_of_le (pk_lt t k) (show 2 ^ 64 ≤ 2 ^ (i - 64 * k) from Nat.pow_le_pow_right (by decide) (by omega)))]
      · rw [show i + 1 - 64 * k = 0 by omega, show i - 64 * k = 0 by omega]
  · rw [List.getElem?_eq_none (by rw [List.length_set, downW_length]; omega), List.getElem?_eq_none (by rw [downW_length]; omega)]
theorem pk_double (t : List Bool) (k s : Nat) : 2 * (pk t k / 2 ^ (s + 1)) + 1 < 18446744073709551616 := by
  have h1 := pk_lt t k
  have h2 : pk t k / 2 ^ (s + 1) ≤ pk t k / 2 := Nat.div_le_div_left (by rw [Nat.pow_succ]; have := Nat.one_le_two_pow (n := s); omega) (by omega)
  omega
set_option maxRecDepth 100000 in
set_option maxHeartbeats 4000000 in
theorem rof_any (n : Nat) (hn : n ≤ 16) (A : Option Addr) (c : Nat) (t : List Bool) (w : World) (ht : t.length = 2 ^ n) (hrow : RowF Value.bool false w w.heap.size A t) :
    Calls Tryz.prog 42 #[.int .i64 (n : Nat), .slice A (2 ^ n) c] w (SetRes w n (packT t)) := by
  obtain ⟨i0, hi, hz0, hz1, hz2⟩ := info_parts info_u64
  have hN := pow16 hn
  have hN1 := Nat.one_le_two_pow (n := n)
  have hmw := wordsN_le hn
  have hceil := wordsN_ceil n
  have hlen := packT_length t
  obtain ⟨b0, off, rfl, hb0, hcell⟩ := hrow (by rw [ht]; omega)
  have hstart := downW_start t (wordsN n) (by rw [ht, hceil])
  have hend := downW_end t (wordsN n) (by rw [ht, hceil])
  rw [ht] at hstart hlen
  have hix := fun i (hi : i < 2 ^ n) => idx_lt (n := n) hi
  rw [← hceil] at hlen
  unfold SetRes setV
  generalize wordsN n = m at *
  generalize 2 ^ n = N at *
  have HSTART := Lib.hid hstart
  have HEND := Lib.hid hend
  have HIX := Lib.hid hix
  have HLEN := Lib.hid hlen
  have HCELL := Lib.hid hcell
  have HT := Lib.hid ht
  have HQ := Lib.hid (show ((N : Int) + 63) / 64 = (m : Int) by omega)
  have HBK := Lib.hid (Blk.new w 38 #[.int .i64 0, .slice none 0 0])
  have HB0 := Lib.hid ((Below.refl w.heap.size w).alloc (Nat.le_refl _) (.cells #[.int .i64 0, .slice none 0 0] 38))
  clear hstart hend hix hlen hcell ht hrow hceil
  go_enter Tryz.func42, Tryz.ntmps42
  go_wp2_with (at_make; refine wp_make (f := U) (z := 0) Tryz.underlying36 hi hz0 hz1 hz2 rfl _ rfl _ _ rfl (((N : Int) + 63) / 64) m rfl rfl HQ.out (by omega) (by unfold maxLen; omega) ?_; intro w1 hown1 hb1 hs1; have hO := Lib.hid hown1; have hBB := Lib.hid hb1; clear hown1 hb1)
  have hst := hO.out
  rw [← HSTART.out, World.size_alloc] at hst
  have hR := HBK.out.onB hBB.out
  have hbw := HB0.out.trans (hBB.out.mono HB0.out.size)
  have S := Lib.hid (And.intro hst (And.intro hR hbw))
  rw [World.size_alloc] at hs1
  clear hst hR hbw
  go_loopw [6] (fun i wr => ∃ k : Nat, k ≤ N ∧ i = .int .i64 ((k : Int) - 1) ∧ OwnF U 141 wr (w.heap.size + 1) (.slice (some ⟨w.heap.size + 1, 0, none⟩) m m) (downW t m k) ∧ Blk wr w.heap.size 38 #[.int .i64 0, .slice none 0 0] ∧ Below w.heap.size w wr) (fun i _ => (intOf i + 1).toNat)
  case atStart => exact ⟨N, Nat.le_refl _, rfl, S.out.1, S.out.2.1, S.out.2.2⟩
  case round =>
    obtain ⟨k, hk, rfl, hown, hR, hbw⟩ := hrel
    have R := Lib.hid (And.intro hown (And.intro hR hbw))
    cases k with
    | zero =>
      have kR0 : wr.cell? ⟨w.heap.size, 0, none⟩ = some (.int .i64 0) := hR.cell 0
      have kR1 : wr.cell? ⟨w.heap.size, 1, none⟩ = some (.slice none 0 0) := hR.cell 1
      have z0 := hR.frozen 0
      have z1 := hR.frozen 1
      clear hown hR hbw
      go_wp2_with fail
      refine bodyPost_ret (v := .agg #[.int .i64 (n : Nat), .slice (some ⟨w.heap.size + 1, 0, none⟩) m m]) ?_ rfl ⟨w.heap.size + 1, rfl, by omega, ?_, HLEN.out, ?_⟩
      · simp [results, Tryz.results42, go_sem, *]
      · obtain ⟨hown, hR, hbw⟩ := R.out
        rw [HEND.out] at hown
        exact ((hown.mono (by omega)).set_below' (by simp) _).set_below' (by simp) _
      · obtain ⟨hown, hR, hbw⟩ := R.out
        exact (hbw.setCell (Nat.le_refl _) _).setCell (Nat.le_refl _) _
    | succ i =>
      have e1 : ((i + 1 : Nat) : Int) - 1 = (i : Int) := by omega
      rw [e1]
      have hiN : i < N := by omega
      have hqm := HIX.out i hiN
      have hat := hown.at_ (i / 64) (by rw [downW_length]; exact hqm)
      rw [downW_at _ _ _ _ hqm] at hat
      have hstep := downW_step t m i hqm
      have hdb := pk_double t (i / 64) (i - 64 * (i / 64))
      rw [show i - 64 * (i / 64) + 1 = i + 1 - 64 * (i / 64) by have := Nat.div_add_mod i 64; omega] at hdb
      generalize pk t (i / 64) / 2 ^ (i + 1 - 64 * (i / 64)) = v at *
      have hq1 : ((i : Int) / 64) = ((i / 64 : Nat) : Int) := by omega
      have hq2 : i / 64 = i / 64 := rfl
      generalize i / 64 = q at *
      have kc : wr.cell? ⟨w.heap.size + 1, q, none⟩ = some (.int .u64 (v : Nat)) := hat.1
      have kz : wr.frozen? ⟨w.heap.size + 1, q, none⟩ = false := hat.2
      have kt : wr.cell? ⟨b0, off + i, none⟩ = some (.bool (t[i]?.getD false)) := (hbw.cell (p := ⟨b0, off + i, none⟩) hb0).trans (HCELL.out i (by rw [HT.out]; exact hiN))
      obtain ⟨v2, hv2⟩ : ∃ v2, v2 = 2 * v := ⟨_, rfl⟩
      obtain ⟨v3, hv3⟩ : ∃ v3, v3 = 2 * v + 1 := ⟨_, rfl⟩
      have hm2 : IntKind.u64.wrap (2 * (v : Int)) = (v2 : Int) := by rw [IntKind.wrap_u64]; omega
      have hm2' : (2 : Int) * (v : Int) = (v2 : Int) := by omega
      have hm3 : IntKind.u64.wrap ((v2 : Int) + 1) = (v3 : Int) := by rw [IntKind.wrap_u64]; omega
      have hm3' : (v2 : Int) + 1 = (v3 : Int) := by omega
      rw [← hv2] at hstep
      have hv2b : v2 < 18446744073709551616 := by omega
      have hv3b : v3 < 18446744073709551616 := by omega
      have hv23 : v3 = v2 + 1 := by omega
      have HV23 := Lib.hid hv23
      clear hv2 hv3 hv23
      have hb01 : ¬ w.heap.size + 1 = b0 := by omega
      have HST := Lib.hid hstep
      clear hown hR hbw hat hstep e1 hq2
      cases hx : t[i]?.getD false
      · rw [hx] at kt HST
        clear hx
        go_wp2_with fail
        go_roundw
        case rel =>
          obtain ⟨hown, hR, hbw⟩ := R.out
          have hst := hown.set_ q v2
          have hh := HST.out
          simp only [Bool.toNat_false, Nat.add_zero] at hh
          rw [hh] at hst
          exact ⟨i, by omega, by go_num, hst, hR.store (by omega) q _, hbw.setCell (p := ⟨w.heap.size + 1, q, none⟩) (by simp only; omega) _⟩
        case measure => simp [intOf]
      · rw [hx] at kt HST
        clear hx
        go_wp2_with fail
        go_roundw
        case rel =>
          obtain ⟨hown, hR, hbw⟩ := R.out
          have hst := (hown.set_ q v2).set_ q v3
          rw [List.set_set] at hst
          have hh := HST.out
          simp only [Bool.toNat_true] at hh
          rw [← HV23.out] at hh
          rw [hh] at hst
          exact ⟨i, by omega, by go_num, hst, (hR.store (by omega) q _).store (by omega) q _, (hbw.setCell (p := ⟨w.heap.size + 1, q, none⟩) (by simp only; omega) _).setCell (p := ⟨w.heap.size + 1, q, none⟩) (by simp only; omega) _⟩
        case measure => simp [intOf]
set_option maxRecDepth 100000 in
set_option maxHeartbeats 4000000 in
theorem rsame_any (m m' : Int) (A A' : Option Addr) (len len' c c' : Nat) (ws ws' : List Nat) (w : World) (h : SetArg w m A len c ws) (h' : SetArg w m' A' len' c' ws') :
    Calls Tryz.prog 41 #[setA m A len c, setA m' A' len' c'] w fun e w' => e = .returned (.bool (decide (m = m' ∧ ws = ws'))) ∧ Below w.heap.size w w' := by
  unfold setA
  have hlc := Nat.le_trans h.hcap h.hmax
  unfold maxLen at hlc
  obtain ⟨W, hW⟩ : ∃ W, W = (w.alloc (.cells #[.int .i64 m, .slice A len c] 38)).alloc (.cells #[.int .i64 m', .slice A' len' c'] 38) := ⟨_, rfl⟩
  have hbW : Below w.heap.size w W := by rw [hW]; exact ((Below.refl _ _).alloc (Nat.le_refl _) _).alloc (by simp) _
  have hK : Blk W w.heap.size 38 #[.int .i64 m, .slice A len c] := by rw [hW]; exact (Blk.new _ _ _).alloc _
  have hK' : Blk W (w.heap.size + 1) 38 #[.int .i64 m', .slice A' len' c'] := by
    rw [hW]
    have := Blk.new (w.alloc (.cells #[.int .i64 m, .slice A len c] 38)) 38 #[.int .i64 m', .slice A' len' c']
    rwa [World.size_alloc] at this
  have HL := Lib.hid h.hlen
  have HL' := Lib.hid h'.hlen
  have HR := Lib.hid (h.on hbW).row
  have HR' := Lib.hid (h'.on hbW).row
  have HWW := Lib.hid hW
  have HbW := Lib.hid hbW
  have a0 : W.cell? ⟨w.heap.size, 0, none⟩ = some (.int .i64 m) := hK.cell 0
  have a1 : W.cell? ⟨w.heap.size, 1, none⟩ = some (.slice A len c) := hK.cell 1
  have b0 : W.cell? ⟨w.heap.size + 1, 0, none⟩ = some (.int .i64 m') := hK'.cell 0
  have b1 : W.cell? ⟨w.heap.size + 1, 1, none⟩ = some (.slice A' len' c') := hK'.cell 1
  clear h h' hbW hK hK'
  by_cases hm : m = m'
  · subst hm
    by_cases hl : len = len'
    · subst hl
      go_enter Tryz.func41, Tryz.ntmps41
      go_wp2_with fail
      rw [← HWW.out]
      clear hW
      go_wp2_with fail
      go_loopw [5] (fun i wr => ∃ k q : Nat, k ≤ len ∧ i = .int .i64 k ∧ wr = W.drewN q ∧ ∀ j, j < k → ws[j]?.getD 0 = ws'[j]?.getD 0) (fun i _ => len - (intOf i).toNat)
      case atStart => exact ⟨0, 0, Nat.zero_le _, rfl, rfl, by omega⟩
      case round =>
        obtain ⟨k, q, hk, rfl, rfl, hno⟩ := hrel
        have HN := Lib.hid hno
        clear hno
        by_cases hlt : k < len
        · obtain ⟨b, off, rfl, hb1, hc⟩ := HR.out (by rw [HL.out]; omega)
          have hck := hc k (by rw [HL.out]; omega)
          obtain ⟨b2, off2, rfl, hb2, hc2⟩ := HR'.out (by rw [HL'.out]; omega)
          have hck2 := hc2 k (by rw [HL'.out]; omega)
          clear hc hc2
          obtain ⟨x, hx⟩ : ∃ x, x = ws[k]?.getD 0 := ⟨_, rfl⟩
          obtain ⟨y, hy⟩ : ∃ y, y = ws'[k]?.getD 0 := ⟨_, rfl⟩
          rw [← hx] at hck
          rw [← hy] at hck2
          unfold U at hck hck2
          have HX := Lib.hid hx
          have HY := Lib.hid hy
          clear hx hy
          by_cases hxy : x = y
          · have HXY := Lib.hid hxy
            subst hxy
            go_wp2_with fail
            go_quiet (fail)
            go_wp2_with fail
            go_roundw
            case rel => exact ⟨k+1, _, by omega, by go_num, rfl, fun j hj => by
                rcases Nat.lt_succ_iff_lt_or_eq.1 hj with h | h
                · exact HN.out j h
                · subst h; rw [← HX.out, ← HY.out]⟩
            case measure => simp [intOf]; omega
          · have HXY := Lib.hid hxy
            have hne : ((x : Int) != (y : Int)) = true := by rw [bne_iff_ne]; omega
            clear hxy
            go_wp2_with fail
            go_quiet (fail)
            go_wp2_with fail
            go_ret
            refine ⟨ret_bool ?_, below_drewN (below_drewN HbW.out _) _⟩
            rw [decide_eq_false]
            rintro ⟨_, h⟩
            exact HXY.out (HX.out.trans ((congrArg (fun l : List Nat => l[k]?.getD 0) h).trans HY.out.symm))
        · go_wp2_with fail
          go_ret
          refine ⟨ret_bool ?_, below_drewN HbW.out _⟩
          apply Eq.symm
          apply decide_eq_true
          refine ⟨by first | rfl | trivial, ?_⟩
          apply List.ext_getElem (by rw [HL.out, HL'.out])
          intro i h1 h2
          have := HN.out i (by rw [HL.out] at h1; omega)
          rw [List.getElem?_eq_getElem h1, List.getElem?_eq_getElem h2] at this
          simpa using this
    · have hne : ((len : Int) != (len' : Int)) = true := by rw [bne_iff_ne]; omega
      have HNE := Lib.hid hl
      clear hl
      go_enter Tryz.func41, Tryz.ntmps41
      go_wp2_with fail
      rw [← HWW.out]
      clear hW
      go_wp2_with fail
      go_ret
      refine ⟨ret_bool ?_, HbW.out⟩
      rw [decide_eq_false]
      rintro ⟨_, h⟩
      exact HNE.out (by rw [← HL.out, ← HL'.out, h])
  · have hne : (m != m') = true := by rw [bne_iff_ne]; exact hm
    have HNE := Lib.hid hm
    clear hm
    go_enter Tryz.func41, Tryz.ntmps41
    go_wp2_with fail
    rw [← HWW.out]
    clear hW
    go_wp2_with fail
    go_ret
    refine ⟨ret_bool ?_, HbW.out⟩
    rw [decide_eq_false]
    rintro ⟨h, _⟩
    exact HNE.out h
set_option maxRecDepth 100000 in
set_option maxHeartbeats 4000000 in
theorem ris_any (n : Nat) (hn : n ≤ 16) (m : Int) (A A' : Option Addr) (len c c' : Nat) (ws : List Nat) (t : List Bool) (w : World) (h : SetArg w m A len c ws) (ht : t.length = 2 ^ n) (hrow : RowF Value.bool false w w.heap.size A' t) :
    Calls Tryz.prog 19 #[setA m A len c, .slice A' (2 ^ n) c'] w fun e w' => e = .returned (.bool (decide (m = n ∧ ws = packT t))) ∧ Below w.heap.size w w' := by
  obtain ⟨W, hW⟩ : ∃ W, W = w.alloc (.cells #[.int .i64 m, .slice A len c] 38) := ⟨_, rfl⟩
  have hbW : Below w.heap.size w W := by rw [hW]; exact (Below.refl _ _).alloc (Nat.le_refl _) _
  have hK : Blk W w.heap.size 38 #[.int .i64 m, .slice A len c] := by rw [hW]; exact Blk.new _ _ _
  have HVA := Lib.hid (fun W => rvars_any n hn A' c' W)
  have HOF := Lib.hid (fun W' (hW' : Below W.heap.size W W') => rof_any n hn A' c' t W' ht ((hrow.on hbW).on hW'))
  have HSA := Lib.hid (fun W' b W0 (hW' : Below W.heap.size W W') (ho : OwnF U 141 W' W0 (.slice (some ⟨b, 0, none⟩) (wordsN n) (wordsN n)) (packT t)) => rsame_any m n A (some ⟨b, 0, none⟩) len (wordsN n) c (wordsN n) ws (packT t) W' ((h.on hbW).on hW')
    (own_arg ho (by rw [packT_length, ht, wordsN_ceil]) (packT_lt t) hn (wordsN_le hn)))
  have FACTS : Hid (∀ W', Below W.heap.size W W' → W'.cell? ⟨w.heap.size, 0, none⟩ = some (.int .i64 m) ∧ W'.cell? ⟨w.heap.size, 1, none⟩ = some (.slice A len c)) := Lib.hid fun W' hW' => ⟨(hK.onB hW').cell 0, (hK.onB hW').cell 1⟩
  have HWW := Lib.hid hW
  have HbW := Lib.hid hbW
  unfold SetRes at HOF
  unfold setA setV at *
  generalize wordsN n = k at *
  generalize 2 ^ n = N at *
  generalize decide (m = n ∧ ws = packT t) = r at *
  clear h hrow hbW hK
  go_enter Tryz.func19, Tryz.ntmps19
  go_wp2_with fail
  rw [← HWW.out]
  clear hW
  have hk := FACTS.out W (Below.refl _ _)
  go_region_held3 (fun w' => w'.cell? ⟨w.heap.size, 0, none⟩ = some (.int .i64 m) ∧ w'.cell? ⟨w.heap.size, 1, none⟩ = some (.slice A len c)) ((refine FACTS.out _ ?_; with_reducible (first | exact Below.refl _ _ | exact (Below.refl _ _).drew | exact hbel1 | exact hbel2 | fail))) (first
    | (go_at_call 43; refine (HVA.out _).mono ?_; rintro e w' ⟨rfl, rfl⟩)
    | (go_at_call 42; refine (HOF.out _ ?_).mono ?_; (with_reducible first | exact Below.refl _ _ | exact (Below.refl _ _).drew); rintro e w1 ⟨b, rfl, hb, hown, hl, hb1⟩; have hbel1 : Below W.heap.size W w1 := (Below.refl _ _).drew.trans hb1)
    | (go_at_call 41; refine (HSA.out _ b _ hbel1 hown).mono ?_; rintro e w2 ⟨rfl, hb2⟩; have hbel2 : Below W.heap.size W w2 := hbel1.trans (hb2.mono hbel1.size)))
  go_wp2_with fail
  go_ret
  exact ⟨rfl, HbW.out.trans (hbel2.mono HbW.out.size)⟩
end Go.Proofs.YtbhbhfplpbcfiaaGreatDoor
