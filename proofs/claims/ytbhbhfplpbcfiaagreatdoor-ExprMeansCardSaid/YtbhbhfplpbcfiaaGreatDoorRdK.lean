/- Law 29: ExprMeans. -/
import Derived.Test.YtbhbhfplpbcfiaaGreatDoorRdI
import Derived.Test.YtbhbhfplpbcfiaaGreatDoorRdJ
import Derived.Test.YtbhbhfplpbcfiaaGreatDoorExQ
namespace Go.Proofs.YtbhbhfplpbcfiaaGreatDoor
open Go.RowKit Go.Sort
set_option linter.unusedSimpArgs false
set_option linter.unusedVariables false

set_option maxRecDepth 100000 in
set_option maxHeartbeats 4000000 in
theorem rsmall_yes (v n : Nat) (hn : n ≤ 16) (h : v < 2 ^ n) (w : World) : Calls Tryz.prog 16 #[.int .i64 (v : Nat), .int .i64 (n : Nat)] w fun e w' => e = .returned (.bool true) ∧ w = w' := by
  have HS := Lib.hid (size_any n hn w)
  generalize 2 ^ n = P at *
  have hi : (v : Int) < (P : Int) := by omega
  have hd : decide (v < P) = true := by simpa using h
  clear h
  go_enter Tryz.func16, Tryz.ntmps16
  go_wp2_with fail
  refine HS.out.mono ?_
  rintro e w1 ⟨rfl, rfl⟩
  go_wp2_with fail
  go_ret
  exact ⟨rfl, rfl⟩
set_option maxRecDepth 100000 in
set_option maxHeartbeats 4000000 in
theorem rsmall_no (v n : Nat) (hn : n ≤ 16) (h : ¬ v < 2 ^ n) (w : World) : Calls Tryz.prog 16 #[.int .i64 (v : Nat), .int .i64 (n : Nat)] w fun e w' => e = .returned (.bool false) ∧ w = w' := by
  have HS := Lib.hid (size_any n hn w)
  generalize 2 ^ n = P at *
  have hi : ¬ (v : Int) < (P : Int) := by omega
  have hd : decide (v < P) = false := by simpa using h
  clear h
  go_enter Tryz.func16, Tryz.ntmps16
  go_wp2_with fail
  refine HS.out.mono ?_
  rintro e w1 ⟨rfl, rfl⟩
  go_wp2_with fail
  go_ret
  exact ⟨rfl, rfl⟩
set_option maxRecDepth 100000 in
set_option maxHeartbeats 16000000 in
theorem emeans_walk (s : ByteArray) (n y : Int) (w : World) (hsm : s.size ≤ maxLen) (hnw : (Lit.int .i64 n).wf = true) (hyw : (Lit.int .i64 y).wf = true) (hV : PV w) :
    Calls Tryz.prog 4 #[.string s, .int .i64 n, .int .i64 y] w fun e w' => e = .returned (.bool true) ∧ Below w.heap.size w w' := by
  obtain ⟨l, rfl, hl⟩ := size_list s
  have hn := i64_of_wf hnw
  have hy := i64_of_wf hyw
  have hlm : l.length ≤ 9223372036854775807 := by unfold maxLen at hsm; omega
  have hsz := bytes_size l
  have HA := Lib.hid (alive29_any w hV)
  have HV := Lib.hid hV
  have HY := Lib.hid hy
  have HN := Lib.hid hn
  clear hV hsm hl hnw hyw hy hn
  go_enter Tryz.func4, Tryz.ntmps4
  go_wp2_with fail
  refine HA.out.mono ?_
  rintro e w1 ⟨rfl, h1⟩
  have H1 := Lib.hid h1
  clear h1
  by_cases h400 : 400 < l.length
  · have hi : (400 : Int) < (l.length : Int) := by omega
    go_wp2_with fail
    go_ret
    exact ⟨rfl, H1.out⟩
  · have hi : ¬ (400 : Int) < (l.length : Int) := by omega
    have HP := Lib.hid (parse_any l w1 hlm (HV.out.on H1.out))
    have HO := Lib.hid (fun W => rof29_any l W (by omega))
    go_wp2_with fail
    refine HP.out.mono ?_
    rintro e w2 ⟨hb, ⟨h, _⟩ | ⟨_, c, p, hw, hc, rfl⟩ | ⟨_, hw, L, z, x, g, k1, k2, k3, k4, k5, k6, k7, k8, rfl, k10, k11⟩⟩
    · exact absurd h (by omega)
    · have HB2 := Lib.hid (H1.out.trans (hb.mono H1.out.size))
      rw [hw] at HO
      have hc0 : ((c : Int) != 0) = true := by simp; omega
      have hcr : IntKind.i64.wrap (c : Int) = (c : Int) := by rcases hc with rfl | rfl <;> rfl
      clear hb hc hw
      go_wp2_with fail
      refine (HO.out _).mono ?_
      rintro e w3 ⟨hb3, A, n, cc, rfl, ha⟩
      have HB3 := Lib.hid (HB2.out.trans (hb3.mono HB2.out.size))
      clear hb3 ha
      go_wp2_with fail
      go_ret
      exact ⟨rfl, HB3.out⟩
    · have HB2 := Lib.hid (H1.out.trans (hb.mono H1.out.size))
      rw [hw] at HO
      have hvl := rt_vars k5
      have HEX := Lib.hid (And.intro k11 (And.intro k6 k5))
      have HDL : Hid ((lex l 0).dropLast = L) := Lib.hid (by rw [k1]; simp)
      clear hb hw k1 k2 k3 k4 k5 k6 k7 k8 k10 k11
      go_wp2_with fail
      refine (HO.out _).mono ?_
      rintro e w3 ⟨hb3, A, nn, cc, rfl, ha⟩
      have HB3 := Lib.hid (HB2.out.trans (hb3.mono HB2.out.size))
      rw [HDL.out] at ha
      have hex := HEX.out.1.on hb3
      have HX := Lib.hid (And.intro hex ha)
      have DV := Lib.hid (fun W (hW : Below w3.heap.size w3 W) => rvars29_any A nn cc L W (ha.on hW))
      rw [hvl] at DV
      clear hb3 ha hvl hex
      by_cases hbad : n < 0 ∨ 16 < n ∨ (0 ≤ n ∧ n ≤ 16 ∧ ¬ x.varsN < 2 ^ n.toNat)
      · have HSB := Lib.hid (exprSet_bad g x n w3 HX.out.1 HEX.out.2.1 HN.out hbad)
        go_wp2_with fail
        refine HSB.out.mono ?_
        rintro e w4 ⟨rfl, hb4⟩
        have HB4 := Lib.hid hb4
        have HZ := Lib.hid (fun W => rzero_any 0 none 0 0 W true (by decide))
        unfold setA at HZ
        clear hb4
        rcases hbad with h | h | ⟨h0, h1, h2⟩
        · have hd : decide (n < 0) = true := by simpa using h
          go_wp2_with fail
          refine (HZ.out _).mono ?_
          rintro e w5 ⟨rfl, hb5⟩
          have HB5 := Lib.hid (((Below.refl w4.heap.size w4).alloc (Nat.le_refl _) _).trans (hb5.mono (by simp)))
          clear hb5
          go_wp2_with fail
          go_ret
          exact ⟨rfl, HB3.out.trans ((HB4.out.trans (HB5.out.mono HB4.out.size)).mono HB3.out.size)⟩
        · have hd : decide (n < 0) = false := by simp; omega
          have hd2 : decide (16 < n) = true := by simpa using h
          go_wp2_with fail
          refine (HZ.out _).mono ?_
          rintro e w5 ⟨rfl, hb5⟩
          have HB5 := Lib.hid (((Below.refl w4.heap.size w4).alloc (Nat.le_refl _) _).trans (hb5.mono (by simp)))
          clear hb5
          go_wp2_with fail
          go_ret
          exact ⟨rfl, HB3.out.trans ((HB4.out.trans (HB5.out.mono HB4.out.size)).mono HB3.out.size)⟩
        · obtain ⟨k, rfl⟩ := Int.eq_ofNat_of_zero_le h0
          have hk16 : k ≤ 16 := by omega
          have hd : decide ((k : Int) < 0) = false := by simp
          have hd2 : decide (16 < (k : Int)) = false := by simp; omega
          have hd3 : decide (16 < k) = false := by simp; omega
          have HSM := Lib.hid (fun W => rsmall_no x.varsN k hk16 h2 W)
          have HDV := Lib.hid (DV.out _ (HB4.out.alloc (o := .cells #[.int .i64 0, .slice none 0 0] 38) HB4.out.size))
          clear h0 h1 h2
          go_wp2_with fail
          refine HDV.out.mono ?_
          rintro e w5 ⟨rfl, rfl⟩
          go_wp2_with fail
          refine (HSM.out _).mono ?_
          rintro e w5 ⟨rfl, rfl⟩
          go_wp2_with fail
          refine (HZ.out _).mono ?_
          rintro e w5 ⟨rfl, hb5⟩
          have HB5 := Lib.hid (((Below.refl w4.heap.size w4).alloc (Nat.le_refl _) _).trans (hb5.mono (by simp)))
          clear hb5
          go_wp2_with fail
          go_ret
          exact ⟨rfl, HB3.out.trans ((HB4.out.trans (HB5.out.mono HB4.out.size)).mono HB3.out.size)⟩
      · have hn0 : 0 ≤ n := by omega
        obtain ⟨k, rfl⟩ := Int.eq_ofNat_of_zero_le hn0
        have hk16 : k ≤ 16 := by omega
        have hsm : x.varsN < 2 ^ k := by
          rcases Nat.lt_or_ge x.varsN (2 ^ k) with h | h
          · exact h
          · exact absurd (.inr (.inr ⟨hn0, by omega, by simpa using h⟩)) hbad
        have HSB := Lib.hid (exprSet_ok g x k w3 HX.out.1 HEX.out.2.1 hk16 hsm)
        have HSM := Lib.hid (fun W => rsmall_yes x.varsN k hk16 hsm W)
        have HSMP := Lib.hid hsm
        have hd : decide ((k : Int) < 0) = false := by simp
        have hd2 : decide (16 < (k : Int)) = false := by simp; omega
        have hd3 : decide (16 < k) = false := by simp; omega
        clear hbad hsm
        go_wp2_with fail
        refine HSB.out.mono ?_
        rintro e w4 ⟨B, bl, bc, rfl, hset, hb4⟩
        have HDV := Lib.hid (DV.out _ (hb4.alloc (o := .cells #[.int .i64 (k : Nat), .slice B bl bc] 38) hb4.size))
        have HB4 := Lib.hid hb4
        have HSET := Lib.hid hset
        clear hb4 hset
        go_wp2_with fail
        refine HDV.out.mono ?_
        rintro e w5 ⟨rfl, rfl⟩
        go_wp2_with fail
        refine (HSM.out _).mono ?_
        rintro e w5 ⟨rfl, rfl⟩
        by_cases h7 : 7 < k
        · have h7i : (7 : Int) < (k : Int) := by omega
          go_wp2_with fail
          go_ret
          exact ⟨rfl, HB3.out.trans ((HB4.out.alloc HB4.out.size _).mono HB3.out.size)⟩
        · have h7i : ¬ (7 : Int) < (k : Int) := by omega
          have HT := Lib.hid (fun W (hW : Below w3.heap.size w3 W) => rtab_all HEX.out.2.2 _ nn cc k W (HX.out.2.on hW) hk16)
          have htl := tabE_length k x
          have hpos := Nat.two_pow_pos k
          have hp7 : 2 ^ k ≤ 128 := Nat.pow_le_pow_right (n := 2) (by omega) (show k ≤ 7 by omega)
          have hH := holds_tab x HEX.out.2.1 HSMP.out y
          have HHO := Lib.hid (fun W (hW : Below w3.heap.size w3 W) => exprHolds_any g x y W (HX.out.1.on hW) HEX.out.2.1 HY.out)
          rw [hH] at HHO
          have HIS := Lib.hid (fun (A : Option Addr) (c : Nat) W (h : SetArg W k B bl bc (packT (x.tabE k))) (hrow : RowF Value.bool false W W.heap.size A (x.tabE k)) => ris_any k hk16 k B A bl bc c _ _ W h htl hrow)
          unfold TabOut at HT
          unfold setA at HIS
          generalize x.tabE k = tt at *
          obtain ⟨P, hP⟩ : ∃ P : Nat, P = 2 ^ k := ⟨_, rfl⟩
          rw [← hP] at HT hpos hp7 HIS HHO htl
          clear hP hH
          obtain ⟨q, hq⟩ : ∃ q : Int, q = y.tmod (P : Int) := ⟨_, rfl⟩
          have hq1 : q < (P : Int) := by rw [hq]; exact Int.tmod_lt_of_pos y (by omega)
          have hq2 : -(P : Int) < q := by
            have h1 := Int.natAbs_tmod y (P : Int)
            have h2 : y.natAbs % (P : Int).natAbs < (P : Int).natAbs := Nat.mod_lt _ (by omega)
            rw [hq]
            omega
          have hqm : y % (P : Int) = if q < 0 then q + P else q := by
            have h1 := Int.emod_emod_of_dvd y (Int.dvd_refl (P : Int))
            have h2 : y = P * (y.tdiv P) + q := by rw [hq]; exact (Int.mul_tdiv_add_tmod y P).symm
            split
            · rw [h2, Int.add_comm, Int.add_mul_emod_self_left, ← Int.add_emod_right, Int.emod_eq_of_lt (by omega) (by omega)]
            · rw [h2, Int.add_comm, Int.add_mul_emod_self_left, Int.emod_eq_of_lt (by omega) (by omega)]
          have hqe : y.tmod (P : Int) = q := hq.symm
          have hP0 : ¬ P = 0 := by omega
          have hP0i : ¬ (P : Int) = 0 := by omega
          clear hq
          have main : ∀ (i : Nat), i < P → y % (P : Int) = (i : Int) → True := fun _ _ _ => trivial
          by_cases hneg : q < 0
          · rw [if_pos hneg] at hqm
            go_wp2_with fail
            refine (HT.out _ (HB4.out.alloc HB4.out.size _)).mono ?_
            rintro e w5 ⟨D, dc, rfl, htab, hb5⟩
            obtain ⟨db, doff, rfl, hdb, hcell⟩ := htab.row (by rw [htab.hlen]; exact hpos)
            have hz5 := hb5.size
            rw [World.size_alloc] at hz5
            have t0 : ∀ d os, (grow (redrawn w5 d) os).cell? ⟨w4.heap.size, 0, none⟩ = some (.int .i64 (k : Nat)) := fun d os => cell_regrown ((hb5.cell (p := ⟨w4.heap.size, 0, none⟩) (by simp)).trans (by simp)) d os
            have t1 : ∀ d os, (grow (redrawn w5 d) os).cell? ⟨w4.heap.size, 1, none⟩ = some (.slice B bl bc) := fun d os => cell_regrown ((hb5.cell (p := ⟨w4.heap.size, 1, none⟩) (by simp)).trans (by simp)) d os
            obtain ⟨i, hi⟩ : ∃ i : Nat, (i : Int) = (q + (P : Int)) := ⟨((q + (P : Int))).toNat, by omega⟩
            have hiP : i < P := by omega
            obtain ⟨bv, hbv⟩ : ∃ bv : Bool, bv = tat tt i := ⟨_, rfl⟩
            have t2 : ∀ d os, (grow (redrawn w5 d) os).cell? ⟨db, doff + i, none⟩ = some (.bool bv) := fun d os => cell_regrown (by rw [hbv]; exact hcell i (by rw [htab.hlen]; exact hiP)) d os
            have hto : ((q + (P : Int))).toNat = i := by omega
            have hB0 : Below w3.heap.size w3 (w4.alloc (.cells #[.int .i64 (k : Nat), .slice B bl bc] 38)) := HB4.out.alloc HB4.out.size _
            have hB35 : Below w3.heap.size w3 w5 := hB0.trans (hb5.mono hB0.size)
            have hset5 : SetArg w5 k B bl bc (packT tt) := (HSET.out.on ((Below.refl w4.heap.size w4).alloc (Nat.le_refl _) _)).on hb5
            have cIS := regrown_calls (fun W' (hW' : Below w5.heap.size w5 W') => (HIS.out (some ⟨db, doff, none⟩) dc W' (hset5.on hW') (htab.row.on hW')).mono fun e w' h => (⟨h.1.trans (by simp), hW'.trans (h.2.mono hW'.size)⟩ : e = .returned (.bool true) ∧ Below w5.heap.size w5 w'))
            have cHO := regrown_calls (fun W' (hW' : Below w5.heap.size w5 W') => (HHO.out W' (hB35.trans (hW'.mono hB35.size))).mono fun e w' h => (⟨h.1.trans (by rw [hqm, show (q + (P : Int)).toNat = i by omega, hbv]), hW'.trans (h.2.mono hW'.size)⟩ : e = .returned (.bool bv) ∧ Below w5.heap.size w5 w'))
            have CIS := Lib.hid cIS
            have CHO := Lib.hid cHO
            have HB35 := Lib.hid hB35
            have i1 : (0 : Int) ≤ (q + (P : Int)) := by omega
            have i2 : (q + (P : Int)) < (P : Int) := by omega
            clear htab hb5 hcell hset5 hB35 hB0 hbv cIS cHO hqm
            go_wp2_with fail
            have cX := CIS.out
            have cY := CHO.out
            refine wp_region_quiet_below (by kernel_rfl) (by kernel_rfl) ?_
            repeat (first | go_big_quiet_step ((first | with_reducible exact cX _ _ | with_reducible exact cY _ _ | fail)) | quiet_step ((first | with_reducible exact cX _ _ | with_reducible exact cY _ _ | fail)))
            refine wpQuiet_nil ?_
            intro w6 hw'
            have hbel6 : Below w5.heap.size w5 w6 := regrown_below hw'
            clear hw' cX cY t0 t1 t2
            go_wp2_with fail
            go_ret
            exact ⟨by simp, HB3.out.trans ((HB35.out.trans (hbel6.mono HB35.out.size)).mono HB3.out.size)⟩
          · rw [if_neg hneg] at hqm
            have hneg2 : 0 ≤ q := by omega
            go_wp2_with fail
            refine (HT.out _ (HB4.out.alloc HB4.out.size _)).mono ?_
            rintro e w5 ⟨D, dc, rfl, htab, hb5⟩
            obtain ⟨db, doff, rfl, hdb, hcell⟩ := htab.row (by rw [htab.hlen]; exact hpos)
            have hz5 := hb5.size
            rw [World.size_alloc] at hz5
            have t0 : ∀ d os, (grow (redrawn w5 d) os).cell? ⟨w4.heap.size, 0, none⟩ = some (.int .i64 (k : Nat)) := fun d os => cell_regrown ((hb5.cell (p := ⟨w4.heap.size, 0, none⟩) (by simp)).trans (by simp)) d os
            have t1 : ∀ d os, (grow (redrawn w5 d) os).cell? ⟨w4.heap.size, 1, none⟩ = some (.slice B bl bc) := fun d os => cell_regrown ((hb5.cell (p := ⟨w4.heap.size, 1, none⟩) (by simp)).trans (by simp)) d os
            obtain ⟨i, hi⟩ : ∃ i : Nat, (i : Int) = q := ⟨(q).toNat, by omega⟩
            have hiP : i < P := by omega
            obtain ⟨bv, hbv⟩ : ∃ bv : Bool, bv = tat tt i := ⟨_, rfl⟩
            have t2 : ∀ d os, (grow (redrawn w5 d) os).cell? ⟨db, doff + i, none⟩ = some (.bool bv) := fun d os => cell_regrown (by rw [hbv]; exact hcell i (by rw [htab.hlen]; exact hiP)) d os
            have hto : (q).toNat = i := by omega
            have hB0 : Below w3.heap.size w3 (w4.alloc (.cells #[.int .i64 (k : Nat), .slice B bl bc] 38)) := HB4.out.alloc HB4.out.size _
            have hB35 : Below w3.heap.size w3 w5 := hB0.trans (hb5.mono hB0.size)
            have hset5 : SetArg w5 k B bl bc (packT tt) := (HSET.out.on ((Below.refl w4.heap.size w4).alloc (Nat.le_refl _) _)).on hb5
            have cIS := regrown_calls (fun W' (hW' : Below w5.heap.size w5 W') => (HIS.out (some ⟨db, doff, none⟩) dc W' (hset5.on hW') (htab.row.on hW')).mono fun e w' h => (⟨h.1.trans (by simp), hW'.trans (h.2.mono hW'.size)⟩ : e = .returned (.bool true) ∧ Below w5.heap.size w5 w'))
            have cHO := regrown_calls (fun W' (hW' : Below w5.heap.size w5 W') => (HHO.out W' (hB35.trans (hW'.mono hB35.size))).mono fun e w' h => (⟨h.1.trans (by rw [hqm, show q.toNat = i by omega, hbv]), hW'.trans (h.2.mono hW'.size)⟩ : e = .returned (.bool bv) ∧ Below w5.heap.size w5 w'))
            have CIS := Lib.hid cIS
            have CHO := Lib.hid cHO
            have HB35 := Lib.hid hB35
            have i1 : (0 : Int) ≤ q := by omega
            have i2 : q < (P : Int) := by omega
            clear htab hb5 hcell hset5 hB35 hB0 hbv cIS cHO hqm
            go_wp2_with fail
            have cX := CIS.out
            have cY := CHO.out
            refine wp_region_quiet_below (by kernel_rfl) (by kernel_rfl) ?_
            repeat (first | go_big_quiet_step ((first | with_reducible exact cX _ _ | with_reducible exact cY _ _ | fail)) | quiet_step ((first | with_reducible exact cX _ _ | with_reducible exact cY _ _ | fail)))
            refine wpQuiet_nil ?_
            intro w6 hw'
            have hbel6 : Below w5.heap.size w5 w6 := regrown_below hw'
            clear hw' cX cY t0 t1 t2
            go_wp2_with fail
            go_ret
            exact ⟨by simp, HB3.out.trans ((HB35.out.trans (hbel6.mono HB35.out.size)).mono HB3.out.size)⟩
end Go.Proofs.YtbhbhfplpbcfiaaGreatDoor
