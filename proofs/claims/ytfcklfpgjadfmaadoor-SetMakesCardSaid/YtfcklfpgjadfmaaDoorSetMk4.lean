/- SetMakes: the walk, where there are so many variables. -/
import Derived.Test.YtfcklfpgjadfmaaDoorSetMkB
namespace Go.Proofs.YtfcklfpgjadfmaaDoor
open Go.RowKit Go.Sort
set_option linter.unusedSimpArgs false
set_option linter.unusedVariables false

set_option maxRecDepth 100000 in
set_option maxHeartbeats 8000000 in
theorem smakes_high (n : Nat) (hn : n ≤ 8) (v : Int) (hv0 : ¬ v < 0) (hv : (n : Int) ≤ v) (A : Option Addr) (len cp : Nat) (l : List Int) (w : World) (h : IntsArg w A len cp l) (hl50 : len ≤ 50) :
    Calls Tryd.prog 6 #[.int .i64 (n : Nat), .int .i64 v, .slice A len cp] w fun e w' => e = .returned (.bool true) ∧ Below w.heap.size w w' := by
  have hN := pow16 (show n ≤ 16 by omega)
  have H1 := Lib.hid (fun W => snothing_ans n (by omega) W)
  have H2 := Lib.hid (fun W => sall_ans n (by omega) W)
  have H3 := Lib.hid (fun W (hW : Below w.heap.size w W) => sof_ans n (by omega) A len cp l W (h.on hW))
  have H4 := Lib.hid (fun W => (ssingle2_no n v (by omega) W).mono fun _ _ h => h.ans (by omega) (by omega) n ((List.range (2 ^ n)).map fun _ => false))
  have HAV := Lib.hid (fun W => alive5_any W)
  have HSZ := Lib.hid (fun W => size_any n (by omega) W)
  have HT := Lib.hid (fun W (code : Int) t m A len c ws er B (h1 : SetArg W m A len c ws) (h2 : Ans n code t m len ws er) (h3 : code = 0 → 2 ^ n = t.length ∧ RowF Value.bool false W W.heap.size B t) => told_ans (B := B) (l2 := 2 ^ n) (c2 := 2 ^ n) h1 h2 h3)
  obtain ⟨i0, hi, hz0, hz1, hz2⟩ := info_parts info_bool5
  have HLEN := Lib.hid h.hlen
  have HROW := Lib.hid h.row
  have HAI := Lib.hid (fun l x => allIn_snoc n l x)
  obtain ⟨g, hg⟩ : ∃ g : Nat → Bool, g = fun _ => false := ⟨_, rfl⟩
  rw [← hg] at H4
  have HG := Lib.hid hg
  unfold SetAns at *
  generalize hNE : 2 ^ n = N at *
  have HNN := Lib.hid hNE
  clear h hg hNE
  have hlen : ¬ (50 : Int) < (len : Int) := by omega
  go_enter Tryd.func6, Tryd.ntmps6
  go_wp2_with fail
  refine (HAV.out _).mono ?_
  rintro e w1 ⟨rfl, hb1⟩
  have HB := Lib.hid hb1
  clear hb1
  go_wp2_with fail
  refine (H1.out _).mono ?_
  rintro e x1 ⟨m1, A1, l1, c1, ws1, e1, rfl, ha1, hb1, hp1⟩
  have HB' := Lib.hid (HB.out.trans (hb1.mono HB.out.size))
  clear HB
  have HB := HB'
  clear HB'
  have HB' := Lib.hid (below_new HB.out (Nat.le_refl _) (.cells #[.int .i64 m1, .slice A1 l1 c1] 43))
  clear HB
  have HB := HB'
  clear HB'
  have V1 := Lib.hid (SetVar.new ha1)
  have P1 := Lib.hid hp1
  clear ha1 hb1 hp1
  go_wp2_with fail
  refine (H2.out _).mono ?_
  rintro e x2 ⟨m2, A2, l2, c2, ws2, e2, rfl, ha2, hb2, hp2⟩
  have V1' := Lib.hid (V1.out.on hb2)
  clear V1
  have V1 := V1'
  clear V1'
  have HB' := Lib.hid (HB.out.trans (hb2.mono HB.out.size))
  clear HB
  have HB := HB'
  clear HB'
  have V1' := Lib.hid (V1.out.alloc (.cells #[.int .i64 m2, .slice A2 l2 c2] 43))
  clear V1
  have V1 := V1'
  clear V1'
  have HB' := Lib.hid (below_new HB.out (Nat.le_refl _) (.cells #[.int .i64 m2, .slice A2 l2 c2] 43))
  clear HB
  have HB := HB'
  clear HB'
  have V2 := Lib.hid (SetVar.new ha2)
  have P2 := Lib.hid hp2
  clear ha2 hb2 hp2
  go_wp2_with fail
  refine (H3.out _ HB.out).mono ?_
  rintro e x3 ⟨m3, A3, l3, c3, ws3, e3, rfl, ha3, hb3, hp3⟩
  have V1' := Lib.hid (V1.out.on hb3)
  clear V1
  have V1 := V1'
  clear V1'
  have V2' := Lib.hid (V2.out.on hb3)
  clear V2
  have V2 := V2'
  clear V2'
  have HB' := Lib.hid (HB.out.trans (hb3.mono HB.out.size))
  clear HB
  have HB := HB'
  clear HB'
  have V1' := Lib.hid (V1.out.alloc (.cells #[.int .i64 m3, .slice A3 l3 c3] 43))
  clear V1
  have V1 := V1'
  clear V1'
  have V2' := Lib.hid (V2.out.alloc (.cells #[.int .i64 m3, .slice A3 l3 c3] 43))
  clear V2
  have V2 := V2'
  clear V2'
  have HB' := Lib.hid (below_new HB.out (Nat.le_refl _) (.cells #[.int .i64 m3, .slice A3 l3 c3] 43))
  clear HB
  have HB := HB'
  clear HB'
  have V3 := Lib.hid (SetVar.new ha3)
  have P3 := Lib.hid hp3
  clear ha3 hb3 hp3
  go_wp2_with fail
  refine (H4.out _).mono ?_
  rintro e x4 ⟨m4, A4, l4, c4, ws4, e4, rfl, ha4, hb4, hp4⟩
  have V1' := Lib.hid (V1.out.on hb4)
  clear V1
  have V1 := V1'
  clear V1'
  have V2' := Lib.hid (V2.out.on hb4)
  clear V2
  have V2 := V2'
  clear V2'
  have V3' := Lib.hid (V3.out.on hb4)
  clear V3
  have V3 := V3'
  clear V3'
  have HB' := Lib.hid (HB.out.trans (hb4.mono HB.out.size))
  clear HB
  have HB := HB'
  clear HB'
  have V1' := Lib.hid (V1.out.alloc (.cells #[.int .i64 m4, .slice A4 l4 c4] 43))
  clear V1
  have V1 := V1'
  clear V1'
  have V2' := Lib.hid (V2.out.alloc (.cells #[.int .i64 m4, .slice A4 l4 c4] 43))
  clear V2
  have V2 := V2'
  clear V2'
  have V3' := Lib.hid (V3.out.alloc (.cells #[.int .i64 m4, .slice A4 l4 c4] 43))
  clear V3
  have V3 := V3'
  clear V3'
  have HB' := Lib.hid (below_new HB.out (Nat.le_refl _) (.cells #[.int .i64 m4, .slice A4 l4 c4] 43))
  clear HB
  have HB := HB'
  clear HB'
  have V4 := Lib.hid (SetVar.new ha4)
  have P4 := Lib.hid hp4
  clear ha4 hb4 hp4
  go_upto_region 12 with (first | (refine (HSZ.out _).mono ?_; rintro e w' ⟨rfl, rfl⟩) | fail)
  obtain ⟨W0, hW0⟩ : ∃ W0, W0 = x4.alloc (.cells #[.int .i64 m4, .slice A4 l4 c4] 43) := ⟨_, rfl⟩
  rw [← hW0] at V1 V2 V3 V4 HB
  rw [← hW0]
  clear hW0
  have hsz := HB.out.size
  have HZ := Lib.hid (Zs.nil (W := W0) (N := N))
  go_cut [16, 17, 18, 19] (fun s16 s17 s18 s19 wx => ∃ a b c d : Nat, s16 = .slice (some ⟨a, 0, none⟩) N N ∧ s17 = .slice (some ⟨b, 0, none⟩) N N ∧ s18 = .slice (some ⟨c, 0, none⟩) N N ∧ s19 = .slice (some ⟨d, 0, none⟩) N N ∧ Zs W0 wx N [a, b, c, d])
  case first =>
    have hmk := fun W => run_make_row' (P := Tryd.prog) 51 4 (.bool false) 1 Tryd.underlying51 info_bool5 rfl .i64 .i64 N (by omega) (by omega) W
    have HMX : Hid (N ≤ maxLen) := Lib.hid (by unfold maxLen; omega)
    have HZ4 : Hid (Zs W0 ((((W0.alloc (.cells (madeCells #[.bool false] N) 4)).alloc (.cells (madeCells #[.bool false] N) 4)).alloc (.cells (madeCells #[.bool false] N) 4)).alloc (.cells (madeCells #[.bool false] N) 4)).drew N [W0.heap.size + 1 + 1 + 1, W0.heap.size + 1 + 1, W0.heap.size + 1, W0.heap.size]) := Lib.hid (zs4 W0 _ _ _ N HMX.out rfl rfl rfl).drew
    go_region_held3 (fun _ => True) (trivial) (first | fail)
    all_goals
      go_wp2_with fail
      go_meet
      exact ⟨_, _, _, _, rfl, rfl, rfl, rfl, HZ4.out.perm (by simp <;> omega) (by simp)⟩
  case rest =>
    obtain ⟨a, b, c, d, rfl, rfl, rfl, rfl, hz⟩ := hcut
    have HND := Lib.hid hz.nd
    have FR := Lib.hid hz.four
    clear hz HZ hsz
    go_wp2_with fail
    go_loopw [22] (fun i wr => ∃ k : Nat, k ≤ N ∧ i = .int .i64 k ∧ Four W0 wr N a b c d (List.replicate N false) (fillB (fun _ => true) N k) (List.replicate N false) (fillB g N k)) (fun i _ => N - (intOf i).toNat)
    case atStart => exact ⟨0, Nat.zero_le _, rfl, by rw [fillB_zero, fillB_zero]; exact FR.out⟩
    case round =>
      obtain ⟨k, hk, rfl, hfr⟩ := hrel
      have FK := Lib.hid hfr
      clear hfr
      by_cases hlt : k < N
      · obtain ⟨ub, kb, kbz⟩ := own_cell FK.out.ob k (by rw [fillB_length]; exact hlt)
        obtain ⟨ud, kd, kdz⟩ := own_cell FK.out.od k (by rw [fillB_length]; exact hlt)
        have hbd : ¬ b = d := by have := HND.out; simp at this; exact this.2.1.2
        have hdb : ¬ d = b := fun e => hbd e.symm
        have hsb := fillB_set (fun _ => true) N k hlt
        have hsd := fillB_set g N k hlt
        obtain ⟨x, hx⟩ : ∃ x : Bool, x = false := ⟨_, rfl⟩
        have hgk : g k = x := by rw [HG.out, hx]
        subst hx
        rw [hgk] at hsd
        have HSB := Lib.hid hsb
        have HSD := Lib.hid hsd
        clear hsb hsd hgk
        have hh := (FK.out.setB HND.out k true).setD HND.out k false
        rw [HSB.out, HSD.out] at hh
        have HH := Lib.hid hh
        clear hh
        go_wp2_with fail
        go_roundw
        case rel => exact ⟨k + 1, by omega, by go_num, HH.out⟩
        case measure => simp [intOf]; omega
      · obtain rfl : k = N := by omega
        rw [fillB_all, fillB_all] at FK
        go_wp2_with fail
        go_loopw [20, 23] (fun q i wr => ∃ (j : Nat) (cc : Int), j ≤ len ∧ i = .int .i64 j ∧ q = .int .i64 cc ∧ ((cc = 0 ∧ allIn n (l.take j)) ∨ (cc = 1 ∧ ¬ allIn n (l.take j))) ∧ Four W0 wr k a b c d (List.replicate k false) ((List.range k).map fun _ => true) (memB k (l.take j)) ((List.range k).map g)) (fun _ i _ => len - (intOf i).toNat)
        case atStart => exact ⟨0, 0, Nat.zero_le _, rfl, rfl, .inl ⟨rfl, by intro x hx; simp at hx⟩, by rw [List.take_zero, memB_nil]; exact FK.out⟩
        case round =>
          obtain ⟨j, cc, hj, rfl, rfl, hcc, hfr⟩ := hrel
          have FJ := Lib.hid hfr
          have HCC := Lib.hid hcc
          clear hfr hcc
          by_cases hlt : j < len
          · obtain ⟨b0, off, rfl, hb0, hcell⟩ := HROW.out (by rw [HLEN.out]; omega)
            have kl := ((HB.out.trans (FJ.out.bel.mono HB.out.size)).cell (p := ⟨b0, off + j, none⟩) hb0).trans (hcell j (by rw [HLEN.out]; exact hlt))
            have htk : l.take (j + 1) = l.take j ++ [l[j]?.getD 0] := by rw [List.getElem?_eq_getElem (by rw [HLEN.out]; exact hlt)]; exact List.take_succ_eq_append_getElem (by rw [HLEN.out]; exact hlt)
            generalize l[j]?.getD 0 = y at *
            have HTK := Lib.hid htk
            clear htk hcell hb0
            by_cases hy0 : y < 0
            · go_wp2_with fail
              go_roundw
              case rel =>
                refine ⟨j + 1, 1, by omega, by go_num, rfl, .inr ⟨rfl, ?_⟩, ?_⟩
                · rw [HTK.out, HAI.out]
                  intro hh
                  omega
                · rw [HTK.out, ← memB_snoc_out (by omega)]
                  exact FJ.out
              case measure => simp [intOf]; omega
            · by_cases hyN : y < (k : Int)
              · obtain ⟨x, rfl⟩ := Int.eq_ofNat_of_zero_le (show 0 ≤ y by omega)
                have hxk : x < k := by omega
                obtain ⟨uc, kc, kcz⟩ := own_cell FJ.out.oc x (by rw [memB_length]; exact hxk)
                go_wp2_with fail
                go_roundw
                case rel =>
                  refine ⟨j + 1, cc, by omega, by go_num, rfl, ?_, ?_⟩
                  · rw [HTK.out, HAI.out]
                    rcases HCC.out with ⟨h1, h2⟩ | ⟨h1, h2⟩
                    · exact .inl ⟨h1, h2, by omega, by omega⟩
                    · exact .inr ⟨h1, fun hh => h2 hh.1⟩
                  · rw [HTK.out, ← memB_snoc_in hxk]
                    exact FJ.out.setC HND.out x true
                case measure => simp [intOf]; omega
              · go_wp2_with fail
                go_roundw
                case rel =>
                  refine ⟨j + 1, 1, by omega, by go_num, rfl, .inr ⟨rfl, ?_⟩, ?_⟩
                  · rw [HTK.out, HAI.out]
                    intro hh
                    omega
                  · rw [HTK.out, ← memB_snoc_out (by omega)]
                    exact FJ.out
                case measure => simp [intOf]; omega
          · obtain rfl : j = len := by omega
            rw [show l.take j = l by rw [← HLEN.out]; exact List.take_length] at HCC FJ
            have hp3 : Ans n cc (memB k l) m3 l3 ws3 e3 := by
              have h3 := P3.out
              rcases HCC.out with ⟨rfl, h2⟩ | ⟨rfl, h2⟩
              · rwa [if_pos h2] at h3
              · rwa [if_neg h2] at h3
            have hcd := HCC.out
            clear P3 HCC
            have P3 := Lib.hid hp3
            have HCD : Hid (cc = 0 ∨ cc = 1) := Lib.hid (by omega)
            clear hp3 hcd
            have hbz := FJ.out.bel
            have V1' := Lib.hid (V1.out.on hbz)
            clear V1
            have V1 := V1'
            clear V1'
            have V2' := Lib.hid (V2.out.on hbz)
            clear V2
            have V2 := V2'
            clear V2'
            have V3' := Lib.hid (V3.out.on hbz)
            clear V3
            have V3 := V3'
            clear V3'
            have V4' := Lib.hid (V4.out.on hbz)
            clear V4
            have V4 := V4'
            clear V4'
            have HB' := Lib.hid (HB.out.trans (hbz.mono HB.out.size))
            clear HB
            have HB := HB'
            clear HB'
            clear hbz
            have k1a := V1.out.c0
            have k1b := V1.out.c1
            go_wp2_with fail
            refine (HT.out _ _ _ _ _ _ _ _ _ _ V1.out.arg P1.out (fun _ => ⟨by simp, FJ.out.oa.rows⟩)).mono ?_
            rintro e x5 ⟨rfl, hb5⟩
            have V1' := Lib.hid (V1.out.on hb5)
            clear V1
            have V1 := V1'
            clear V1'
            have V2' := Lib.hid (V2.out.on hb5)
            clear V2
            have V2 := V2'
            clear V2'
            have V3' := Lib.hid (V3.out.on hb5)
            clear V3
            have V3 := V3'
            clear V3'
            have V4' := Lib.hid (V4.out.on hb5)
            clear V4
            have V4 := V4'
            clear V4'
            have FJ' := Lib.hid (FJ.out.on hb5)
            clear FJ
            have FJ := FJ'
            clear FJ'
            have HB' := Lib.hid (HB.out.trans (hb5.mono HB.out.size))
            clear HB
            have HB := HB'
            clear HB'
            clear hb5
            have k2a := V2.out.c0
            have k2b := V2.out.c1
            go_wp2_with fail
            refine (HT.out _ _ _ _ _ _ _ _ _ _ V2.out.arg P2.out (fun _ => ⟨by simp, FJ.out.ob.rows⟩)).mono ?_
            rintro e x6 ⟨rfl, hb6⟩
            have V1' := Lib.hid (V1.out.on hb6)
            clear V1
            have V1 := V1'
            clear V1'
            have V2' := Lib.hid (V2.out.on hb6)
            clear V2
            have V2 := V2'
            clear V2'
            have V3' := Lib.hid (V3.out.on hb6)
            clear V3
            have V3 := V3'
            clear V3'
            have V4' := Lib.hid (V4.out.on hb6)
            clear V4
            have V4 := V4'
            clear V4'
            have FJ' := Lib.hid (FJ.out.on hb6)
            clear FJ
            have FJ := FJ'
            clear FJ'
            have HB' := Lib.hid (HB.out.trans (hb6.mono HB.out.size))
            clear HB
            have HB := HB'
            clear HB'
            clear hb6
            have k3a := V3.out.c0
            have k3b := V3.out.c1
            go_wp2_with fail
            refine (HT.out _ _ _ _ _ _ _ _ _ _ V3.out.arg P3.out (fun _ => ⟨by simp [memB_length], FJ.out.oc.rows⟩)).mono ?_
            rintro e x7 ⟨rfl, hb7⟩
            have V1' := Lib.hid (V1.out.on hb7)
            clear V1
            have V1 := V1'
            clear V1'
            have V2' := Lib.hid (V2.out.on hb7)
            clear V2
            have V2 := V2'
            clear V2'
            have V3' := Lib.hid (V3.out.on hb7)
            clear V3
            have V3 := V3'
            clear V3'
            have V4' := Lib.hid (V4.out.on hb7)
            clear V4
            have V4 := V4'
            clear V4'
            have FJ' := Lib.hid (FJ.out.on hb7)
            clear FJ
            have FJ := FJ'
            clear FJ'
            have HB' := Lib.hid (HB.out.trans (hb7.mono HB.out.size))
            clear HB
            have HB := HB'
            clear HB'
            clear hb7
            have k4a := V4.out.c0
            have k4b := V4.out.c1
            go_wp2_with fail
            refine (HT.out _ _ _ _ _ _ _ _ _ _ V4.out.arg P4.out (fun _ => ⟨by simp, FJ.out.od.rows⟩)).mono ?_
            rintro e x8 ⟨rfl, hb8⟩
            have V1' := Lib.hid (V1.out.on hb8)
            clear V1
            have V1 := V1'
            clear V1'
            have V2' := Lib.hid (V2.out.on hb8)
            clear V2
            have V2 := V2'
            clear V2'
            have V3' := Lib.hid (V3.out.on hb8)
            clear V3
            have V3 := V3'
            clear V3'
            have V4' := Lib.hid (V4.out.on hb8)
            clear V4
            have V4 := V4'
            clear V4'
            have FJ' := Lib.hid (FJ.out.on hb8)
            clear FJ
            have FJ := FJ'
            clear FJ'
            have HB' := Lib.hid (HB.out.trans (hb8.mono HB.out.size))
            clear HB
            have HB := HB'
            clear HB'
            clear hb8
            go_wp2_with fail
            go_ret
            exact ⟨rfl, HB.out⟩

end Go.Proofs.YtfcklfpgjadfmaaDoor
