/- SetOps: the walk, two sets of one number of variables. -/
import Derived.Test.YtfcklfpgjadfmaaDoorSetRc
import Derived.Deep.DeepCutAuto
namespace Go.Proofs.YtfcklfpgjadfmaaDoor
open Go.RowKit Go.Sort
set_option linter.unusedSimpArgs false
set_option linter.unusedVariables false

set_option maxRecDepth 100000 in
set_option maxHeartbeats 8000000 in
theorem sops_xc (o : Int) (ho : o < 0 ∨ (¬ o < 0 ∧ 15 < o)) (n : Nat) (A1 A2 A3 : Option Addr) (l1 l2 l3 c1 c2 c3 : Nat) (ws1 ws2 ws3 : List Nat) (w : World) (h1 : SetArg w (n : Nat) A1 l1 c1 ws1) (h2 : SetArg w (n : Nat) A2 l2 c2 ws2) (h3 : SetArg w (n : Nat) A3 l3 c3 ws3) (hg1 : greatB (n : Nat) l1 = false) (hg2 : greatB (n : Nat) l2 = false) (hg3 : greatB (n : Nat) l3 = false) (ok1 : SOk n ws1) (ok2 : SOk n ws2) (ok3 : SOk n ws3) :
    Calls Tryd.prog 7 #[.int .i64 o, setA (n : Nat) A1 l1 c1, setA (n : Nat) A2 l2 c2, setA (n : Nat) A3 l3 c3] w fun e w' => e = .returned (.bool true) ∧ Below w.heap.size w w' := by
  have HAV := Lib.hid (fun W => alive5_any W)
  have HG1 := Lib.hid (fun W => great_any (n : Nat) A1 l1 c1 W)
  rw [hg1] at HG1
  have HG2 := Lib.hid (fun W => great_any (n : Nat) A2 l2 c2 W)
  rw [hg2] at HG2
  have HG3 := Lib.hid (fun W => great_any (n : Nat) A3 l3 c3 W)
  rw [hg3] at HG3
  have HOP := Lib.hid (fun W (h1 : SetArg W (n : Nat) A1 l1 c1 ws1) (h2 : SetArg W (n : Nat) A2 l2 c2 ws2) => (sopS_no o n n A1 A2 l1 l2 c1 c2 ws1 ws2 W h1 h2 (fun hh => by omega)).mono fun _ _ h => h.ans (by omega) (by omega) n [])
  have HIT := Lib.hid (fun W (h1 : SetArg W (n : Nat) A1 l1 c1 ws1) (h2 : SetArg W (n : Nat) A2 l2 c2 ws2) (h3 : SetArg W (n : Nat) A3 l3 c3 ws3) => sIte_ans n A1 A2 A3 l1 l2 l3 c1 c2 c3 ws1 ws2 ws3 W h1 h2 h3 ok1 ok2 ok3)
  have HR1 := Lib.hid (fun W (h1 : SetArg W (n : Nat) A1 l1 c1 ws1) => rright_any (n : Nat) A1 l1 c1 ws1 W h1)
  have HR2 := Lib.hid (fun W (h1 : SetArg W (n : Nat) A2 l2 c2 ws2) => rright_any (n : Nat) A2 l2 c2 ws2 W h1)
  have HR3 := Lib.hid (fun W (h1 : SetArg W (n : Nat) A3 l3 c3 ws3) => rright_any (n : Nat) A3 l3 c3 ws3 W h1)
  have hr1 : srightB (n : Nat) ws1 = true := (sright_iff ok1.lt).2 ⟨by omega, by simpa using ok1⟩
  rw [hr1] at HR1
  have hr2 : srightB (n : Nat) ws2 = true := (sright_iff ok2.lt).2 ⟨by omega, by simpa using ok2⟩
  rw [hr2] at HR2
  have hr3 : srightB (n : Nat) ws3 = true := (sright_iff ok3.lt).2 ⟨by omega, by simpa using ok3⟩
  rw [hr3] at HR3
  have HT1 := Lib.hid (fun W m A len c ws er (h1 : SetArg W m A len c ws) (h2 : Ans n 1 [] m len ws er) => told_ans (B := none) (l2 := 0) (c2 := 0) h1 h2 (by intro h; cases h))
  have HT0 := Lib.hid (fun W t m A len c ws er B c2 (h1 : SetArg W m A len c ws) (h2 : Ans n 0 t m len ws er) (h3 : TabArg W B (2 ^ n) c2 t) => told_ans (B := B) (l2 := 2 ^ n) (c2 := c2) h1 h2 (fun _ => ⟨h3.hlen.symm, h3.row⟩))
  have HTB1 := Lib.hid (fun W (h : SetArg W (n : Nat) A1 l1 c1 ws1) => rtable_tab n A1 l1 c1 ws1 W h ok1)
  have HTB2 := Lib.hid (fun W (h : SetArg W (n : Nat) A2 l2 c2 ws2) => rtable_tab n A2 l2 c2 ws2 W h ok2)
  have HTB3 := Lib.hid (fun W (h : SetArg W (n : Nat) A3 l3 c3 ws3) => rtable_tab n A3 l3 c3 ws3 W h ok3)
  have hpos : 0 < 2 ^ n := Nat.two_pow_pos n
  have HRI := Lib.hid (fun W B1 B2 B3 c1 c2 c3 (h1 : TabArg W B1 (2 ^ n) c1 (tabS n ws1)) (h2 : TabArg W B2 (2 ^ n) c2 (tabS n ws2)) (h3 : TabArg W B3 (2 ^ n) c3 (tabS n ws3)) => rite_tab B1 B2 B3 (2 ^ n) c1 c2 c3 _ _ _ W hpos h1 h2 h3)
  unfold SetAns setA at *
  generalize tabS n ws1 = t1 at *
  generalize tabS n ws2 = t2 at *
  generalize tabS n ws3 = t3 at *
  generalize 2 ^ n = N at *
  clear hg1 hg2 hg3 hr1 hr2 ok1 ok2 hpos hr3 ok3
  obtain ⟨W0, hW0⟩ : ∃ W0, W0 = (((w.alloc (.cells #[.int .i64 ((n : Nat)), .slice A1 l1 c1] 43)).alloc (.cells #[.int .i64 ((n : Nat)), .slice A2 l2 c2] 43)).alloc (.cells #[.int .i64 ((n : Nat)), .slice A3 l3 c3] 43)) := ⟨_, rfl⟩
  have hb0 : Below w.heap.size w W0 := by rw [hW0]; exact ((((Below.refl _ _).alloc (by simp) (.cells #[.int .i64 ((n : Nat)), .slice A1 l1 c1] 43)).alloc (by simp) (.cells #[.int .i64 ((n : Nat)), .slice A2 l2 c2] 43)).alloc (by simp <;> omega) (.cells #[.int .i64 ((n : Nat)), .slice A3 l3 c3] 43))
  have hv0 : SetVar W0 (w.heap.size) ((n : Nat)) A1 l1 c1 ws1 := by
    have := SetVar.new h1
    rw [hW0]; exact ((this.alloc _).alloc _)
  have hv1 : SetVar W0 (w.heap.size + 1) ((n : Nat)) A2 l2 c2 ws2 := by
    have := SetVar.new (h2.alloc (.cells #[.int .i64 ((n : Nat)), .slice A1 l1 c1] 43))
    simp only [World.size_alloc] at this
    rw [hW0]; exact (this.alloc _)
  have hv2 : SetVar W0 (w.heap.size + 2) ((n : Nat)) A3 l3 c3 ws3 := by
    have := SetVar.new ((h3.alloc (.cells #[.int .i64 ((n : Nat)), .slice A1 l1 c1] 43)).alloc (.cells #[.int .i64 ((n : Nat)), .slice A2 l2 c2] 43))
    simp only [World.size_alloc] at this
    rw [hW0]; exact this
  have HWW := Lib.hid hW0
  have HB := Lib.hid hb0
  have Va := Lib.hid hv0
  have Vb := Lib.hid hv1
  have Vc := Lib.hid hv2
  clear hb0 hv0 hv1 hv2 h1 h2 h3
  go_enter Tryd.func7, Tryd.ntmps7
  go_wp2_with fail
  rw [← HWW.out]
  clear hW0
  go_wp2_with fail
  refine (HAV.out _).mono ?_
  rintro e x1 ⟨rfl, hb1⟩
  have Va' := Lib.hid (Va.out.on hb1)
  clear Va
  have Va := Va'
  clear Va'
  have Vb' := Lib.hid (Vb.out.on hb1)
  clear Vb
  have Vb := Vb'
  clear Vb'
  have Vc' := Lib.hid (Vc.out.on hb1)
  clear Vc
  have Vc := Vc'
  clear Vc'
  have HB' := Lib.hid (HB.out.trans (hb1.mono HB.out.size))
  clear HB
  have HB := HB'
  clear HB'
  clear hb1
  have kVa0 := Va.out.c0
  have kVa1 := Va.out.c1
  go_wp2_with fail
  refine (HG1.out _).mono ?_
  rintro e x2 ⟨rfl, hb2⟩
  clear kVa0 kVa1
  have Va' := Lib.hid (Va.out.on hb2)
  clear Va
  have Va := Va'
  clear Va'
  have Vb' := Lib.hid (Vb.out.on hb2)
  clear Vb
  have Vb := Vb'
  clear Vb'
  have Vc' := Lib.hid (Vc.out.on hb2)
  clear Vc
  have Vc := Vc'
  clear Vc'
  have HB' := Lib.hid (HB.out.trans (hb2.mono HB.out.size))
  clear HB
  have HB := HB'
  clear HB'
  clear hb2
  have kVb0 := Vb.out.c0
  have kVb1 := Vb.out.c1
  go_wp2_with fail
  refine (HG2.out _).mono ?_
  rintro e x3 ⟨rfl, hb3⟩
  clear kVb0 kVb1
  have Va' := Lib.hid (Va.out.on hb3)
  clear Va
  have Va := Va'
  clear Va'
  have Vb' := Lib.hid (Vb.out.on hb3)
  clear Vb
  have Vb := Vb'
  clear Vb'
  have Vc' := Lib.hid (Vc.out.on hb3)
  clear Vc
  have Vc := Vc'
  clear Vc'
  have HB' := Lib.hid (HB.out.trans (hb3.mono HB.out.size))
  clear HB
  have HB := HB'
  clear HB'
  clear hb3
  have kVc0 := Vc.out.c0
  have kVc1 := Vc.out.c1
  go_wp2_with fail
  refine (HG3.out _).mono ?_
  rintro e x4 ⟨rfl, hb4⟩
  clear kVc0 kVc1
  have Va' := Lib.hid (Va.out.on hb4)
  clear Va
  have Va := Va'
  clear Va'
  have Vb' := Lib.hid (Vb.out.on hb4)
  clear Vb
  have Vb := Vb'
  clear Vb'
  have Vc' := Lib.hid (Vc.out.on hb4)
  clear Vc
  have Vc := Vc'
  clear Vc'
  have HB' := Lib.hid (HB.out.trans (hb4.mono HB.out.size))
  clear HB
  have HB := HB'
  clear HB'
  clear hb4
  have kVa0 := Va.out.c0
  have kVa1 := Va.out.c1
  have kVb0 := Vb.out.c0
  have kVb1 := Vb.out.c1
  go_wp2_with fail
  refine (HOP.out _ Va.out.arg Vb.out.arg).mono ?_
  rintro e x5 ⟨m5, A5, l5, c5, ws5, e5, rfl, ha5, hb5, hp5⟩
  clear kVa0 kVa1
  clear kVb0 kVb1
  have Va' := Lib.hid (Va.out.on hb5)
  clear Va
  have Va := Va'
  clear Va'
  have Vb' := Lib.hid (Vb.out.on hb5)
  clear Vb
  have Vb := Vb'
  clear Vb'
  have Vc' := Lib.hid (Vc.out.on hb5)
  clear Vc
  have Vc := Vc'
  clear Vc'
  have HB' := Lib.hid (HB.out.trans (hb5.mono HB.out.size))
  clear HB
  have HB := HB'
  clear HB'
  have hltVa := Va.out.blk.lt
  have hltVb := Vb.out.blk.lt
  have hltVc := Vc.out.blk.lt
  have kVa0 := Va.out.c0
  have kVa1 := Va.out.c1
  have kVb0 := Vb.out.c0
  have kVb1 := Vb.out.c1
  have kVc0 := Vc.out.c0
  have kVc1 := Vc.out.c1
  have Va' := Lib.hid (Va.out.alloc (.cells #[.int .i64 m5, .slice A5 l5 c5] 43))
  clear Va
  have Va := Va'
  clear Va'
  have Vb' := Lib.hid (Vb.out.alloc (.cells #[.int .i64 m5, .slice A5 l5 c5] 43))
  clear Vb
  have Vb := Vb'
  clear Vb'
  have Vc' := Lib.hid (Vc.out.alloc (.cells #[.int .i64 m5, .slice A5 l5 c5] 43))
  clear Vc
  have Vc := Vc'
  clear Vc'
  have HB' := Lib.hid (below_new HB.out (Nat.le_refl _) (.cells #[.int .i64 m5, .slice A5 l5 c5] 43))
  clear HB
  have HB := HB'
  clear HB'
  have V5 := Lib.hid (SetVar.new ha5)
  have P5 := Lib.hid hp5
  clear ha5 hb5 hp5
  go_wp2_with fail
  clear hltVa
  clear hltVb
  clear hltVc
  refine (HIT.out _ Va.out.arg Vb.out.arg Vc.out.arg).mono ?_
  rintro e x6 ⟨m6, A6, l6, c6, ws6, e6, rfl, ha6, hb6, hp6⟩
  clear kVa0 kVa1
  clear kVb0 kVb1
  clear kVc0 kVc1
  have Va' := Lib.hid (Va.out.on hb6)
  clear Va
  have Va := Va'
  clear Va'
  have Vb' := Lib.hid (Vb.out.on hb6)
  clear Vb
  have Vb := Vb'
  clear Vb'
  have Vc' := Lib.hid (Vc.out.on hb6)
  clear Vc
  have Vc := Vc'
  clear Vc'
  have V5' := Lib.hid (V5.out.on hb6)
  clear V5
  have V5 := V5'
  clear V5'
  have HB' := Lib.hid (HB.out.trans (hb6.mono HB.out.size))
  clear HB
  have HB := HB'
  clear HB'
  have hltVa := Va.out.blk.lt
  have kVa0 := Va.out.c0
  have kVa1 := Va.out.c1
  have Va' := Lib.hid (Va.out.alloc (.cells #[.int .i64 m6, .slice A6 l6 c6] 43))
  clear Va
  have Va := Va'
  clear Va'
  have Vb' := Lib.hid (Vb.out.alloc (.cells #[.int .i64 m6, .slice A6 l6 c6] 43))
  clear Vb
  have Vb := Vb'
  clear Vb'
  have Vc' := Lib.hid (Vc.out.alloc (.cells #[.int .i64 m6, .slice A6 l6 c6] 43))
  clear Vc
  have Vc := Vc'
  clear Vc'
  have V5' := Lib.hid (V5.out.alloc (.cells #[.int .i64 m6, .slice A6 l6 c6] 43))
  clear V5
  have V5 := V5'
  clear V5'
  have HB' := Lib.hid (below_new HB.out (Nat.le_refl _) (.cells #[.int .i64 m6, .slice A6 l6 c6] 43))
  clear HB
  have HB := HB'
  clear HB'
  have V6 := Lib.hid (SetVar.new ha6)
  have P6 := Lib.hid hp6
  clear ha6 hb6 hp6
  go_wp2_with fail
  clear hltVa
  refine (HR1.out _ Va.out.arg).mono ?_
  rintro e x7 ⟨rfl, hb7⟩
  clear kVa0 kVa1
  have Va' := Lib.hid (Va.out.on hb7)
  clear Va
  have Va := Va'
  clear Va'
  have Vb' := Lib.hid (Vb.out.on hb7)
  clear Vb
  have Vb := Vb'
  clear Vb'
  have Vc' := Lib.hid (Vc.out.on hb7)
  clear Vc
  have Vc := Vc'
  clear Vc'
  have V5' := Lib.hid (V5.out.on hb7)
  clear V5
  have V5 := V5'
  clear V5'
  have V6' := Lib.hid (V6.out.on hb7)
  clear V6
  have V6 := V6'
  clear V6'
  have HB' := Lib.hid (HB.out.trans (hb7.mono HB.out.size))
  clear HB
  have HB := HB'
  clear HB'
  clear hb7
  have kVb0 := Vb.out.c0
  have kVb1 := Vb.out.c1
  go_wp2_with fail
  refine (HR2.out _ Vb.out.arg).mono ?_
  rintro e x8 ⟨rfl, hb8⟩
  clear kVb0 kVb1
  have Va' := Lib.hid (Va.out.on hb8)
  clear Va
  have Va := Va'
  clear Va'
  have Vb' := Lib.hid (Vb.out.on hb8)
  clear Vb
  have Vb := Vb'
  clear Vb'
  have Vc' := Lib.hid (Vc.out.on hb8)
  clear Vc
  have Vc := Vc'
  clear Vc'
  have V5' := Lib.hid (V5.out.on hb8)
  clear V5
  have V5 := V5'
  clear V5'
  have V6' := Lib.hid (V6.out.on hb8)
  clear V6
  have V6 := V6'
  clear V6'
  have HB' := Lib.hid (HB.out.trans (hb8.mono HB.out.size))
  clear HB
  have HB := HB'
  clear HB'
  clear hb8
  have kVa0 := Va.out.c0
  have kVa1 := Va.out.c1
  have kVb0 := Vb.out.c0
  have kVb1 := Vb.out.c1
  go_upto_region 10 with fail
  have FA : Hid (∀ W', Below x8.heap.size x8 W' → W'.cell? ⟨w.heap.size, 0, none⟩ = some (.int .i64 (n : Nat)) ∧ W'.cell? ⟨w.heap.size, 1, none⟩ = some (.slice A1 l1 c1) ∧ W'.cell? ⟨w.heap.size + 1, 0, none⟩ = some (.int .i64 (n : Nat)) ∧ W'.cell? ⟨w.heap.size + 1, 1, none⟩ = some (.slice A2 l2 c2)) := Lib.hid fun W' hW => ⟨(Va.out.on hW).c0, (Va.out.on hW).c1, (Vb.out.on hW).c0, (Vb.out.on hW).c1⟩
  go_cut [14, 15] (fun s14 s15 wx => ∃ B1 B2 d1 d2, s14 = .slice B1 N d1 ∧ s15 = .slice B2 N d2 ∧ TabArg wx B1 N d1 t1 ∧ TabArg wx B2 N d2 t2 ∧ Below x8.heap.size x8 wx)
  case first =>
    go_region_held3 (fun w' => w'.cell? ⟨w.heap.size, 0, none⟩ = some (.int .i64 (n : Nat)) ∧ w'.cell? ⟨w.heap.size, 1, none⟩ = some (.slice A1 l1 c1) ∧ w'.cell? ⟨w.heap.size + 1, 0, none⟩ = some (.int .i64 (n : Nat)) ∧ w'.cell? ⟨w.heap.size + 1, 1, none⟩ = some (.slice A2 l2 c2)) ((refine FA.out _ ?_; with_reducible (first | exact Below.refl _ _ | exact (Below.refl _ _).drew | exact hbA | exact hbB | exact hbA.drew | exact hbB.drew))) (first
      | (go_at_call_of 37 (Value.agg #[.int .i64 (n : Nat), .slice A1 l1 c1]); refine (HTB1.out _ (Va.out.arg.on ?_)).mono ?_; (with_reducible (first | exact Below.refl _ _ | exact (Below.refl _ _).drew | exact hbA | exact hbB | exact hbA.drew | exact hbB.drew)); rintro e wa ⟨B1, d1, rfl, hta, hba⟩; have hbA : Below x8.heap.size x8 wa := (by first | exact (Below.refl _ _).drew.trans hba | exact (Below.refl _ _).trans hba | exact hbB.trans (hba.mono hbB.size) | exact hbB.drew.trans (hba.mono hbB.size)))
      | (go_at_call_of 37 (Value.agg #[.int .i64 (n : Nat), .slice A2 l2 c2]); refine (HTB2.out _ (Vb.out.arg.on ?_)).mono ?_; (with_reducible (first | exact Below.refl _ _ | exact (Below.refl _ _).drew | exact hbA | exact hbB | exact hbA.drew | exact hbB.drew)); rintro e wb ⟨B2, d2, rfl, htb, hbb⟩; have hbB : Below x8.heap.size x8 wb := (by first | exact (Below.refl _ _).drew.trans hbb | exact (Below.refl _ _).trans hbb | exact hbA.trans (hbb.mono hbA.size) | exact hbA.drew.trans (hbb.mono hbA.size))))
    all_goals
      go_wp2_with fail
      go_meet
      exact ⟨_, _, _, _, rfl, rfl, (by first | exact hta | exact hta.on hbb | exact hta.on ((Below.refl _ _).drew.trans hbb)), (by first | exact htb | exact htb.on hba | exact htb.on ((Below.refl _ _).drew.trans hba)), (by first | exact hbA | exact hbB)⟩
  case rest =>
    obtain ⟨B1, B2, d1, d2, rfl, rfl, hta, htb, hbx⟩ := hcut
    clear kVa0 kVa1
    clear kVb0 kVb1
    clear FA
    have Va' := Lib.hid (Va.out.on hbx)
    clear Va
    have Va := Va'
    clear Va'
    have Vb' := Lib.hid (Vb.out.on hbx)
    clear Vb
    have Vb := Vb'
    clear Vb'
    have Vc' := Lib.hid (Vc.out.on hbx)
    clear Vc
    have Vc := Vc'
    clear Vc'
    have V5' := Lib.hid (V5.out.on hbx)
    clear V5
    have V5 := V5'
    clear V5'
    have V6' := Lib.hid (V6.out.on hbx)
    clear V6
    have V6 := V6'
    clear V6'
    have HB' := Lib.hid (HB.out.trans (hbx.mono HB.out.size))
    clear HB
    have HB := HB'
    clear HB'
    have TA := Lib.hid hta
    have TB := Lib.hid htb
    clear hta htb hbx
    have kV50 := V5.out.c0
    have kV51 := V5.out.c1
    rcases ho with ho | ⟨ho0, ho⟩
    · skip
      go_wp2_with fail
      refine (HT1.out _ _ _ _ _ _ _ V5.out.arg P5.out).mono ?_
      rintro e x9 ⟨rfl, hb9⟩
      clear kV50 kV51
      have Va' := Lib.hid (Va.out.on hb9)
      clear Va
      have Va := Va'
      clear Va'
      have Vb' := Lib.hid (Vb.out.on hb9)
      clear Vb
      have Vb := Vb'
      clear Vb'
      have Vc' := Lib.hid (Vc.out.on hb9)
      clear Vc
      have Vc := Vc'
      clear Vc'
      have V5' := Lib.hid (V5.out.on hb9)
      clear V5
      have V5 := V5'
      clear V5'
      have V6' := Lib.hid (V6.out.on hb9)
      clear V6
      have V6 := V6'
      clear V6'
      have TA' := Lib.hid (TA.out.on hb9)
      clear TA
      have TA := TA'
      clear TA'
      have TB' := Lib.hid (TB.out.on hb9)
      clear TB
      have TB := TB'
      clear TB'
      have HB' := Lib.hid (HB.out.trans (hb9.mono HB.out.size))
      clear HB
      have HB := HB'
      clear HB'
      clear hb9
      have kVc0 := Vc.out.c0
      have kVc1 := Vc.out.c1
      go_wp2_with fail
      refine (HR3.out _ Vc.out.arg).mono ?_
      rintro e x10 ⟨rfl, hb10⟩
      clear kVc0 kVc1
      have Va' := Lib.hid (Va.out.on hb10)
      clear Va
      have Va := Va'
      clear Va'
      have Vb' := Lib.hid (Vb.out.on hb10)
      clear Vb
      have Vb := Vb'
      clear Vb'
      have Vc' := Lib.hid (Vc.out.on hb10)
      clear Vc
      have Vc := Vc'
      clear Vc'
      have V5' := Lib.hid (V5.out.on hb10)
      clear V5
      have V5 := V5'
      clear V5'
      have V6' := Lib.hid (V6.out.on hb10)
      clear V6
      have V6 := V6'
      clear V6'
      have TA' := Lib.hid (TA.out.on hb10)
      clear TA
      have TA := TA'
      clear TA'
      have TB' := Lib.hid (TB.out.on hb10)
      clear TB
      have TB := TB'
      clear TB'
      have HB' := Lib.hid (HB.out.trans (hb10.mono HB.out.size))
      clear HB
      have HB := HB'
      clear HB'
      clear hb10
      have kVa0 := Va.out.c0
      have kVa1 := Va.out.c1
      have kVc0 := Vc.out.c0
      have kVc1 := Vc.out.c1
      go_upto_region 18 with fail
      clear kVa0 kVa1
      clear kVc0 kVc1
      have FT : Hid (∀ W', Below x10.heap.size x10 W' → W'.cell? ⟨x6.heap.size, 0, none⟩ = some (.int .i64 m6) ∧ W'.cell? ⟨x6.heap.size, 1, none⟩ = some (.slice A6 l6 c6) ∧ W'.cell? ⟨w.heap.size + 2, 0, none⟩ = some (.int .i64 (n : Nat)) ∧ W'.cell? ⟨w.heap.size + 2, 1, none⟩ = some (.slice A3 l3 c3)) := Lib.hid fun W' hW => ⟨(V6.out.on hW).c0, (V6.out.on hW).c1, (Vc.out.on hW).c0, (Vc.out.on hW).c1⟩
      go_region_held3 (fun w' => w'.cell? ⟨x6.heap.size, 0, none⟩ = some (.int .i64 m6) ∧ w'.cell? ⟨x6.heap.size, 1, none⟩ = some (.slice A6 l6 c6) ∧ w'.cell? ⟨w.heap.size + 2, 0, none⟩ = some (.int .i64 (n : Nat)) ∧ w'.cell? ⟨w.heap.size + 2, 1, none⟩ = some (.slice A3 l3 c3)) ((refine FT.out _ ?_; with_reducible (first | exact Below.refl _ _ | exact (Below.refl _ _).drew | exact hbC | exact hbC.drew | exact hbO | exact hbO.drew | exact hbT | exact hbT.drew))) (first
        | (go_at_call 37; refine (HTB3.out _ (Vc.out.arg.on ?_)).mono ?_; (with_reducible (first | exact Below.refl _ _ | exact (Below.refl _ _).drew)); rintro e wd ⟨B3, d3, rfl, htc, hbc⟩; have hbC : Below x10.heap.size x10 wd := (by first | exact (Below.refl _ _).trans hbc | exact (Below.refl _ _).drew.trans hbc))
        | (go_at_call 39; refine (HRI.out _ _ _ _ _ _ _ (TA.out.on hbC) (TB.out.on hbC) htc).mono ?_; rintro e wo ⟨Bo, co, rfl, hto, hbo⟩; have hbO : Below x10.heap.size x10 wo := hbC.trans (hbo.mono hbC.size))
        | (go_at_call 30; refine (HT0.out _ _ _ _ _ _ _ _ _ _ (V6.out.arg.on hbO) P6.out hto).mono ?_; rintro e wt ⟨rfl, hbt⟩; have hbT : Below x10.heap.size x10 wt := hbO.trans (hbt.mono hbO.size)))
      have Va' := Lib.hid (Va.out.on hbT)
      clear Va
      have Va := Va'
      clear Va'
      have Vb' := Lib.hid (Vb.out.on hbT)
      clear Vb
      have Vb := Vb'
      clear Vb'
      have Vc' := Lib.hid (Vc.out.on hbT)
      clear Vc
      have Vc := Vc'
      clear Vc'
      have V5' := Lib.hid (V5.out.on hbT)
      clear V5
      have V5 := V5'
      clear V5'
      have V6' := Lib.hid (V6.out.on hbT)
      clear V6
      have V6 := V6'
      clear V6'
      have TA' := Lib.hid (TA.out.on hbT)
      clear TA
      have TA := TA'
      clear TA'
      have TB' := Lib.hid (TB.out.on hbT)
      clear TB
      have TB := TB'
      clear TB'
      have HB' := Lib.hid (HB.out.trans (hbT.mono HB.out.size))
      clear HB
      have HB := HB'
      clear HB'
      clear htc hbc hbC hto hbo hbO hbt hbT FT
      go_wp2_with fail
      go_ret
      exact ⟨rfl, HB.out⟩
    · skip
      go_wp2_with fail
      refine (HT1.out _ _ _ _ _ _ _ V5.out.arg P5.out).mono ?_
      rintro e x9 ⟨rfl, hb9⟩
      clear kV50 kV51
      have Va' := Lib.hid (Va.out.on hb9)
      clear Va
      have Va := Va'
      clear Va'
      have Vb' := Lib.hid (Vb.out.on hb9)
      clear Vb
      have Vb := Vb'
      clear Vb'
      have Vc' := Lib.hid (Vc.out.on hb9)
      clear Vc
      have Vc := Vc'
      clear Vc'
      have V5' := Lib.hid (V5.out.on hb9)
      clear V5
      have V5 := V5'
      clear V5'
      have V6' := Lib.hid (V6.out.on hb9)
      clear V6
      have V6 := V6'
      clear V6'
      have TA' := Lib.hid (TA.out.on hb9)
      clear TA
      have TA := TA'
      clear TA'
      have TB' := Lib.hid (TB.out.on hb9)
      clear TB
      have TB := TB'
      clear TB'
      have HB' := Lib.hid (HB.out.trans (hb9.mono HB.out.size))
      clear HB
      have HB := HB'
      clear HB'
      clear hb9
      have kVc0 := Vc.out.c0
      have kVc1 := Vc.out.c1
      go_wp2_with fail
      refine (HR3.out _ Vc.out.arg).mono ?_
      rintro e x10 ⟨rfl, hb10⟩
      clear kVc0 kVc1
      have Va' := Lib.hid (Va.out.on hb10)
      clear Va
      have Va := Va'
      clear Va'
      have Vb' := Lib.hid (Vb.out.on hb10)
      clear Vb
      have Vb := Vb'
      clear Vb'
      have Vc' := Lib.hid (Vc.out.on hb10)
      clear Vc
      have Vc := Vc'
      clear Vc'
      have V5' := Lib.hid (V5.out.on hb10)
      clear V5
      have V5 := V5'
      clear V5'
      have V6' := Lib.hid (V6.out.on hb10)
      clear V6
      have V6 := V6'
      clear V6'
      have TA' := Lib.hid (TA.out.on hb10)
      clear TA
      have TA := TA'
      clear TA'
      have TB' := Lib.hid (TB.out.on hb10)
      clear TB
      have TB := TB'
      clear TB'
      have HB' := Lib.hid (HB.out.trans (hb10.mono HB.out.size))
      clear HB
      have HB := HB'
      clear HB'
      clear hb10
      have kVa0 := Va.out.c0
      have kVa1 := Va.out.c1
      have kVc0 := Vc.out.c0
      have kVc1 := Vc.out.c1
      go_upto_region 18 with fail
      clear kVa0 kVa1
      clear kVc0 kVc1
      have FT : Hid (∀ W', Below x10.heap.size x10 W' → W'.cell? ⟨x6.heap.size, 0, none⟩ = some (.int .i64 m6) ∧ W'.cell? ⟨x6.heap.size, 1, none⟩ = some (.slice A6 l6 c6) ∧ W'.cell? ⟨w.heap.size + 2, 0, none⟩ = some (.int .i64 (n : Nat)) ∧ W'.cell? ⟨w.heap.size + 2, 1, none⟩ = some (.slice A3 l3 c3)) := Lib.hid fun W' hW => ⟨(V6.out.on hW).c0, (V6.out.on hW).c1, (Vc.out.on hW).c0, (Vc.out.on hW).c1⟩
      go_region_held3 (fun w' => w'.cell? ⟨x6.heap.size, 0, none⟩ = some (.int .i64 m6) ∧ w'.cell? ⟨x6.heap.size, 1, none⟩ = some (.slice A6 l6 c6) ∧ w'.cell? ⟨w.heap.size + 2, 0, none⟩ = some (.int .i64 (n : Nat)) ∧ w'.cell? ⟨w.heap.size + 2, 1, none⟩ = some (.slice A3 l3 c3)) ((refine FT.out _ ?_; with_reducible (first | exact Below.refl _ _ | exact (Below.refl _ _).drew | exact hbC | exact hbC.drew | exact hbO | exact hbO.drew | exact hbT | exact hbT.drew))) (first
        | (go_at_call 37; refine (HTB3.out _ (Vc.out.arg.on ?_)).mono ?_; (with_reducible (first | exact Below.refl _ _ | exact (Below.refl _ _).drew)); rintro e wd ⟨B3, d3, rfl, htc, hbc⟩; have hbC : Below x10.heap.size x10 wd := (by first | exact (Below.refl _ _).trans hbc | exact (Below.refl _ _).drew.trans hbc))
        | (go_at_call 39; refine (HRI.out _ _ _ _ _ _ _ (TA.out.on hbC) (TB.out.on hbC) htc).mono ?_; rintro e wo ⟨Bo, co, rfl, hto, hbo⟩; have hbO : Below x10.heap.size x10 wo := hbC.trans (hbo.mono hbC.size))
        | (go_at_call 30; refine (HT0.out _ _ _ _ _ _ _ _ _ _ (V6.out.arg.on hbO) P6.out hto).mono ?_; rintro e wt ⟨rfl, hbt⟩; have hbT : Below x10.heap.size x10 wt := hbO.trans (hbt.mono hbO.size)))
      have Va' := Lib.hid (Va.out.on hbT)
      clear Va
      have Va := Va'
      clear Va'
      have Vb' := Lib.hid (Vb.out.on hbT)
      clear Vb
      have Vb := Vb'
      clear Vb'
      have Vc' := Lib.hid (Vc.out.on hbT)
      clear Vc
      have Vc := Vc'
      clear Vc'
      have V5' := Lib.hid (V5.out.on hbT)
      clear V5
      have V5 := V5'
      clear V5'
      have V6' := Lib.hid (V6.out.on hbT)
      clear V6
      have V6 := V6'
      clear V6'
      have TA' := Lib.hid (TA.out.on hbT)
      clear TA
      have TA := TA'
      clear TA'
      have TB' := Lib.hid (TB.out.on hbT)
      clear TB
      have TB := TB'
      clear TB'
      have HB' := Lib.hid (HB.out.trans (hbT.mono HB.out.size))
      clear HB
      have HB := HB'
      clear HB'
      clear htc hbc hbC hto hbo hbO hbt hbT FT
      go_wp2_with fail
      go_ret
      exact ⟨rfl, HB.out⟩

end Go.Proofs.YtfcklfpgjadfmaaDoor
