/- SetQuants: the walk. -/
import Derived.Test.YtdhfpnbpkbelmaaDoorSetEx
import Derived.Deep.DeepCutAuto
namespace Go.Proofs.YtdhfpnbpkbelmaaDoor
open Go.RowKit Go.Sort
set_option linter.unusedSimpArgs false
set_option linter.unusedVariables false

theorem rexists_tab (n vars : Nat) (each : Bool) (hn : n ≤ 16) (hvars : vars < 65536) (A : Option Addr) (c : Nat) (t : List Bool) (w : World) (h : TabArg w A (2 ^ n) c t) :
    Calls Tryd.prog 27 #[.slice A (2 ^ n : Nat) c, .int .i64 (vars : Nat), .bool each] w fun e w' => ∃ B d, e = .returned (.slice B (2 ^ n) d) ∧ TabArg w' B (2 ^ n) d (quantT (exO each) vars t n) ∧ Below w.heap.size w w' := by
  refine (rexists_any n vars each hn hvars A c t w h).mono ?_
  rintro e w' ⟨B, d, rfl, hown, hbel⟩
  have hl : (quantT (exO each) vars t n).length = 2 ^ n := by rw [quantT_length, h.hlen]
  rw [hl] at hown ⊢
  exact ⟨B, d, rfl, own_tab hown hl (pow16 hn), hbel⟩
theorem sExists_ans (n vars : Nat) (hvars : vars < 2 ^ n) (A : Option Addr) (len c : Nat) (ws : List Nat) (w : World) (h : SetArg w n A len c ws) (hok : SOk n ws) :
    Calls Tryd.prog 24 #[setA n A len c, .int .u16 (vars : Nat)] w (SetAns w n 0 (quantT 14 vars (tabS n ws) n)) :=
  (sExists_any n vars hvars A len c (tabS n ws) w hok.n16 (tabS_length n ws) (by rw [hok.pack_tab]; exact h)).mono fun _ _ hr => hr.ans hok.n16 (by rw [quantT_length, tabS_length])
theorem sForall_ans (n vars : Nat) (hvars : vars < 2 ^ n) (A : Option Addr) (len c : Nat) (ws : List Nat) (w : World) (h : SetArg w n A len c ws) (hok : SOk n ws) :
    Calls Tryd.prog 25 #[setA n A len c, .int .u16 (vars : Nat)] w (SetAns w n 0 (quantT 8 vars (tabS n ws) n)) :=
  (sForall_any n vars hvars A len c (tabS n ws) w hok.n16 (tabS_length n ws) (by rw [hok.pack_tab]; exact h)).mono fun _ _ hr => hr.ans hok.n16 (by rw [quantT_length, tabS_length])
set_option maxRecDepth 100000 in
set_option maxHeartbeats 8000000 in
theorem squl_great (m1 : Int) (vars : Nat) (hv16 : vars < 65536) (A1 : Option Addr) (l1 c1 : Nat) (ws1 : List Nat) (w : World) (h1 : SetArg w m1 A1 l1 c1 ws1) (hg1 : greatB m1 l1 = true) :
    Calls Tryd.prog 5 #[setA m1 A1 l1 c1, .int .u16 (vars : Nat)] w fun e w' => e = .returned (.bool true) ∧ Below w.heap.size w w' := by
  have HAV := Lib.hid (fun W => alive5_any W)
  have HG1 := Lib.hid (fun W => great_any m1 A1 l1 c1 W)
  rw [hg1] at HG1
  unfold setA at *
  obtain ⟨W0, hW0⟩ : ∃ W0, W0 = (w.alloc (.cells #[.int .i64 (m1), .slice A1 l1 c1] 24)) := ⟨_, rfl⟩
  have hb0 : Below w.heap.size w W0 := by rw [hW0]; exact ((Below.refl _ _).alloc (by simp) (.cells #[.int .i64 (m1), .slice A1 l1 c1] 24))
  have hv0 : SetVar W0 (w.heap.size) (m1) A1 l1 c1 ws1 := by
    have := SetVar.new h1
    rw [hW0]; exact this
  have HWW := Lib.hid hW0
  have HB := Lib.hid hb0
  have Va := Lib.hid hv0
  clear hb0 hv0 h1 hg1
  go_enter Tryd.func5, Tryd.ntmps5
  go_wp2_with fail
  rw [← HWW.out]
  clear hW0
  go_wp2_with fail
  refine (HAV.out _).mono ?_
  rintro e x1 ⟨rfl, hb1⟩
  have Va' := Lib.hid (Va.out.on hb1)
  clear Va
  have Va := Va'
  clear Va'
  have HB' := Lib.hid (HB.out.trans (hb1.mono HB.out.size))
  clear HB
  have HB := HB'
  clear HB'
  clear hb1
  have kVa0 := Va.out.c0
  have kVa1 := Va.out.c1
  go_wp2_with fail
  refine (HG1.out _).mono ?_
  rintro e x2 ⟨rfl, hb2⟩
  clear kVa0 kVa1
  have Va' := Lib.hid (Va.out.on hb2)
  clear Va
  have Va := Va'
  clear Va'
  have HB' := Lib.hid (HB.out.trans (hb2.mono HB.out.size))
  clear HB
  have HB := HB'
  clear HB'
  clear hb2
  go_wp2_with fail
  go_ret
  exact ⟨rfl, HB.out⟩
set_option maxRecDepth 100000 in
set_option maxHeartbeats 8000000 in
theorem squl_no (m1 : Int) (vars : Nat) (hv16 : vars < 65536) (A1 : Option Addr) (l1 c1 : Nat) (ws1 : List Nat) (w : World) (h1 : SetArg w m1 A1 l1 c1 ws1) (hg1 : greatB m1 l1 = false) (hr : srightB m1 ws1 = false) :
    Calls Tryd.prog 5 #[setA m1 A1 l1 c1, .int .u16 (vars : Nat)] w fun e w' => e = .returned (.bool true) ∧ Below w.heap.size w w' := by
  have HAV := Lib.hid (fun W => alive5_any W)
  have HG1 := Lib.hid (fun W => great_any m1 A1 l1 c1 W)
  rw [hg1] at HG1
  have HR1 := Lib.hid (fun W (h1 : SetArg W m1 A1 l1 c1 ws1) => rright_any m1 A1 l1 c1 ws1 W h1)
  rw [hr] at HR1
  have HE := Lib.hid (fun W (h1 : SetArg W m1 A1 l1 c1 ws1) => (sExists_no m1 vars A1 l1 c1 ws1 W h1 hv16 1 (.inl ⟨hr, rfl⟩)).mono fun _ _ h => h.ans (by omega) (by omega) 0 [])
  have HF := Lib.hid (fun W (h1 : SetArg W m1 A1 l1 c1 ws1) => (sForall_no m1 vars A1 l1 c1 ws1 W h1 hv16 1 (.inl ⟨hr, rfl⟩)).mono fun _ _ h => h.ans (by omega) (by omega) 0 [])
  have HT1 := Lib.hid (fun W m A len c ws er (h1 : SetArg W m A len c ws) (h2 : Ans 0 1 [] m len ws er) => told_ans (B := none) (l2 := 0) (c2 := 0) h1 h2 (by intro h; cases h))
  unfold SetAns setA at *
  obtain ⟨W0, hW0⟩ : ∃ W0, W0 = (w.alloc (.cells #[.int .i64 (m1), .slice A1 l1 c1] 24)) := ⟨_, rfl⟩
  have hb0 : Below w.heap.size w W0 := by rw [hW0]; exact ((Below.refl _ _).alloc (by simp) (.cells #[.int .i64 (m1), .slice A1 l1 c1] 24))
  have hv0 : SetVar W0 (w.heap.size) (m1) A1 l1 c1 ws1 := by
    have := SetVar.new h1
    rw [hW0]; exact this
  have HWW := Lib.hid hW0
  have HB := Lib.hid hb0
  have Va := Lib.hid hv0
  clear hb0 hv0 h1 hg1 hr
  go_enter Tryd.func5, Tryd.ntmps5
  go_wp2_with fail
  rw [← HWW.out]
  clear hW0
  go_wp2_with fail
  refine (HAV.out _).mono ?_
  rintro e x1 ⟨rfl, hb1⟩
  have Va' := Lib.hid (Va.out.on hb1)
  clear Va
  have Va := Va'
  clear Va'
  have HB' := Lib.hid (HB.out.trans (hb1.mono HB.out.size))
  clear HB
  have HB := HB'
  clear HB'
  clear hb1
  have kVa0 := Va.out.c0
  have kVa1 := Va.out.c1
  go_wp2_with fail
  refine (HG1.out _).mono ?_
  rintro e x2 ⟨rfl, hb2⟩
  clear kVa0 kVa1
  have Va' := Lib.hid (Va.out.on hb2)
  clear Va
  have Va := Va'
  clear Va'
  have HB' := Lib.hid (HB.out.trans (hb2.mono HB.out.size))
  clear HB
  have HB := HB'
  clear HB'
  clear hb2
  have kVa0 := Va.out.c0
  have kVa1 := Va.out.c1
  go_wp2_with fail
  refine (HE.out _ Va.out.arg).mono ?_
  rintro e x3 ⟨m3, A3, l3, c3, ws3, e3, rfl, ha3, hb3, hp3⟩
  clear kVa0 kVa1
  have Va' := Lib.hid (Va.out.on hb3)
  clear Va
  have Va := Va'
  clear Va'
  have HB' := Lib.hid (HB.out.trans (hb3.mono HB.out.size))
  clear HB
  have HB := HB'
  clear HB'
  have hltVa := Va.out.blk.lt
  have kVa0 := Va.out.c0
  have kVa1 := Va.out.c1
  have Va' := Lib.hid (Va.out.on ((Below.refl _ _).alloc (Nat.le_refl _) (.cells #[.int .i64 m3, .slice A3 l3 c3] 24)))
  clear Va
  have Va := Va'
  clear Va'
  have HB' := Lib.hid (HB.out.trans (((Below.refl _ _).alloc (Nat.le_refl _) (.cells #[.int .i64 m3, .slice A3 l3 c3] 24)).mono HB.out.size))
  clear HB
  have HB := HB'
  clear HB'
  have V3 := Lib.hid (SetVar.new ha3)
  have P3 := Lib.hid hp3
  clear ha3 hb3 hp3
  go_wp2_with fail
  clear hltVa
  refine (HF.out _ Va.out.arg).mono ?_
  rintro e x4 ⟨m4, A4, l4, c4, ws4, e4, rfl, ha4, hb4, hp4⟩
  clear kVa0 kVa1
  have Va' := Lib.hid (Va.out.on hb4)
  clear Va
  have Va := Va'
  clear Va'
  have V3' := Lib.hid (V3.out.on hb4)
  clear V3
  have V3 := V3'
  clear V3'
  have HB' := Lib.hid (HB.out.trans (hb4.mono HB.out.size))
  clear HB
  have HB := HB'
  clear HB'
  have hltVa := Va.out.blk.lt
  have kVa0 := Va.out.c0
  have kVa1 := Va.out.c1
  have Va' := Lib.hid (Va.out.on ((Below.refl _ _).alloc (Nat.le_refl _) (.cells #[.int .i64 m4, .slice A4 l4 c4] 24)))
  clear Va
  have Va := Va'
  clear Va'
  have V3' := Lib.hid (V3.out.on ((Below.refl _ _).alloc (Nat.le_refl _) (.cells #[.int .i64 m4, .slice A4 l4 c4] 24)))
  clear V3
  have V3 := V3'
  clear V3'
  have HB' := Lib.hid (HB.out.trans (((Below.refl _ _).alloc (Nat.le_refl _) (.cells #[.int .i64 m4, .slice A4 l4 c4] 24)).mono HB.out.size))
  clear HB
  have HB := HB'
  clear HB'
  have V4 := Lib.hid (SetVar.new ha4)
  have P4 := Lib.hid hp4
  clear ha4 hb4 hp4
  go_wp2_with fail
  clear hltVa
  refine (HR1.out _ Va.out.arg).mono ?_
  rintro e x5 ⟨rfl, hb5⟩
  clear kVa0 kVa1
  have Va' := Lib.hid (Va.out.on hb5)
  clear Va
  have Va := Va'
  clear Va'
  have V3' := Lib.hid (V3.out.on hb5)
  clear V3
  have V3 := V3'
  clear V3'
  have V4' := Lib.hid (V4.out.on hb5)
  clear V4
  have V4 := V4'
  clear V4'
  have HB' := Lib.hid (HB.out.trans (hb5.mono HB.out.size))
  clear HB
  have HB := HB'
  clear HB'
  clear hb5
  have kV30 := V3.out.c0
  have kV31 := V3.out.c1
  go_wp2_with fail
  refine (HT1.out _ _ _ _ _ _ _ V3.out.arg P3.out).mono ?_
  rintro e x6 ⟨rfl, hb6⟩
  clear kV30 kV31
  have Va' := Lib.hid (Va.out.on hb6)
  clear Va
  have Va := Va'
  clear Va'
  have V3' := Lib.hid (V3.out.on hb6)
  clear V3
  have V3 := V3'
  clear V3'
  have V4' := Lib.hid (V4.out.on hb6)
  clear V4
  have V4 := V4'
  clear V4'
  have HB' := Lib.hid (HB.out.trans (hb6.mono HB.out.size))
  clear HB
  have HB := HB'
  clear HB'
  clear hb6
  have kV40 := V4.out.c0
  have kV41 := V4.out.c1
  go_wp2_with fail
  refine (HT1.out _ _ _ _ _ _ _ V4.out.arg P4.out).mono ?_
  rintro e x7 ⟨rfl, hb7⟩
  clear kV40 kV41
  have Va' := Lib.hid (Va.out.on hb7)
  clear Va
  have Va := Va'
  clear Va'
  have V3' := Lib.hid (V3.out.on hb7)
  clear V3
  have V3 := V3'
  clear V3'
  have V4' := Lib.hid (V4.out.on hb7)
  clear V4
  have V4 := V4'
  clear V4'
  have HB' := Lib.hid (HB.out.trans (hb7.mono HB.out.size))
  clear HB
  have HB := HB'
  clear HB'
  clear hb7
  go_wp2_with fail
  go_ret
  exact ⟨rfl, HB.out⟩
set_option maxRecDepth 100000 in
set_option maxHeartbeats 8000000 in
theorem squl_out (n : Nat) (vars : Nat) (hv16 : vars < 65536) (A1 : Option Addr) (l1 c1 : Nat) (ws1 : List Nat) (w : World) (h1 : SetArg w (n : Nat) A1 l1 c1 ws1) (hg1 : greatB (n : Nat) l1 = false) (ok1 : SOk n ws1) (hv : 2 ^ n ≤ vars) :
    Calls Tryd.prog 5 #[setA (n : Nat) A1 l1 c1, .int .u16 (vars : Nat)] w fun e w' => e = .returned (.bool true) ∧ Below w.heap.size w w' := by
  have HAV := Lib.hid (fun W => alive5_any W)
  have HG1 := Lib.hid (fun W => great_any (n : Nat) A1 l1 c1 W)
  rw [hg1] at HG1
  have HR1 := Lib.hid (fun W (h1 : SetArg W (n : Nat) A1 l1 c1 ws1) => rright_any (n : Nat) A1 l1 c1 ws1 W h1)
  have hn16 := ok1.n16
  have hrr1 : srightB (n : Nat) ws1 = true := (sright_iff ok1.lt).2 ⟨by omega, by simpa using ok1⟩
  rw [hrr1] at HR1
  have HSZ := Lib.hid (fun W => size_any n hn16 W)
  have HE := Lib.hid (fun W (h1 : SetArg W (n : Nat) A1 l1 c1 ws1) => (sExists_no (n : Nat) vars A1 l1 c1 ws1 W h1 hv16 3 (.inr ⟨n, rfl, hn16, hrr1, rfl, hv⟩)).mono fun _ _ h => h.ans (by omega) (by omega) 0 [])
  have HF := Lib.hid (fun W (h1 : SetArg W (n : Nat) A1 l1 c1 ws1) => (sForall_no (n : Nat) vars A1 l1 c1 ws1 W h1 hv16 3 (.inr ⟨n, rfl, hn16, hrr1, rfl, hv⟩)).mono fun _ _ h => h.ans (by omega) (by omega) 0 [])
  have HT1 := Lib.hid (fun W m A len c ws er (h1 : SetArg W m A len c ws) (h2 : Ans 0 3 [] m len ws er) => told_ans (B := none) (l2 := 0) (c2 := 0) h1 h2 (by intro h; cases h))
  unfold SetAns setA at *
  generalize 2 ^ n = N at *
  obtain ⟨W0, hW0⟩ : ∃ W0, W0 = (w.alloc (.cells #[.int .i64 ((n : Nat)), .slice A1 l1 c1] 24)) := ⟨_, rfl⟩
  have hb0 : Below w.heap.size w W0 := by rw [hW0]; exact ((Below.refl _ _).alloc (by simp) (.cells #[.int .i64 ((n : Nat)), .slice A1 l1 c1] 24))
  have hv0 : SetVar W0 (w.heap.size) ((n : Nat)) A1 l1 c1 ws1 := by
    have := SetVar.new h1
    rw [hW0]; exact this
  have HWW := Lib.hid hW0
  have HB := Lib.hid hb0
  have Va := Lib.hid hv0
  clear hb0 hv0 h1 hg1 hrr1 hn16 ok1
  go_enter Tryd.func5, Tryd.ntmps5
  go_wp2_with fail
  rw [← HWW.out]
  clear hW0
  go_wp2_with fail
  refine (HAV.out _).mono ?_
  rintro e x1 ⟨rfl, hb1⟩
  have Va' := Lib.hid (Va.out.on hb1)
  clear Va
  have Va := Va'
  clear Va'
  have HB' := Lib.hid (HB.out.trans (hb1.mono HB.out.size))
  clear HB
  have HB := HB'
  clear HB'
  clear hb1
  have kVa0 := Va.out.c0
  have kVa1 := Va.out.c1
  go_wp2_with fail
  refine (HG1.out _).mono ?_
  rintro e x2 ⟨rfl, hb2⟩
  clear kVa0 kVa1
  have Va' := Lib.hid (Va.out.on hb2)
  clear Va
  have Va := Va'
  clear Va'
  have HB' := Lib.hid (HB.out.trans (hb2.mono HB.out.size))
  clear HB
  have HB := HB'
  clear HB'
  clear hb2
  have kVa0 := Va.out.c0
  have kVa1 := Va.out.c1
  go_wp2_with fail
  refine (HE.out _ Va.out.arg).mono ?_
  rintro e x3 ⟨m3, A3, l3, c3, ws3, e3, rfl, ha3, hb3, hp3⟩
  clear kVa0 kVa1
  have Va' := Lib.hid (Va.out.on hb3)
  clear Va
  have Va := Va'
  clear Va'
  have HB' := Lib.hid (HB.out.trans (hb3.mono HB.out.size))
  clear HB
  have HB := HB'
  clear HB'
  have hltVa := Va.out.blk.lt
  have kVa0 := Va.out.c0
  have kVa1 := Va.out.c1
  have Va' := Lib.hid (Va.out.on ((Below.refl _ _).alloc (Nat.le_refl _) (.cells #[.int .i64 m3, .slice A3 l3 c3] 24)))
  clear Va
  have Va := Va'
  clear Va'
  have HB' := Lib.hid (HB.out.trans (((Below.refl _ _).alloc (Nat.le_refl _) (.cells #[.int .i64 m3, .slice A3 l3 c3] 24)).mono HB.out.size))
  clear HB
  have HB := HB'
  clear HB'
  have V3 := Lib.hid (SetVar.new ha3)
  have P3 := Lib.hid hp3
  clear ha3 hb3 hp3
  go_wp2_with fail
  clear hltVa
  refine (HF.out _ Va.out.arg).mono ?_
  rintro e x4 ⟨m4, A4, l4, c4, ws4, e4, rfl, ha4, hb4, hp4⟩
  clear kVa0 kVa1
  have Va' := Lib.hid (Va.out.on hb4)
  clear Va
  have Va := Va'
  clear Va'
  have V3' := Lib.hid (V3.out.on hb4)
  clear V3
  have V3 := V3'
  clear V3'
  have HB' := Lib.hid (HB.out.trans (hb4.mono HB.out.size))
  clear HB
  have HB := HB'
  clear HB'
  have hltVa := Va.out.blk.lt
  have kVa0 := Va.out.c0
  have kVa1 := Va.out.c1
  have Va' := Lib.hid (Va.out.on ((Below.refl _ _).alloc (Nat.le_refl _) (.cells #[.int .i64 m4, .slice A4 l4 c4] 24)))
  clear Va
  have Va := Va'
  clear Va'
  have V3' := Lib.hid (V3.out.on ((Below.refl _ _).alloc (Nat.le_refl _) (.cells #[.int .i64 m4, .slice A4 l4 c4] 24)))
  clear V3
  have V3 := V3'
  clear V3'
  have HB' := Lib.hid (HB.out.trans (((Below.refl _ _).alloc (Nat.le_refl _) (.cells #[.int .i64 m4, .slice A4 l4 c4] 24)).mono HB.out.size))
  clear HB
  have HB := HB'
  clear HB'
  have V4 := Lib.hid (SetVar.new ha4)
  have P4 := Lib.hid hp4
  clear ha4 hb4 hp4
  go_wp2_with fail
  clear hltVa
  refine (HR1.out _ Va.out.arg).mono ?_
  rintro e x5 ⟨rfl, hb5⟩
  clear kVa0 kVa1
  have Va' := Lib.hid (Va.out.on hb5)
  clear Va
  have Va := Va'
  clear Va'
  have V3' := Lib.hid (V3.out.on hb5)
  clear V3
  have V3 := V3'
  clear V3'
  have V4' := Lib.hid (V4.out.on hb5)
  clear V4
  have V4 := V4'
  clear V4'
  have HB' := Lib.hid (HB.out.trans (hb5.mono HB.out.size))
  clear HB
  have HB := HB'
  clear HB'
  clear hb5
  have kVa0 := Va.out.c0
  have kVa1 := Va.out.c1
  go_wp2_with fail
  refine (HSZ.out _).mono ?_
  rintro e w' ⟨rfl, rfl⟩
  clear kVa0 kVa1
  have kV30 := V3.out.c0
  have kV31 := V3.out.c1
  go_wp2_with fail
  refine (HT1.out _ _ _ _ _ _ _ V3.out.arg P3.out).mono ?_
  rintro e x6 ⟨rfl, hb6⟩
  clear kV30 kV31
  have Va' := Lib.hid (Va.out.on hb6)
  clear Va
  have Va := Va'
  clear Va'
  have V3' := Lib.hid (V3.out.on hb6)
  clear V3
  have V3 := V3'
  clear V3'
  have V4' := Lib.hid (V4.out.on hb6)
  clear V4
  have V4 := V4'
  clear V4'
  have HB' := Lib.hid (HB.out.trans (hb6.mono HB.out.size))
  clear HB
  have HB := HB'
  clear HB'
  clear hb6
  have kV40 := V4.out.c0
  have kV41 := V4.out.c1
  go_wp2_with fail
  refine (HT1.out _ _ _ _ _ _ _ V4.out.arg P4.out).mono ?_
  rintro e x7 ⟨rfl, hb7⟩
  clear kV40 kV41
  have Va' := Lib.hid (Va.out.on hb7)
  clear Va
  have Va := Va'
  clear Va'
  have V3' := Lib.hid (V3.out.on hb7)
  clear V3
  have V3 := V3'
  clear V3'
  have V4' := Lib.hid (V4.out.on hb7)
  clear V4
  have V4 := V4'
  clear V4'
  have HB' := Lib.hid (HB.out.trans (hb7.mono HB.out.size))
  clear HB
  have HB := HB'
  clear HB'
  clear hb7
  go_wp2_with fail
  go_ret
  exact ⟨rfl, HB.out⟩
set_option maxRecDepth 100000 in
set_option maxHeartbeats 8000000 in
theorem squl_in (n : Nat) (vars : Nat) (hv16 : vars < 65536) (A1 : Option Addr) (l1 c1 : Nat) (ws1 : List Nat) (w : World) (h1 : SetArg w (n : Nat) A1 l1 c1 ws1) (hg1 : greatB (n : Nat) l1 = false) (ok1 : SOk n ws1) (hv : vars < 2 ^ n) :
    Calls Tryd.prog 5 #[setA (n : Nat) A1 l1 c1, .int .u16 (vars : Nat)] w fun e w' => e = .returned (.bool true) ∧ Below w.heap.size w w' := by
  have HAV := Lib.hid (fun W => alive5_any W)
  have HG1 := Lib.hid (fun W => great_any (n : Nat) A1 l1 c1 W)
  rw [hg1] at HG1
  have HR1 := Lib.hid (fun W (h1 : SetArg W (n : Nat) A1 l1 c1 ws1) => rright_any (n : Nat) A1 l1 c1 ws1 W h1)
  have hn16 := ok1.n16
  have hrr1 : srightB (n : Nat) ws1 = true := (sright_iff ok1.lt).2 ⟨by omega, by simpa using ok1⟩
  rw [hrr1] at HR1
  have HSZ := Lib.hid (fun W => size_any n hn16 W)
  have HE := Lib.hid (fun W (h1 : SetArg W (n : Nat) A1 l1 c1 ws1) => sExists_ans n vars hv A1 l1 c1 ws1 W h1 ok1)
  have HF := Lib.hid (fun W (h1 : SetArg W (n : Nat) A1 l1 c1 ws1) => sForall_ans n vars hv A1 l1 c1 ws1 W h1 ok1)
  have HT0 := Lib.hid (fun W t m A len c ws er B c2 (h1 : SetArg W m A len c ws) (h2 : Ans n 0 t m len ws er) (h3 : TabArg W B (2 ^ n) c2 t) => told_ans (B := B) (l2 := 2 ^ n) (c2 := c2) h1 h2 (fun _ => ⟨h3.hlen.symm, h3.row⟩))
  have HTB1 := Lib.hid (fun W (h : SetArg W (n : Nat) A1 l1 c1 ws1) => rtable_tab n A1 l1 c1 ws1 W h ok1)
  have HX0 := Lib.hid (fun W B c (h : TabArg W B (2 ^ n) c (tabS n ws1)) => rexists_tab n vars false hn16 hv16 B c _ W h)
  have HX1 := Lib.hid (fun W B c (h : TabArg W B (2 ^ n) c (tabS n ws1)) => rexists_tab n vars true hn16 hv16 B c _ W h)
  rw [show exO false = 14 from rfl] at HX0
  rw [show exO true = 8 from rfl] at HX1
  unfold SetAns setA at *
  generalize quantT 14 vars (tabS n ws1) n = te at *
  generalize quantT 8 vars (tabS n ws1) n = tf at *
  generalize tabS n ws1 = t1 at *
  generalize 2 ^ n = N at *
  obtain ⟨W0, hW0⟩ : ∃ W0, W0 = (w.alloc (.cells #[.int .i64 ((n : Nat)), .slice A1 l1 c1] 24)) := ⟨_, rfl⟩
  have hb0 : Below w.heap.size w W0 := by rw [hW0]; exact ((Below.refl _ _).alloc (by simp) (.cells #[.int .i64 ((n : Nat)), .slice A1 l1 c1] 24))
  have hv0 : SetVar W0 (w.heap.size) ((n : Nat)) A1 l1 c1 ws1 := by
    have := SetVar.new h1
    rw [hW0]; exact this
  have HWW := Lib.hid hW0
  have HB := Lib.hid hb0
  have Va := Lib.hid hv0
  clear hb0 hv0 h1 hg1 hrr1 hn16 ok1
  go_enter Tryd.func5, Tryd.ntmps5
  go_wp2_with fail
  rw [← HWW.out]
  clear hW0
  go_wp2_with fail
  refine (HAV.out _).mono ?_
  rintro e x1 ⟨rfl, hb1⟩
  have Va' := Lib.hid (Va.out.on hb1)
  clear Va
  have Va := Va'
  clear Va'
  have HB' := Lib.hid (HB.out.trans (hb1.mono HB.out.size))
  clear HB
  have HB := HB'
  clear HB'
  clear hb1
  have kVa0 := Va.out.c0
  have kVa1 := Va.out.c1
  go_wp2_with fail
  refine (HG1.out _).mono ?_
  rintro e x2 ⟨rfl, hb2⟩
  clear kVa0 kVa1
  have Va' := Lib.hid (Va.out.on hb2)
  clear Va
  have Va := Va'
  clear Va'
  have HB' := Lib.hid (HB.out.trans (hb2.mono HB.out.size))
  clear HB
  have HB := HB'
  clear HB'
  clear hb2
  have kVa0 := Va.out.c0
  have kVa1 := Va.out.c1
  go_wp2_with fail
  refine (HE.out _ Va.out.arg).mono ?_
  rintro e x3 ⟨m3, A3, l3, c3, ws3, e3, rfl, ha3, hb3, hp3⟩
  clear kVa0 kVa1
  have Va' := Lib.hid (Va.out.on hb3)
  clear Va
  have Va := Va'
  clear Va'
  have HB' := Lib.hid (HB.out.trans (hb3.mono HB.out.size))
  clear HB
  have HB := HB'
  clear HB'
  have hltVa := Va.out.blk.lt
  have kVa0 := Va.out.c0
  have kVa1 := Va.out.c1
  have Va' := Lib.hid (Va.out.on ((Below.refl _ _).alloc (Nat.le_refl _) (.cells #[.int .i64 m3, .slice A3 l3 c3] 24)))
  clear Va
  have Va := Va'
  clear Va'
  have HB' := Lib.hid (HB.out.trans (((Below.refl _ _).alloc (Nat.le_refl _) (.cells #[.int .i64 m3, .slice A3 l3 c3] 24)).mono HB.out.size))
  clear HB
  have HB := HB'
  clear HB'
  have V3 := Lib.hid (SetVar.new ha3)
  have P3 := Lib.hid hp3
  clear ha3 hb3 hp3
  go_wp2_with fail
  clear hltVa
  refine (HF.out _ Va.out.arg).mono ?_
  rintro e x4 ⟨m4, A4, l4, c4, ws4, e4, rfl, ha4, hb4, hp4⟩
  clear kVa0 kVa1
  have Va' := Lib.hid (Va.out.on hb4)
  clear Va
  have Va := Va'
  clear Va'
  have V3' := Lib.hid (V3.out.on hb4)
  clear V3
  have V3 := V3'
  clear V3'
  have HB' := Lib.hid (HB.out.trans (hb4.mono HB.out.size))
  clear HB
  have HB := HB'
  clear HB'
  have hltVa := Va.out.blk.lt
  have kVa0 := Va.out.c0
  have kVa1 := Va.out.c1
  have Va' := Lib.hid (Va.out.on ((Below.refl _ _).alloc (Nat.le_refl _) (.cells #[.int .i64 m4, .slice A4 l4 c4] 24)))
  clear Va
  have Va := Va'
  clear Va'
  have V3' := Lib.hid (V3.out.on ((Below.refl _ _).alloc (Nat.le_refl _) (.cells #[.int .i64 m4, .slice A4 l4 c4] 24)))
  clear V3
  have V3 := V3'
  clear V3'
  have HB' := Lib.hid (HB.out.trans (((Below.refl _ _).alloc (Nat.le_refl _) (.cells #[.int .i64 m4, .slice A4 l4 c4] 24)).mono HB.out.size))
  clear HB
  have HB := HB'
  clear HB'
  have V4 := Lib.hid (SetVar.new ha4)
  have P4 := Lib.hid hp4
  clear ha4 hb4 hp4
  go_wp2_with fail
  clear hltVa
  refine (HR1.out _ Va.out.arg).mono ?_
  rintro e x5 ⟨rfl, hb5⟩
  clear kVa0 kVa1
  have Va' := Lib.hid (Va.out.on hb5)
  clear Va
  have Va := Va'
  clear Va'
  have V3' := Lib.hid (V3.out.on hb5)
  clear V3
  have V3 := V3'
  clear V3'
  have V4' := Lib.hid (V4.out.on hb5)
  clear V4
  have V4 := V4'
  clear V4'
  have HB' := Lib.hid (HB.out.trans (hb5.mono HB.out.size))
  clear HB
  have HB := HB'
  clear HB'
  clear hb5
  have kVa0 := Va.out.c0
  have kVa1 := Va.out.c1
  go_wp2_with fail
  refine (HSZ.out _).mono ?_
  rintro e w' ⟨rfl, rfl⟩
  go_wp2_with fail
  refine (HTB1.out _ Va.out.arg).mono ?_
  rintro e x6 ⟨B6, d6, rfl, ht6, hb6⟩
  clear kVa0 kVa1
  have Va' := Lib.hid (Va.out.on hb6)
  clear Va
  have Va := Va'
  clear Va'
  have V3' := Lib.hid (V3.out.on hb6)
  clear V3
  have V3 := V3'
  clear V3'
  have V4' := Lib.hid (V4.out.on hb6)
  clear V4
  have V4 := V4'
  clear V4'
  have HB' := Lib.hid (HB.out.trans (hb6.mono HB.out.size))
  clear HB
  have HB := HB'
  clear HB'
  have TA := Lib.hid ht6
  clear ht6 hb6
  go_upto_region 12 with fail
  have hwv : IntKind.i64.wrap (vars : Int) = (vars : Int) := IntWalk.i64_in _ (by omega)
  have FACTS : Hid (∀ W', Below x6.heap.size x6 W' → W'.cell? ⟨x3.heap.size, 0, none⟩ = some (.int .i64 m3) ∧ W'.cell? ⟨x3.heap.size, 1, none⟩ = some (.slice A3 l3 c3) ∧ W'.cell? ⟨x4.heap.size, 0, none⟩ = some (.int .i64 m4) ∧ W'.cell? ⟨x4.heap.size, 1, none⟩ = some (.slice A4 l4 c4)) := Lib.hid fun W' hW => ⟨(V3.out.on hW).c0, (V3.out.on hW).c1, (V4.out.on hW).c0, (V4.out.on hW).c1⟩
  go_region_held3 (fun w' => w'.cell? ⟨x3.heap.size, 0, none⟩ = some (.int .i64 m3) ∧ w'.cell? ⟨x3.heap.size, 1, none⟩ = some (.slice A3 l3 c3) ∧ w'.cell? ⟨x4.heap.size, 0, none⟩ = some (.int .i64 m4) ∧ w'.cell? ⟨x4.heap.size, 1, none⟩ = some (.slice A4 l4 c4)) ((refine FACTS.out _ ?_; (with_reducible (first | exact Below.refl _ _ | exact (Below.refl _ _).drew | exact hbKp | exact hbKp.drew | exact hbKq | exact hbKq.drew | exact hbKr | exact hbKr.drew | exact hbKs | exact hbKs.drew)))) (first
        | (go_at_call_of 27 (Value.bool false); refine (HX0.out _ _ _ (TA.out.on ?_)).mono ?_; (with_reducible (first | exact Below.refl _ _ | exact (Below.refl _ _).drew | exact hbKp | exact hbKp.drew | exact hbKq | exact hbKq.drew | exact hbKr | exact hbKr.drew | exact hbKs | exact hbKs.drew)); rintro e wp ⟨Bp, dp, rfl, htp, hbp⟩; have hbKp : Below x6.heap.size x6 wp := (by first | exact (Below.refl _ _).drew.trans hbp | exact (Below.refl _ _).trans hbp | exact hbKq.trans (hbp.mono hbKq.size) | exact hbKq.drew.trans (hbp.mono hbKq.size) | exact hbKr.trans (hbp.mono hbKr.size) | exact hbKr.drew.trans (hbp.mono hbKr.size) | exact hbKs.trans (hbp.mono hbKs.size) | exact hbKs.drew.trans (hbp.mono hbKs.size)))
        | (go_at_call_of 16 (Value.agg #[.int .i64 m3, .slice A3 l3 c3]); refine (HT0.out _ _ _ _ _ _ _ _ _ _ (V3.out.arg.on hbKp) P3.out htp).mono ?_; skip; rintro e wq ⟨rfl, hbq⟩; have hbKq : Below x6.heap.size x6 wq := (by first | exact (Below.refl _ _).drew.trans hbq | exact (Below.refl _ _).trans hbq | exact hbKp.trans (hbq.mono hbKp.size) | exact hbKp.drew.trans (hbq.mono hbKp.size) | exact hbKr.trans (hbq.mono hbKr.size) | exact hbKr.drew.trans (hbq.mono hbKr.size) | exact hbKs.trans (hbq.mono hbKs.size) | exact hbKs.drew.trans (hbq.mono hbKs.size)))
        | (go_at_call_of 27 (Value.bool true); refine (HX1.out _ _ _ (TA.out.on ?_)).mono ?_; (with_reducible (first | exact Below.refl _ _ | exact (Below.refl _ _).drew | exact hbKp | exact hbKp.drew | exact hbKq | exact hbKq.drew | exact hbKr | exact hbKr.drew | exact hbKs | exact hbKs.drew)); rintro e wr ⟨Br, dr, rfl, htr, hbr⟩; have hbKr : Below x6.heap.size x6 wr := (by first | exact (Below.refl _ _).drew.trans hbr | exact (Below.refl _ _).trans hbr | exact hbKp.trans (hbr.mono hbKp.size) | exact hbKp.drew.trans (hbr.mono hbKp.size) | exact hbKq.trans (hbr.mono hbKq.size) | exact hbKq.drew.trans (hbr.mono hbKq.size) | exact hbKs.trans (hbr.mono hbKs.size) | exact hbKs.drew.trans (hbr.mono hbKs.size)))
        | (go_at_call_of 16 (Value.agg #[.int .i64 m4, .slice A4 l4 c4]); refine (HT0.out _ _ _ _ _ _ _ _ _ _ (V4.out.arg.on hbKr) P4.out htr).mono ?_; skip; rintro e ws ⟨rfl, hbs⟩; have hbKs : Below x6.heap.size x6 ws := (by first | exact (Below.refl _ _).drew.trans hbs | exact (Below.refl _ _).trans hbs | exact hbKp.trans (hbs.mono hbKp.size) | exact hbKp.drew.trans (hbs.mono hbKp.size) | exact hbKq.trans (hbs.mono hbKq.size) | exact hbKq.drew.trans (hbs.mono hbKq.size) | exact hbKr.trans (hbs.mono hbKr.size) | exact hbKr.drew.trans (hbs.mono hbKr.size)))
        | fail)
  all_goals
    go_wp2_with fail
    go_ret
    exact ⟨rfl, HB.out.trans (hbKs.mono HB.out.size)⟩
theorem squants_walk (m1 : Int) (A1 : Option Addr) (l1 c1 : Nat) (ws1 : List Nat) (v : Int) (w : World) (h1 : SetArg w m1 A1 l1 c1 ws1) (hv0 : (Lit.int .u16 v).wf = true) :
    Calls Tryd.prog 5 #[.agg #[.int .i64 m1, .slice A1 l1 c1], .int .u16 v] w fun e w' => e = .returned (.bool true) ∧ Below w.heap.size w w' := by
  have hb : 0 ≤ v ∧ v ≤ 65535 := by simpa [Lit.wf, IntKind.min, IntKind.max, IntKind.signed, IntKind.bits] using hv0
  obtain ⟨q, rfl⟩ := Int.eq_ofNat_of_zero_le hb.1
  have hq : q < 65536 := by omega
  cases hg1 : greatB m1 l1
  case true => exact squl_great m1 q hq A1 l1 c1 ws1 w h1 hg1
  cases hr : srightB m1 ws1
  case false => exact squl_no m1 q hq A1 l1 c1 ws1 w h1 hg1 hr
  obtain ⟨n, rfl, ok1⟩ := sright_nat h1.lt hr
  by_cases hv : q < 2 ^ n
  · exact squl_in n q hq A1 l1 c1 ws1 w h1 hg1 ok1 hv
  · exact squl_out n q hq A1 l1 c1 ws1 w h1 hg1 ok1 (by omega)
end Go.Proofs.YtdhfpnbpkbelmaaDoor
