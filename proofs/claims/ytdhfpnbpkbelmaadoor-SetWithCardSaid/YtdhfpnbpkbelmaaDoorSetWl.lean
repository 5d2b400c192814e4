/- SetWith: the walk. -/
import Derived.Test.YtdhfpnbpkbelmaaDoorSetTb
import Derived.Deep.DeepCutAuto
namespace Go.Proofs.YtdhfpnbpkbelmaaDoor
open Go.RowKit Go.Sort
set_option linter.unusedSimpArgs false
set_option linter.unusedVariables false

set_option maxRecDepth 100000 in
set_option maxHeartbeats 8000000 in
theorem swl_great1 (m1 m2 v : Int) (one : Bool) (A1 A2 : Option Addr) (l1 l2 c1 c2 : Nat) (ws1 ws2 : List Nat) (w : World) (h1 : SetArg w m1 A1 l1 c1 ws1) (h2 : SetArg w m2 A2 l2 c2 ws2) (hg1 : greatB m1 l1 = true) :
    Calls Tryd.prog 3 #[setA m1 A1 l1 c1, setA m2 A2 l2 c2, .int .i64 v, .bool one] w fun e w' => e = .returned (.bool true) ∧ Below w.heap.size w w' := by
  have HAV := Lib.hid (fun W => alive5_any W)
  have HG1 := Lib.hid (fun W => great_any m1 A1 l1 c1 W)
  have HG2 := Lib.hid (fun W => great_any m2 A2 l2 c2 W)
  rw [hg1] at HG1
  unfold setA at *
  obtain ⟨W0, hW0⟩ : ∃ W0, W0 = ((w.alloc (.cells #[.int .i64 (m1), .slice A1 l1 c1] 24)).alloc (.cells #[.int .i64 (m2), .slice A2 l2 c2] 24)) := ⟨_, rfl⟩
  have hb0 : Below w.heap.size w W0 := by rw [hW0]; exact (((Below.refl _ _).alloc (by simp) (.cells #[.int .i64 (m1), .slice A1 l1 c1] 24)).alloc (by simp) (.cells #[.int .i64 (m2), .slice A2 l2 c2] 24))
  have hv0 : SetVar W0 (w.heap.size) (m1) A1 l1 c1 ws1 := by
    have := SetVar.new h1
    rw [hW0]; exact (this.alloc _)
  have hv1 : SetVar W0 (w.heap.size + 1) (m2) A2 l2 c2 ws2 := by
    have := SetVar.new (h2.alloc (.cells #[.int .i64 (m1), .slice A1 l1 c1] 24))
    simp only [World.size_alloc] at this
    rw [hW0]; exact this
  have HWW := Lib.hid hW0
  have HB := Lib.hid hb0
  have Va := Lib.hid hv0
  have Vb := Lib.hid hv1
  clear hb0 hv0 hv1 h1 h2 hg1
  go_enter Tryd.func3, Tryd.ntmps3
  go_wp2_with fail
  rw [← HWW.out]
  clear hW0
  go_wp2_with fail
  refine (HAV.out _).mono ?_
  rintro e x1 ⟨rfl, hb1⟩
  have Va' := Lib.hid (Va.out.on hb1)
  clear Va
  have Va := Va'
  clear Va'
  have Vb' := Lib.hid (Vb.out.on hb1)
  clear Vb
  have Vb := Vb'
  clear Vb'
  have HB' := Lib.hid (HB.out.trans (hb1.mono HB.out.size))
  clear HB
  have HB := HB'
  clear HB'
  clear hb1
  have kVa0 := Va.out.c0
  have kVa1 := Va.out.c1
  go_wp2_with fail
  refine (HG1.out _).mono ?_
  rintro e x2 ⟨rfl, hb2⟩
  clear kVa0 kVa1
  have Va' := Lib.hid (Va.out.on hb2)
  clear Va
  have Va := Va'
  clear Va'
  have Vb' := Lib.hid (Vb.out.on hb2)
  clear Vb
  have Vb := Vb'
  clear Vb'
  have HB' := Lib.hid (HB.out.trans (hb2.mono HB.out.size))
  clear HB
  have HB := HB'
  clear HB'
  clear hb2
  go_wp2_with fail
  go_ret
  exact ⟨rfl, HB.out⟩
set_option maxRecDepth 100000 in
set_option maxHeartbeats 8000000 in
theorem swl_great2 (m1 m2 v : Int) (one : Bool) (A1 A2 : Option Addr) (l1 l2 c1 c2 : Nat) (ws1 ws2 : List Nat) (w : World) (h1 : SetArg w m1 A1 l1 c1 ws1) (h2 : SetArg w m2 A2 l2 c2 ws2) (hg1 : greatB m1 l1 = false) (hg2 : greatB m2 l2 = true) :
    Calls Tryd.prog 3 #[setA m1 A1 l1 c1, setA m2 A2 l2 c2, .int .i64 v, .bool one] w fun e w' => e = .returned (.bool true) ∧ Below w.heap.size w w' := by
  have HAV := Lib.hid (fun W => alive5_any W)
  have HG1 := Lib.hid (fun W => great_any m1 A1 l1 c1 W)
  have HG2 := Lib.hid (fun W => great_any m2 A2 l2 c2 W)
  rw [hg1] at HG1
  rw [hg2] at HG2
  unfold setA at *
  obtain ⟨W0, hW0⟩ : ∃ W0, W0 = ((w.alloc (.cells #[.int .i64 (m1), .slice A1 l1 c1] 24)).alloc (.cells #[.int .i64 (m2), .slice A2 l2 c2] 24)) := ⟨_, rfl⟩
  have hb0 : Below w.heap.size w W0 := by rw [hW0]; exact (((Below.refl _ _).alloc (by simp) (.cells #[.int .i64 (m1), .slice A1 l1 c1] 24)).alloc (by simp) (.cells #[.int .i64 (m2), .slice A2 l2 c2] 24))
  have hv0 : SetVar W0 (w.heap.size) (m1) A1 l1 c1 ws1 := by
    have := SetVar.new h1
    rw [hW0]; exact (this.alloc _)
  have hv1 : SetVar W0 (w.heap.size + 1) (m2) A2 l2 c2 ws2 := by
    have := SetVar.new (h2.alloc (.cells #[.int .i64 (m1), .slice A1 l1 c1] 24))
    simp only [World.size_alloc] at this
    rw [hW0]; exact this
  have HWW := Lib.hid hW0
  have HB := Lib.hid hb0
  have Va := Lib.hid hv0
  have Vb := Lib.hid hv1
  clear hb0 hv0 hv1 h1 h2 hg1 hg2
  go_enter Tryd.func3, Tryd.ntmps3
  go_wp2_with fail
  rw [← HWW.out]
  clear hW0
  go_wp2_with fail
  refine (HAV.out _).mono ?_
  rintro e x1 ⟨rfl, hb1⟩
  have Va' := Lib.hid (Va.out.on hb1)
  clear Va
  have Va := Va'
  clear Va'
  have Vb' := Lib.hid (Vb.out.on hb1)
  clear Vb
  have Vb := Vb'
  clear Vb'
  have HB' := Lib.hid (HB.out.trans (hb1.mono HB.out.size))
  clear HB
  have HB := HB'
  clear HB'
  clear hb1
  have kVa0 := Va.out.c0
  have kVa1 := Va.out.c1
  go_wp2_with fail
  refine (HG1.out _).mono ?_
  rintro e x2 ⟨rfl, hb2⟩
  clear kVa0 kVa1
  have Va' := Lib.hid (Va.out.on hb2)
  clear Va
  have Va := Va'
  clear Va'
  have Vb' := Lib.hid (Vb.out.on hb2)
  clear Vb
  have Vb := Vb'
  clear Vb'
  have HB' := Lib.hid (HB.out.trans (hb2.mono HB.out.size))
  clear HB
  have HB := HB'
  clear HB'
  clear hb2
  have kVb0 := Vb.out.c0
  have kVb1 := Vb.out.c1
  go_wp2_with fail
  refine (HG2.out _).mono ?_
  rintro e x3 ⟨rfl, hb3⟩
  clear kVb0 kVb1
  have Va' := Lib.hid (Va.out.on hb3)
  clear Va
  have Va := Va'
  clear Va'
  have Vb' := Lib.hid (Vb.out.on hb3)
  clear Vb
  have Vb := Vb'
  clear Vb'
  have HB' := Lib.hid (HB.out.trans (hb3.mono HB.out.size))
  clear HB
  have HB := HB'
  clear HB'
  clear hb3
  go_wp2_with fail
  go_ret
  exact ⟨rfl, HB.out⟩
set_option maxRecDepth 100000 in
set_option maxHeartbeats 8000000 in
theorem swl_no (m1 m2 v : Int) (one : Bool) (A1 A2 : Option Addr) (l1 l2 c1 c2 : Nat) (ws1 ws2 : List Nat) (w : World) (h1 : SetArg w m1 A1 l1 c1 ws1) (h2 : SetArg w m2 A2 l2 c2 ws2) (hg1 : greatB m1 l1 = false) (hg2 : greatB m2 l2 = false) (hr : srightB m1 ws1 = false) :
    Calls Tryd.prog 3 #[setA m1 A1 l1 c1, setA m2 A2 l2 c2, .int .i64 v, .bool one] w fun e w' => e = .returned (.bool true) ∧ Below w.heap.size w w' := by
  have HAV := Lib.hid (fun W => alive5_any W)
  have HG1 := Lib.hid (fun W => great_any m1 A1 l1 c1 W)
  have HG2 := Lib.hid (fun W => great_any m2 A2 l2 c2 W)
  rw [hg1] at HG1
  rw [hg2] at HG2
  have ha : askC m1 ws1 v = 1 := by unfold askC; rw [hr]; rfl
  have hp : pairB m1 m2 ws1 ws2 = false := by unfold pairB; rw [hr]; rfl
  have HW := Lib.hid (fun W (h1 : SetArg W m1 A1 l1 c1 ws1) => (sWith_no m1 v one A1 l1 c1 ws1 W h1 (by rw [ha]; omega)).mono fun _ _ h => SetErr.ans (ha ▸ h) (by omega) (by omega) 0 [])
  have HC := Lib.hid (fun W (h1 : SetArg W m1 A1 l1 c1 ws1) (h2 : SetArg W m2 A2 l2 c2 ws2) => (sComp_no m1 m2 v A1 A2 l1 l2 c1 c2 ws1 ws2 W h1 h2 1 (.inl ⟨hp, rfl⟩)).mono fun _ _ h => h.ans (by omega) (by omega) 0 [])
  have HR1 := Lib.hid (fun W (h1 : SetArg W m1 A1 l1 c1 ws1) => rright_any m1 A1 l1 c1 ws1 W h1)
  rw [hr] at HR1
  have HT1 := Lib.hid (fun W m A len c ws er (h1 : SetArg W m A len c ws) (h2 : Ans 0 1 [] m len ws er) => told_ans (B := none) (l2 := 0) (c2 := 0) h1 h2 (by intro h; cases h))
  unfold SetAns setA at *
  obtain ⟨W0, hW0⟩ : ∃ W0, W0 = ((w.alloc (.cells #[.int .i64 (m1), .slice A1 l1 c1] 24)).alloc (.cells #[.int .i64 (m2), .slice A2 l2 c2] 24)) := ⟨_, rfl⟩
  have hb0 : Below w.heap.size w W0 := by rw [hW0]; exact (((Below.refl _ _).alloc (by simp) (.cells #[.int .i64 (m1), .slice A1 l1 c1] 24)).alloc (by simp) (.cells #[.int .i64 (m2), .slice A2 l2 c2] 24))
  have hv0 : SetVar W0 (w.heap.size) (m1) A1 l1 c1 ws1 := by
    have := SetVar.new h1
    rw [hW0]; exact (this.alloc _)
  have hv1 : SetVar W0 (w.heap.size + 1) (m2) A2 l2 c2 ws2 := by
    have := SetVar.new (h2.alloc (.cells #[.int .i64 (m1), .slice A1 l1 c1] 24))
    simp only [World.size_alloc] at this
    rw [hW0]; exact this
  have HWW := Lib.hid hW0
  have HB := Lib.hid hb0
  have Va := Lib.hid hv0
  have Vb := Lib.hid hv1
  clear hb0 hv0 hv1 h1 h2 hg1 hg2 hr ha hp
  go_enter Tryd.func3, Tryd.ntmps3
  go_wp2_with fail
  rw [← HWW.out]
  clear hW0
  go_wp2_with fail
  refine (HAV.out _).mono ?_
  rintro e x1 ⟨rfl, hb1⟩
  have Va' := Lib.hid (Va.out.on hb1)
  clear Va
  have Va := Va'
  clear Va'
  have Vb' := Lib.hid (Vb.out.on hb1)
  clear Vb
  have Vb := Vb'
  clear Vb'
  have HB' := Lib.hid (HB.out.trans (hb1.mono HB.out.size))
  clear HB
  have HB := HB'
  clear HB'
  clear hb1
  have kVa0 := Va.out.c0
  have kVa1 := Va.out.c1
  go_wp2_with fail
  refine (HG1.out _).mono ?_
  rintro e x2 ⟨rfl, hb2⟩
  clear kVa0 kVa1
  have Va' := Lib.hid (Va.out.on hb2)
  clear Va
  have Va := Va'
  clear Va'
  have Vb' := Lib.hid (Vb.out.on hb2)
  clear Vb
  have Vb := Vb'
  clear Vb'
  have HB' := Lib.hid (HB.out.trans (hb2.mono HB.out.size))
  clear HB
  have HB := HB'
  clear HB'
  clear hb2
  have kVb0 := Vb.out.c0
  have kVb1 := Vb.out.c1
  go_wp2_with fail
  refine (HG2.out _).mono ?_
  rintro e x3 ⟨rfl, hb3⟩
  clear kVb0 kVb1
  have Va' := Lib.hid (Va.out.on hb3)
  clear Va
  have Va := Va'
  clear Va'
  have Vb' := Lib.hid (Vb.out.on hb3)
  clear Vb
  have Vb := Vb'
  clear Vb'
  have HB' := Lib.hid (HB.out.trans (hb3.mono HB.out.size))
  clear HB
  have HB := HB'
  clear HB'
  clear hb3
  have kVa0 := Va.out.c0
  have kVa1 := Va.out.c1
  go_wp2_with fail
  refine (HW.out _ Va.out.arg).mono ?_
  rintro e x4 ⟨m4, A4, l4, c4, ws4, e4, rfl, ha4, hb4, hp4⟩
  clear kVa0 kVa1
  have Va' := Lib.hid (Va.out.on hb4)
  clear Va
  have Va := Va'
  clear Va'
  have Vb' := Lib.hid (Vb.out.on hb4)
  clear Vb
  have Vb := Vb'
  clear Vb'
  have HB' := Lib.hid (HB.out.trans (hb4.mono HB.out.size))
  clear HB
  have HB := HB'
  clear HB'
  have hltVa := Va.out.blk.lt
  have hltVb := Vb.out.blk.lt
  have kVa0 := Va.out.c0
  have kVa1 := Va.out.c1
  have kVb0 := Vb.out.c0
  have kVb1 := Vb.out.c1
  have Va' := Lib.hid (Va.out.on ((Below.refl _ _).alloc (Nat.le_refl _) (.cells #[.int .i64 m4, .slice A4 l4 c4] 24)))
  clear Va
  have Va := Va'
  clear Va'
  have Vb' := Lib.hid (Vb.out.on ((Below.refl _ _).alloc (Nat.le_refl _) (.cells #[.int .i64 m4, .slice A4 l4 c4] 24)))
  clear Vb
  have Vb := Vb'
  clear Vb'
  have HB' := Lib.hid (HB.out.trans (((Below.refl _ _).alloc (Nat.le_refl _) (.cells #[.int .i64 m4, .slice A4 l4 c4] 24)).mono HB.out.size))
  clear HB
  have HB := HB'
  clear HB'
  have V4 := Lib.hid (SetVar.new ha4)
  have P4 := Lib.hid hp4
  clear ha4 hb4 hp4
  go_wp2_with fail
  clear hltVa
  clear hltVb
  refine (HC.out _ Va.out.arg Vb.out.arg).mono ?_
  rintro e x5 ⟨m5, A5, l5, c5, ws5, e5, rfl, ha5, hb5, hp5⟩
  clear kVa0 kVa1 kVb0 kVb1
  have Va' := Lib.hid (Va.out.on hb5)
  clear Va
  have Va := Va'
  clear Va'
  have Vb' := Lib.hid (Vb.out.on hb5)
  clear Vb
  have Vb := Vb'
  clear Vb'
  have V4' := Lib.hid (V4.out.on hb5)
  clear V4
  have V4 := V4'
  clear V4'
  have HB' := Lib.hid (HB.out.trans (hb5.mono HB.out.size))
  clear HB
  have HB := HB'
  clear HB'
  have hltVa := Va.out.blk.lt
  have kVa0 := Va.out.c0
  have kVa1 := Va.out.c1
  have Va' := Lib.hid (Va.out.on ((Below.refl _ _).alloc (Nat.le_refl _) (.cells #[.int .i64 m5, .slice A5 l5 c5] 24)))
  clear Va
  have Va := Va'
  clear Va'
  have Vb' := Lib.hid (Vb.out.on ((Below.refl _ _).alloc (Nat.le_refl _) (.cells #[.int .i64 m5, .slice A5 l5 c5] 24)))
  clear Vb
  have Vb := Vb'
  clear Vb'
  have V4' := Lib.hid (V4.out.on ((Below.refl _ _).alloc (Nat.le_refl _) (.cells #[.int .i64 m5, .slice A5 l5 c5] 24)))
  clear V4
  have V4 := V4'
  clear V4'
  have HB' := Lib.hid (HB.out.trans (((Below.refl _ _).alloc (Nat.le_refl _) (.cells #[.int .i64 m5, .slice A5 l5 c5] 24)).mono HB.out.size))
  clear HB
  have HB := HB'
  clear HB'
  have V5 := Lib.hid (SetVar.new ha5)
  have P5 := Lib.hid hp5
  clear ha5 hb5 hp5
  go_wp2_with fail
  clear hltVa
  refine (HR1.out _ Va.out.arg).mono ?_
  rintro e x6 ⟨rfl, hb6⟩
  clear kVa0 kVa1
  have Va' := Lib.hid (Va.out.on hb6)
  clear Va
  have Va := Va'
  clear Va'
  have Vb' := Lib.hid (Vb.out.on hb6)
  clear Vb
  have Vb := Vb'
  clear Vb'
  have V4' := Lib.hid (V4.out.on hb6)
  clear V4
  have V4 := V4'
  clear V4'
  have V5' := Lib.hid (V5.out.on hb6)
  clear V5
  have V5 := V5'
  clear V5'
  have HB' := Lib.hid (HB.out.trans (hb6.mono HB.out.size))
  clear HB
  have HB := HB'
  clear HB'
  clear hb6
  have kV40 := V4.out.c0
  have kV41 := V4.out.c1
  go_wp2_with fail
  refine (HT1.out _ _ _ _ _ _ _ V4.out.arg P4.out).mono ?_
  rintro e x7 ⟨rfl, hb7⟩
  clear kV40 kV41
  have Va' := Lib.hid (Va.out.on hb7)
  clear Va
  have Va := Va'
  clear Va'
  have Vb' := Lib.hid (Vb.out.on hb7)
  clear Vb
  have Vb := Vb'
  clear Vb'
  have V4' := Lib.hid (V4.out.on hb7)
  clear V4
  have V4 := V4'
  clear V4'
  have V5' := Lib.hid (V5.out.on hb7)
  clear V5
  have V5 := V5'
  clear V5'
  have HB' := Lib.hid (HB.out.trans (hb7.mono HB.out.size))
  clear HB
  have HB := HB'
  clear HB'
  clear hb7
  have kV50 := V5.out.c0
  have kV51 := V5.out.c1
  go_wp2_with fail
  refine (HT1.out _ _ _ _ _ _ _ V5.out.arg P5.out).mono ?_
  rintro e x8 ⟨rfl, hb8⟩
  clear kV50 kV51
  have Va' := Lib.hid (Va.out.on hb8)
  clear Va
  have Va := Va'
  clear Va'
  have Vb' := Lib.hid (Vb.out.on hb8)
  clear Vb
  have Vb := Vb'
  clear Vb'
  have V4' := Lib.hid (V4.out.on hb8)
  clear V4
  have V4 := V4'
  clear V4'
  have V5' := Lib.hid (V5.out.on hb8)
  clear V5
  have V5 := V5'
  clear V5'
  have HB' := Lib.hid (HB.out.trans (hb8.mono HB.out.size))
  clear HB
  have HB := HB'
  clear HB'
  clear hb8
  go_wp2_with fail
  go_ret
  exact ⟨rfl, HB.out⟩
set_option maxRecDepth 100000 in
set_option maxHeartbeats 8000000 in
theorem swl_ox (n : Nat) (m2 : Int) (v : Int) (hv : v < 0 ∨ (¬ v < 0 ∧ (n : Int) ≤ v)) (one : Bool) (A1 A2 : Option Addr) (l1 l2 c1 c2 : Nat) (ws1 ws2 : List Nat) (w : World) (h1 : SetArg w (n : Nat) A1 l1 c1 ws1) (h2 : SetArg w m2 A2 l2 c2 ws2) (hg1 : greatB (n : Nat) l1 = false) (hg2 : greatB m2 l2 = false) (ok1 : SOk n ws1) (hno : srightB m2 ws2 = false ∨ (srightB m2 ws2 = true ∧ m2 ≠ (n : Nat))) :
    Calls Tryd.prog 3 #[setA (n : Nat) A1 l1 c1, setA m2 A2 l2 c2, .int .i64 v, .bool one] w fun e w' => e = .returned (.bool true) ∧ Below w.heap.size w w' := by
  have HAV := Lib.hid (fun W => alive5_any W)
  have HG1 := Lib.hid (fun W => great_any (n : Nat) A1 l1 c1 W)
  have HG2 := Lib.hid (fun W => great_any m2 A2 l2 c2 W)
  rw [hg1] at HG1
  rw [hg2] at HG2
  have hn16 := ok1.n16
  have hrr1 : srightB (n : Nat) ws1 = true := (sright_iff ok1.lt).2 ⟨by omega, by simpa using ok1⟩
  have ha : askC (n : Nat) ws1 v = 3 := by unfold askC; rw [hrr1, if_pos rfl, if_neg (by omega)]
  have HW := Lib.hid (fun W (h1 : SetArg W (n : Nat) A1 l1 c1 ws1) => (sWith_no (n : Nat) v one A1 l1 c1 ws1 W h1 (by rw [ha]; omega)).mono fun _ _ h => SetErr.ans (ha ▸ h) (by omega) (by omega) 0 [])
  have hp : pairB (n : Nat) m2 ws1 ws2 = false := by
    unfold pairB
    rcases hno with h | ⟨_, h⟩
    · rw [h]; simp
    · rw [decide_eq_false (fun e => h e.symm), Bool.and_false]
  have HC := Lib.hid (fun W (h1 : SetArg W (n : Nat) A1 l1 c1 ws1) (h2 : SetArg W m2 A2 l2 c2 ws2) => (sComp_no (n : Nat) m2 v A1 A2 l1 l2 c1 c2 ws1 ws2 W h1 h2 1 (.inl ⟨hp, rfl⟩)).mono fun _ _ h => h.ans (by omega) (by omega) 0 [])
  have HR1 := Lib.hid (fun W (h1 : SetArg W (n : Nat) A1 l1 c1 ws1) => rright_any (n : Nat) A1 l1 c1 ws1 W h1)
  rw [hrr1] at HR1
  have HR2 := Lib.hid (fun W (h1 : SetArg W m2 A2 l2 c2 ws2) => rright_any m2 A2 l2 c2 ws2 W h1)
  have HT1 := Lib.hid (fun W m A len c ws er (h1 : SetArg W m A len c ws) (h2 : Ans 0 1 [] m len ws er) => told_ans (B := none) (l2 := 0) (c2 := 0) h1 h2 (by intro h; cases h))
  have HT3 := Lib.hid (fun W m A len c ws er (h1 : SetArg W m A len c ws) (h2 : Ans 0 3 [] m len ws er) => told_ans (B := none) (l2 := 0) (c2 := 0) h1 h2 (by intro h; cases h))
  have HT0 := Lib.hid (fun W t m A len c ws er B c2 (h1 : SetArg W m A len c ws) (h2 : Ans n 0 t m len ws er) (h3 : TabArg W B (2 ^ n) c2 t) => told_ans (B := B) (l2 := 2 ^ n) (c2 := c2) h1 h2 (fun _ => ⟨h3.hlen.symm, h3.row⟩))
  have HTB1 := Lib.hid (fun W (h : SetArg W (n : Nat) A1 l1 c1 ws1) => rtable_tab n A1 l1 c1 ws1 W h ok1)
  unfold SetAns setA at *
  generalize tabS n ws1 = t1 at *
  generalize 2 ^ n = N at *
  obtain ⟨W0, hW0⟩ : ∃ W0, W0 = ((w.alloc (.cells #[.int .i64 ((n : Nat)), .slice A1 l1 c1] 24)).alloc (.cells #[.int .i64 (m2), .slice A2 l2 c2] 24)) := ⟨_, rfl⟩
  have hb0 : Below w.heap.size w W0 := by rw [hW0]; exact (((Below.refl _ _).alloc (by simp) (.cells #[.int .i64 ((n : Nat)), .slice A1 l1 c1] 24)).alloc (by simp) (.cells #[.int .i64 (m2), .slice A2 l2 c2] 24))
  have hv0 : SetVar W0 (w.heap.size) ((n : Nat)) A1 l1 c1 ws1 := by
    have := SetVar.new h1
    rw [hW0]; exact (this.alloc _)
  have hv1 : SetVar W0 (w.heap.size + 1) (m2) A2 l2 c2 ws2 := by
    have := SetVar.new (h2.alloc (.cells #[.int .i64 ((n : Nat)), .slice A1 l1 c1] 24))
    simp only [World.size_alloc] at this
    rw [hW0]; exact this
  have HWW := Lib.hid hW0
  have HB := Lib.hid hb0
  have Va := Lib.hid hv0
  have Vb := Lib.hid hv1
  clear hb0 hv0 hv1 h1 h2 hg1 hg2 hrr1 hn16 ha hp ok1
  go_enter Tryd.func3, Tryd.ntmps3
  go_wp2_with fail
  rw [← HWW.out]
  clear hW0
  go_wp2_with fail
  refine (HAV.out _).mono ?_
  rintro e x1 ⟨rfl, hb1⟩
  have Va' := Lib.hid (Va.out.on hb1)
  clear Va
  have Va := Va'
  clear Va'
  have Vb' := Lib.hid (Vb.out.on hb1)
  clear Vb
  have Vb := Vb'
  clear Vb'
  have HB' := Lib.hid (HB.out.trans (hb1.mono HB.out.size))
  clear HB
  have HB := HB'
  clear HB'
  clear hb1
  have kVa0 := Va.out.c0
  have kVa1 := Va.out.c1
  go_wp2_with fail
  refine (HG1.out _).mono ?_
  rintro e x2 ⟨rfl, hb2⟩
  clear kVa0 kVa1
  have Va' := Lib.hid (Va.out.on hb2)
  clear Va
  have Va := Va'
  clear Va'
  have Vb' := Lib.hid (Vb.out.on hb2)
  clear Vb
  have Vb := Vb'
  clear Vb'
  have HB' := Lib.hid (HB.out.trans (hb2.mono HB.out.size))
  clear HB
  have HB := HB'
  clear HB'
  clear hb2
  have kVb0 := Vb.out.c0
  have kVb1 := Vb.out.c1
  go_wp2_with fail
  refine (HG2.out _).mono ?_
  rintro e x3 ⟨rfl, hb3⟩
  clear kVb0 kVb1
  have Va' := Lib.hid (Va.out.on hb3)
  clear Va
  have Va := Va'
  clear Va'
  have Vb' := Lib.hid (Vb.out.on hb3)
  clear Vb
  have Vb := Vb'
  clear Vb'
  have HB' := Lib.hid (HB.out.trans (hb3.mono HB.out.size))
  clear HB
  have HB := HB'
  clear HB'
  clear hb3
  have kVa0 := Va.out.c0
  have kVa1 := Va.out.c1
  go_wp2_with fail
  refine (HW.out _ Va.out.arg).mono ?_
  rintro e x4 ⟨m4, A4, l4, c4, ws4, e4, rfl, ha4, hb4, hp4⟩
  clear kVa0 kVa1
  have Va' := Lib.hid (Va.out.on hb4)
  clear Va
  have Va := Va'
  clear Va'
  have Vb' := Lib.hid (Vb.out.on hb4)
  clear Vb
  have Vb := Vb'
  clear Vb'
  have HB' := Lib.hid (HB.out.trans (hb4.mono HB.out.size))
  clear HB
  have HB := HB'
  clear HB'
  have hltVa := Va.out.blk.lt
  have hltVb := Vb.out.blk.lt
  have kVa0 := Va.out.c0
  have kVa1 := Va.out.c1
  have kVb0 := Vb.out.c0
  have kVb1 := Vb.out.c1
  have Va' := Lib.hid (Va.out.on ((Below.refl _ _).alloc (Nat.le_refl _) (.cells #[.int .i64 m4, .slice A4 l4 c4] 24)))
  clear Va
  have Va := Va'
  clear Va'
  have Vb' := Lib.hid (Vb.out.on ((Below.refl _ _).alloc (Nat.le_refl _) (.cells #[.int .i64 m4, .slice A4 l4 c4] 24)))
  clear Vb
  have Vb := Vb'
  clear Vb'
  have HB' := Lib.hid (HB.out.trans (((Below.refl _ _).alloc (Nat.le_refl _) (.cells #[.int .i64 m4, .slice A4 l4 c4] 24)).mono HB.out.size))
  clear HB
  have HB := HB'
  clear HB'
  have V4 := Lib.hid (SetVar.new ha4)
  have P4 := Lib.hid hp4
  clear ha4 hb4 hp4
  go_wp2_with fail
  clear hltVa
  clear hltVb
  refine (HC.out _ Va.out.arg Vb.out.arg).mono ?_
  rintro e x5 ⟨m5, A5, l5, c5, ws5, e5, rfl, ha5, hb5, hp5⟩
  clear kVa0 kVa1 kVb0 kVb1
  have Va' := Lib.hid (Va.out.on hb5)
  clear Va
  have Va := Va'
  clear Va'
  have Vb' := Lib.hid (Vb.out.on hb5)
  clear Vb
  have Vb := Vb'
  clear Vb'
  have V4' := Lib.hid (V4.out.on hb5)
  clear V4
  have V4 := V4'
  clear V4'
  have HB' := Lib.hid (HB.out.trans (hb5.mono HB.out.size))
  clear HB
  have HB := HB'
  clear HB'
  have hltVa := Va.out.blk.lt
  have kVa0 := Va.out.c0
  have kVa1 := Va.out.c1
  have Va' := Lib.hid (Va.out.on ((Below.refl _ _).alloc (Nat.le_refl _) (.cells #[.int .i64 m5, .slice A5 l5 c5] 24)))
  clear Va
  have Va := Va'
  clear Va'
  have Vb' := Lib.hid (Vb.out.on ((Below.refl _ _).alloc (Nat.le_refl _) (.cells #[.int .i64 m5, .slice A5 l5 c5] 24)))
  clear Vb
  have Vb := Vb'
  clear Vb'
  have V4' := Lib.hid (V4.out.on ((Below.refl _ _).alloc (Nat.le_refl _) (.cells #[.int .i64 m5, .slice A5 l5 c5] 24)))
  clear V4
  have V4 := V4'
  clear V4'
  have HB' := Lib.hid (HB.out.trans (((Below.refl _ _).alloc (Nat.le_refl _) (.cells #[.int .i64 m5, .slice A5 l5 c5] 24)).mono HB.out.size))
  clear HB
  have HB := HB'
  clear HB'
  have V5 := Lib.hid (SetVar.new ha5)
  have P5 := Lib.hid hp5
  clear ha5 hb5 hp5
  go_wp2_with fail
  clear hltVa
  refine (HR1.out _ Va.out.arg).mono ?_
  rintro e x6 ⟨rfl, hb6⟩
  clear kVa0 kVa1
  have Va' := Lib.hid (Va.out.on hb6)
  clear Va
  have Va := Va'
  clear Va'
  have Vb' := Lib.hid (Vb.out.on hb6)
  clear Vb
  have Vb := Vb'
  clear Vb'
  have V4' := Lib.hid (V4.out.on hb6)
  clear V4
  have V4 := V4'
  clear V4'
  have V5' := Lib.hid (V5.out.on hb6)
  clear V5
  have V5 := V5'
  clear V5'
  have HB' := Lib.hid (HB.out.trans (hb6.mono HB.out.size))
  clear HB
  have HB := HB'
  clear HB'
  clear hb6
  have kVa0 := Va.out.c0
  have kVa1 := Va.out.c1
  go_wp2_with fail
  rcases hv with hv | ⟨hv0, hv⟩
  · skip
    refine (HTB1.out _ Va.out.arg).mono ?_
    rintro e x7 ⟨B7, d7, rfl, ht7, hb7⟩
    clear kVa0 kVa1
    have Va' := Lib.hid (Va.out.on hb7)
    clear Va
    have Va := Va'
    clear Va'
    have Vb' := Lib.hid (Vb.out.on hb7)
    clear Vb
    have Vb := Vb'
    clear Vb'
    have V4' := Lib.hid (V4.out.on hb7)
    clear V4
    have V4 := V4'
    clear V4'
    have V5' := Lib.hid (V5.out.on hb7)
    clear V5
    have V5 := V5'
    clear V5'
    have HB' := Lib.hid (HB.out.trans (hb7.mono HB.out.size))
    clear HB
    have HB := HB'
    clear HB'
    have TA := Lib.hid ht7
    clear ht7 hb7
    have kVa0 := Va.out.c0
    have kVa1 := Va.out.c1
    have kV40 := V4.out.c0
    have kV41 := V4.out.c1
    go_wp2_with fail
    refine (HT3.out _ _ _ _ _ _ _ V4.out.arg P4.out).mono ?_
    rintro e x8 ⟨rfl, hb8⟩
    clear kVa0 kVa1 kV40 kV41
    have Va' := Lib.hid (Va.out.on hb8)
    clear Va
    have Va := Va'
    clear Va'
    have Vb' := Lib.hid (Vb.out.on hb8)
    clear Vb
    have Vb := Vb'
    clear Vb'
    have V4' := Lib.hid (V4.out.on hb8)
    clear V4
    have V4 := V4'
    clear V4'
    have V5' := Lib.hid (V5.out.on hb8)
    clear V5
    have V5 := V5'
    clear V5'
    have TA' := Lib.hid (TA.out.on hb8)
    clear TA
    have TA := TA'
    clear TA'
    have HB' := Lib.hid (HB.out.trans (hb8.mono HB.out.size))
    clear HB
    have HB := HB'
    clear HB'
    clear hb8
    have kVb0 := Vb.out.c0
    have kVb1 := Vb.out.c1
    go_wp2_with fail
    rcases hno with h3 | ⟨h3, hne⟩
    · rw [h3] at HR2
      clear h3
      refine (HR2.out _ Vb.out.arg).mono ?_
      rintro e x9 ⟨rfl, hb9⟩
      clear kVb0 kVb1
      have Va' := Lib.hid (Va.out.on hb9)
      clear Va
      have Va := Va'
      clear Va'
      have Vb' := Lib.hid (Vb.out.on hb9)
      clear Vb
      have Vb := Vb'
      clear Vb'
      have V4' := Lib.hid (V4.out.on hb9)
      clear V4
      have V4 := V4'
      clear V4'
      have V5' := Lib.hid (V5.out.on hb9)
      clear V5
      have V5 := V5'
      clear V5'
      have TA' := Lib.hid (TA.out.on hb9)
      clear TA
      have TA := TA'
      clear TA'
      have HB' := Lib.hid (HB.out.trans (hb9.mono HB.out.size))
      clear HB
      have HB := HB'
      clear HB'
      clear hb9
      have kV50 := V5.out.c0
      have kV51 := V5.out.c1
      go_wp2_with fail
      refine (HT1.out _ _ _ _ _ _ _ V5.out.arg P5.out).mono ?_
      rintro e x10 ⟨rfl, hb10⟩
      clear kV50 kV51
      have Va' := Lib.hid (Va.out.on hb10)
      clear Va
      have Va := Va'
      clear Va'
      have Vb' := Lib.hid (Vb.out.on hb10)
      clear Vb
      have Vb := Vb'
      clear Vb'
      have V4' := Lib.hid (V4.out.on hb10)
      clear V4
      have V4 := V4'
      clear V4'
      have V5' := Lib.hid (V5.out.on hb10)
      clear V5
      have V5 := V5'
      clear V5'
      have TA' := Lib.hid (TA.out.on hb10)
      clear TA
      have TA := TA'
      clear TA'
      have HB' := Lib.hid (HB.out.trans (hb10.mono HB.out.size))
      clear HB
      have HB := HB'
      clear HB'
      clear hb10
      go_wp2_with fail
      go_ret
      exact ⟨rfl, HB.out⟩
    · rw [h3] at HR2
      clear h3
      have hbne : (m2 != (n : Int)) = true := by rw [bne_iff_ne]; exact hne
      refine (HR2.out _ Vb.out.arg).mono ?_
      rintro e x9 ⟨rfl, hb9⟩
      clear kVb0 kVb1
      have Va' := Lib.hid (Va.out.on hb9)
      clear Va
      have Va := Va'
      clear Va'
      have Vb' := Lib.hid (Vb.out.on hb9)
      clear Vb
      have Vb := Vb'
      clear Vb'
      have V4' := Lib.hid (V4.out.on hb9)
      clear V4
      have V4 := V4'
      clear V4'
      have V5' := Lib.hid (V5.out.on hb9)
      clear V5
      have V5 := V5'
      clear V5'
      have TA' := Lib.hid (TA.out.on hb9)
      clear TA
      have TA := TA'
      clear TA'
      have HB' := Lib.hid (HB.out.trans (hb9.mono HB.out.size))
      clear HB
      have HB := HB'
      clear HB'
      clear hb9
      have kVa0 := Va.out.c0
      have kVa1 := Va.out.c1
      have kVb0 := Vb.out.c0
      have kVb1 := Vb.out.c1
      have kV50 := V5.out.c0
      have kV51 := V5.out.c1
      go_wp2_with fail
      refine (HT1.out _ _ _ _ _ _ _ V5.out.arg P5.out).mono ?_
      rintro e x10 ⟨rfl, hb10⟩
      clear kVa0 kVa1 kVb0 kVb1 kV50 kV51
      have Va' := Lib.hid (Va.out.on hb10)
      clear Va
      have Va := Va'
      clear Va'
      have Vb' := Lib.hid (Vb.out.on hb10)
      clear Vb
      have Vb := Vb'
      clear Vb'
      have V4' := Lib.hid (V4.out.on hb10)
      clear V4
      have V4 := V4'
      clear V4'
      have V5' := Lib.hid (V5.out.on hb10)
      clear V5
      have V5 := V5'
      clear V5'
      have TA' := Lib.hid (TA.out.on hb10)
      clear TA
      have TA := TA'
      clear TA'
      have HB' := Lib.hid (HB.out.trans (hb10.mono HB.out.size))
      clear HB
      have HB := HB'
      clear HB'
      clear hb10
      go_wp2_with fail
      go_ret
      exact ⟨rfl, HB.out⟩
  · skip
    refine (HTB1.out _ Va.out.arg).mono ?_
    rintro e x7 ⟨B7, d7, rfl, ht7, hb7⟩
    clear kVa0 kVa1
    have Va' := Lib.hid (Va.out.on hb7)
    clear Va
    have Va := Va'
    clear Va'
    have Vb' := Lib.hid (Vb.out.on hb7)
    clear Vb
    have Vb := Vb'
    clear Vb'
    have V4' := Lib.hid (V4.out.on hb7)
    clear V4
    have V4 := V4'
    clear V4'
    have V5' := Lib.hid (V5.out.on hb7)
    clear V5
    have V5 := V5'
    clear V5'
    have HB' := Lib.hid (HB.out.trans (hb7.mono HB.out.size))
    clear HB
    have HB := HB'
    clear HB'
    have TA := Lib.hid ht7
    clear ht7 hb7
    have kVa0 := Va.out.c0
    have kVa1 := Va.out.c1
    have kV40 := V4.out.c0
    have kV41 := V4.out.c1
    go_wp2_with fail
    refine (HT3.out _ _ _ _ _ _ _ V4.out.arg P4.out).mono ?_
    rintro e x8 ⟨rfl, hb8⟩
    clear kVa0 kVa1 kV40 kV41
    have Va' := Lib.hid (Va.out.on hb8)
    clear Va
    have Va := Va'
    clear Va'
    have Vb' := Lib.hid (Vb.out.on hb8)
    clear Vb
    have Vb := Vb'
    clear Vb'
    have V4' := Lib.hid (V4.out.on hb8)
    clear V4
    have V4 := V4'
    clear V4'
    have V5' := Lib.hid (V5.out.on hb8)
    clear V5
    have V5 := V5'
    clear V5'
    have TA' := Lib.hid (TA.out.on hb8)
    clear TA
    have TA := TA'
    clear TA'
    have HB' := Lib.hid (HB.out.trans (hb8.mono HB.out.size))
    clear HB
    have HB := HB'
    clear HB'
    clear hb8
    have kVb0 := Vb.out.c0
    have kVb1 := Vb.out.c1
    go_wp2_with fail
    rcases hno with h3 | ⟨h3, hne⟩
    · rw [h3] at HR2
      clear h3
      refine (HR2.out _ Vb.out.arg).mono ?_
      rintro e x9 ⟨rfl, hb9⟩
      clear kVb0 kVb1
      have Va' := Lib.hid (Va.out.on hb9)
      clear Va
      have Va := Va'
      clear Va'
      have Vb' := Lib.hid (Vb.out.on hb9)
      clear Vb
      have Vb := Vb'
      clear Vb'
      have V4' := Lib.hid (V4.out.on hb9)
      clear V4
      have V4 := V4'
      clear V4'
      have V5' := Lib.hid (V5.out.on hb9)
      clear V5
      have V5 := V5'
      clear V5'
      have TA' := Lib.hid (TA.out.on hb9)
      clear TA
      have TA := TA'
      clear TA'
      have HB' := Lib.hid (HB.out.trans (hb9.mono HB.out.size))
      clear HB
      have HB := HB'
      clear HB'
      clear hb9
      have kV50 := V5.out.c0
      have kV51 := V5.out.c1
      go_wp2_with fail
      refine (HT1.out _ _ _ _ _ _ _ V5.out.arg P5.out).mono ?_
      rintro e x10 ⟨rfl, hb10⟩
      clear kV50 kV51
      have Va' := Lib.hid (Va.out.on hb10)
      clear Va
      have Va := Va'
      clear Va'
      have Vb' := Lib.hid (Vb.out.on hb10)
      clear Vb
      have Vb := Vb'
      clear Vb'
      have V4' := Lib.hid (V4.out.on hb10)
      clear V4
      have V4 := V4'
      clear V4'
      have V5' := Lib.hid (V5.out.on hb10)
      clear V5
      have V5 := V5'
      clear V5'
      have TA' := Lib.hid (TA.out.on hb10)
      clear TA
      have TA := TA'
      clear TA'
      have HB' := Lib.hid (HB.out.trans (hb10.mono HB.out.size))
      clear HB
      have HB := HB'
      clear HB'
      clear hb10
      go_wp2_with fail
      go_ret
      exact ⟨rfl, HB.out⟩
    · rw [h3] at HR2
      clear h3
      have hbne : (m2 != (n : Int)) = true := by rw [bne_iff_ne]; exact hne
      refine (HR2.out _ Vb.out.arg).mono ?_
      rintro e x9 ⟨rfl, hb9⟩
      clear kVb0 kVb1
      have Va' := Lib.hid (Va.out.on hb9)
      clear Va
      have Va := Va'
      clear Va'
      have Vb' := Lib.hid (Vb.out.on hb9)
      clear Vb
      have Vb := Vb'
      clear Vb'
      have V4' := Lib.hid (V4.out.on hb9)
      clear V4
      have V4 := V4'
      clear V4'
      have V5' := Lib.hid (V5.out.on hb9)
      clear V5
      have V5 := V5'
      clear V5'
      have TA' := Lib.hid (TA.out.on hb9)
      clear TA
      have TA := TA'
      clear TA'
      have HB' := Lib.hid (HB.out.trans (hb9.mono HB.out.size))
      clear HB
      have HB := HB'
      clear HB'
      clear hb9
      have kVa0 := Va.out.c0
      have kVa1 := Va.out.c1
      have kVb0 := Vb.out.c0
      have kVb1 := Vb.out.c1
      have kV50 := V5.out.c0
      have kV51 := V5.out.c1
      go_wp2_with fail
      refine (HT1.out _ _ _ _ _ _ _ V5.out.arg P5.out).mono ?_
      rintro e x10 ⟨rfl, hb10⟩
      clear kVa0 kVa1 kVb0 kVb1 kV50 kV51
      have Va' := Lib.hid (Va.out.on hb10)
      clear Va
      have Va := Va'
      clear Va'
      have Vb' := Lib.hid (Vb.out.on hb10)
      clear Vb
      have Vb := Vb'
      clear Vb'
      have V4' := Lib.hid (V4.out.on hb10)
      clear V4
      have V4 := V4'
      clear V4'
      have V5' := Lib.hid (V5.out.on hb10)
      clear V5
      have V5 := V5'
      clear V5'
      have TA' := Lib.hid (TA.out.on hb10)
      clear TA
      have TA := TA'
      clear TA'
      have HB' := Lib.hid (HB.out.trans (hb10.mono HB.out.size))
      clear HB
      have HB := HB'
      clear HB'
      clear hb10
      go_wp2_with fail
      go_ret
      exact ⟨rfl, HB.out⟩
set_option maxRecDepth 100000 in
set_option maxHeartbeats 8000000 in
theorem swl_og (n : Nat) (v : Int) (hv : v < 0 ∨ (¬ v < 0 ∧ (n : Int) ≤ v)) (one : Bool) (A1 A2 : Option Addr) (l1 l2 c1 c2 : Nat) (ws1 ws2 : List Nat) (w : World) (h1 : SetArg w (n : Nat) A1 l1 c1 ws1) (h2 : SetArg w (n : Nat) A2 l2 c2 ws2) (hg1 : greatB (n : Nat) l1 = false) (hg2 : greatB (n : Nat) l2 = false) (ok1 : SOk n ws1) (ok2 : SOk n ws2) :
    Calls Tryd.prog 3 #[setA (n : Nat) A1 l1 c1, setA (n : Nat) A2 l2 c2, .int .i64 v, .bool one] w fun e w' => e = .returned (.bool true) ∧ Below w.heap.size w w' := by
  have HAV := Lib.hid (fun W => alive5_any W)
  have HG1 := Lib.hid (fun W => great_any (n : Nat) A1 l1 c1 W)
  have HG2 := Lib.hid (fun W => great_any (n : Nat) A2 l2 c2 W)
  rw [hg1] at HG1
  rw [hg2] at HG2
  have hn16 := ok1.n16
  have hrr1 : srightB (n : Nat) ws1 = true := (sright_iff ok1.lt).2 ⟨by omega, by simpa using ok1⟩
  have ha : askC (n : Nat) ws1 v = 3 := by unfold askC; rw [hrr1, if_pos rfl, if_neg (by omega)]
  have HW := Lib.hid (fun W (h1 : SetArg W (n : Nat) A1 l1 c1 ws1) => (sWith_no (n : Nat) v one A1 l1 c1 ws1 W h1 (by rw [ha]; omega)).mono fun _ _ h => SetErr.ans (ha ▸ h) (by omega) (by omega) 0 [])
  have hrr2 : srightB (n : Nat) ws2 = true := (sright_iff ok2.lt).2 ⟨by omega, by simpa using ok2⟩
  have HC := Lib.hid (fun W (h1 : SetArg W (n : Nat) A1 l1 c1 ws1) (h2 : SetArg W (n : Nat) A2 l2 c2 ws2) => (sComp_no (n : Nat) (n : Nat) v A1 A2 l1 l2 c1 c2 ws1 ws2 W h1 h2 3 (.inr ⟨pair_ok ok1 ok2, ha, by omega⟩)).mono fun _ _ h => h.ans (by omega) (by omega) 0 [])
  have HR1 := Lib.hid (fun W (h1 : SetArg W (n : Nat) A1 l1 c1 ws1) => rright_any (n : Nat) A1 l1 c1 ws1 W h1)
  rw [hrr1] at HR1
  have HR2 := Lib.hid (fun W (h1 : SetArg W (n : Nat) A2 l2 c2 ws2) => rright_any (n : Nat) A2 l2 c2 ws2 W h1)
  rw [hrr2] at HR2
  have HT1 := Lib.hid (fun W m A len c ws er (h1 : SetArg W m A len c ws) (h2 : Ans 0 1 [] m len ws er) => told_ans (B := none) (l2 := 0) (c2 := 0) h1 h2 (by intro h; cases h))
  have HT3 := Lib.hid (fun W m A len c ws er (h1 : SetArg W m A len c ws) (h2 : Ans 0 3 [] m len ws er) => told_ans (B := none) (l2 := 0) (c2 := 0) h1 h2 (by intro h; cases h))
  have HT0 := Lib.hid (fun W t m A len c ws er B c2 (h1 : SetArg W m A len c ws) (h2 : Ans n 0 t m len ws er) (h3 : TabArg W B (2 ^ n) c2 t) => told_ans (B := B) (l2 := 2 ^ n) (c2 := c2) h1 h2 (fun _ => ⟨h3.hlen.symm, h3.row⟩))
  have HTB1 := Lib.hid (fun W (h : SetArg W (n : Nat) A1 l1 c1 ws1) => rtable_tab n A1 l1 c1 ws1 W h ok1)
  have HTB2 := Lib.hid (fun W (h : SetArg W (n : Nat) A2 l2 c2 ws2) => rtable_tab n A2 l2 c2 ws2 W h ok2)
  unfold SetAns setA at *
  generalize tabS n ws1 = t1 at *
  generalize tabS n ws2 = t2 at *
  generalize 2 ^ n = N at *
  obtain ⟨W0, hW0⟩ : ∃ W0, W0 = ((w.alloc (.cells #[.int .i64 ((n : Nat)), .slice A1 l1 c1] 24)).alloc (.cells #[.int .i64 ((n : Nat)), .slice A2 l2 c2] 24)) := ⟨_, rfl⟩
  have hb0 : Below w.heap.size w W0 := by rw [hW0]; exact (((Below.refl _ _).alloc (by simp) (.cells #[.int .i64 ((n : Nat)), .slice A1 l1 c1] 24)).alloc (by simp) (.cells #[.int .i64 ((n : Nat)), .slice A2 l2 c2] 24))
  have hv0 : SetVar W0 (w.heap.size) ((n : Nat)) A1 l1 c1 ws1 := by
    have := SetVar.new h1
    rw [hW0]; exact (this.alloc _)
  have hv1 : SetVar W0 (w.heap.size + 1) ((n : Nat)) A2 l2 c2 ws2 := by
    have := SetVar.new (h2.alloc (.cells #[.int .i64 ((n : Nat)), .slice A1 l1 c1] 24))
    simp only [World.size_alloc] at this
    rw [hW0]; exact this
  have HWW := Lib.hid hW0
  have HB := Lib.hid hb0
  have Va := Lib.hid hv0
  have Vb := Lib.hid hv1
  clear hb0 hv0 hv1 h1 h2 hg1 hg2 hrr1 hn16 ha hrr2 ok2 ok1
  go_enter Tryd.func3, Tryd.ntmps3
  go_wp2_with fail
  rw [← HWW.out]
  clear hW0
  go_wp2_with fail
  refine (HAV.out _).mono ?_
  rintro e x1 ⟨rfl, hb1⟩
  have Va' := Lib.hid (Va.out.on hb1)
  clear Va
  have Va := Va'
  clear Va'
  have Vb' := Lib.hid (Vb.out.on hb1)
  clear Vb
  have Vb := Vb'
  clear Vb'
  have HB' := Lib.hid (HB.out.trans (hb1.mono HB.out.size))
  clear HB
  have HB := HB'
  clear HB'
  clear hb1
  have kVa0 := Va.out.c0
  have kVa1 := Va.out.c1
  go_wp2_with fail
  refine (HG1.out _).mono ?_
  rintro e x2 ⟨rfl, hb2⟩
  clear kVa0 kVa1
  have Va' := Lib.hid (Va.out.on hb2)
  clear Va
  have Va := Va'
  clear Va'
  have Vb' := Lib.hid (Vb.out.on hb2)
  clear Vb
  have Vb := Vb'
  clear Vb'
  have HB' := Lib.hid (HB.out.trans (hb2.mono HB.out.size))
  clear HB
  have HB := HB'
  clear HB'
  clear hb2
  have kVb0 := Vb.out.c0
  have kVb1 := Vb.out.c1
  go_wp2_with fail
  refine (HG2.out _).mono ?_
  rintro e x3 ⟨rfl, hb3⟩
  clear kVb0 kVb1
  have Va' := Lib.hid (Va.out.on hb3)
  clear Va
  have Va := Va'
  clear Va'
  have Vb' := Lib.hid (Vb.out.on hb3)
  clear Vb
  have Vb := Vb'
  clear Vb'
  have HB' := Lib.hid (HB.out.trans (hb3.mono HB.out.size))
  clear HB
  have HB := HB'
  clear HB'
  clear hb3
  have kVa0 := Va.out.c0
  have kVa1 := Va.out.c1
  go_wp2_with fail
  refine (HW.out _ Va.out.arg).mono ?_
  rintro e x4 ⟨m4, A4, l4, c4, ws4, e4, rfl, ha4, hb4, hp4⟩
  clear kVa0 kVa1
  have Va' := Lib.hid (Va.out.on hb4)
  clear Va
  have Va := Va'
  clear Va'
  have Vb' := Lib.hid (Vb.out.on hb4)
  clear Vb
  have Vb := Vb'
  clear Vb'
  have HB' := Lib.hid (HB.out.trans (hb4.mono HB.out.size))
  clear HB
  have HB := HB'
  clear HB'
  have hltVa := Va.out.blk.lt
  have hltVb := Vb.out.blk.lt
  have kVa0 := Va.out.c0
  have kVa1 := Va.out.c1
  have kVb0 := Vb.out.c0
  have kVb1 := Vb.out.c1
  have Va' := Lib.hid (Va.out.on ((Below.refl _ _).alloc (Nat.le_refl _) (.cells #[.int .i64 m4, .slice A4 l4 c4] 24)))
  clear Va
  have Va := Va'
  clear Va'
  have Vb' := Lib.hid (Vb.out.on ((Below.refl _ _).alloc (Nat.le_refl _) (.cells #[.int .i64 m4, .slice A4 l4 c4] 24)))
  clear Vb
  have Vb := Vb'
  clear Vb'
  have HB' := Lib.hid (HB.out.trans (((Below.refl _ _).alloc (Nat.le_refl _) (.cells #[.int .i64 m4, .slice A4 l4 c4] 24)).mono HB.out.size))
  clear HB
  have HB := HB'
  clear HB'
  have V4 := Lib.hid (SetVar.new ha4)
  have P4 := Lib.hid hp4
  clear ha4 hb4 hp4
  go_wp2_with fail
  clear hltVa
  clear hltVb
  refine (HC.out _ Va.out.arg Vb.out.arg).mono ?_
  rintro e x5 ⟨m5, A5, l5, c5, ws5, e5, rfl, ha5, hb5, hp5⟩
  clear kVa0 kVa1 kVb0 kVb1
  have Va' := Lib.hid (Va.out.on hb5)
  clear Va
  have Va := Va'
  clear Va'
  have Vb' := Lib.hid (Vb.out.on hb5)
  clear Vb
  have Vb := Vb'
  clear Vb'
  have V4' := Lib.hid (V4.out.on hb5)
  clear V4
  have V4 := V4'
  clear V4'
  have HB' := Lib.hid (HB.out.trans (hb5.mono HB.out.size))
  clear HB
  have HB := HB'
  clear HB'
  have hltVa := Va.out.blk.lt
  have kVa0 := Va.out.c0
  have kVa1 := Va.out.c1
  have Va' := Lib.hid (Va.out.on ((Below.refl _ _).alloc (Nat.le_refl _) (.cells #[.int .i64 m5, .slice A5 l5 c5] 24)))
  clear Va
  have Va := Va'
  clear Va'
  have Vb' := Lib.hid (Vb.out.on ((Below.refl _ _).alloc (Nat.le_refl _) (.cells #[.int .i64 m5, .slice A5 l5 c5] 24)))
  clear Vb
  have Vb := Vb'
  clear Vb'
  have V4' := Lib.hid (V4.out.on ((Below.refl _ _).alloc (Nat.le_refl _) (.cells #[.int .i64 m5, .slice A5 l5 c5] 24)))
  clear V4
  have V4 := V4'
  clear V4'
  have HB' := Lib.hid (HB.out.trans (((Below.refl _ _).alloc (Nat.le_refl _) (.cells #[.int .i64 m5, .slice A5 l5 c5] 24)).mono HB.out.size))
  clear HB
  have HB := HB'
  clear HB'
  have V5 := Lib.hid (SetVar.new ha5)
  have P5 := Lib.hid hp5
  clear ha5 hb5 hp5
  go_wp2_with fail
  clear hltVa
  refine (HR1.out _ Va.out.arg).mono ?_
  rintro e x6 ⟨rfl, hb6⟩
  clear kVa0 kVa1
  have Va' := Lib.hid (Va.out.on hb6)
  clear Va
  have Va := Va'
  clear Va'
  have Vb' := Lib.hid (Vb.out.on hb6)
  clear Vb
  have Vb := Vb'
  clear Vb'
  have V4' := Lib.hid (V4.out.on hb6)
  clear V4
  have V4 := V4'
  clear V4'
  have V5' := Lib.hid (V5.out.on hb6)
  clear V5
  have V5 := V5'
  clear V5'
  have HB' := Lib.hid (HB.out.trans (hb6.mono HB.out.size))
  clear HB
  have HB := HB'
  clear HB'
  clear hb6
  have kVa0 := Va.out.c0
  have kVa1 := Va.out.c1
  go_wp2_with fail
  rcases hv with hv | ⟨hv0, hv⟩
  · skip
    refine (HTB1.out _ Va.out.arg).mono ?_
    rintro e x7 ⟨B7, d7, rfl, ht7, hb7⟩
    clear kVa0 kVa1
    have Va' := Lib.hid (Va.out.on hb7)
    clear Va
    have Va := Va'
    clear Va'
    have Vb' := Lib.hid (Vb.out.on hb7)
    clear Vb
    have Vb := Vb'
    clear Vb'
    have V4' := Lib.hid (V4.out.on hb7)
    clear V4
    have V4 := V4'
    clear V4'
    have V5' := Lib.hid (V5.out.on hb7)
    clear V5
    have V5 := V5'
    clear V5'
    have HB' := Lib.hid (HB.out.trans (hb7.mono HB.out.size))
    clear HB
    have HB := HB'
    clear HB'
    have TA := Lib.hid ht7
    clear ht7 hb7
    have kVa0 := Va.out.c0
    have kVa1 := Va.out.c1
    have kV40 := V4.out.c0
    have kV41 := V4.out.c1
    go_wp2_with fail
    refine (HT3.out _ _ _ _ _ _ _ V4.out.arg P4.out).mono ?_
    rintro e x8 ⟨rfl, hb8⟩
    clear kVa0 kVa1 kV40 kV41
    have Va' := Lib.hid (Va.out.on hb8)
    clear Va
    have Va := Va'
    clear Va'
    have Vb' := Lib.hid (Vb.out.on hb8)
    clear Vb
    have Vb := Vb'
    clear Vb'
    have V4' := Lib.hid (V4.out.on hb8)
    clear V4
    have V4 := V4'
    clear V4'
    have V5' := Lib.hid (V5.out.on hb8)
    clear V5
    have V5 := V5'
    clear V5'
    have TA' := Lib.hid (TA.out.on hb8)
    clear TA
    have TA := TA'
    clear TA'
    have HB' := Lib.hid (HB.out.trans (hb8.mono HB.out.size))
    clear HB
    have HB := HB'
    clear HB'
    clear hb8
    have kVb0 := Vb.out.c0
    have kVb1 := Vb.out.c1
    go_wp2_with fail
    refine (HR2.out _ Vb.out.arg).mono ?_
    rintro e x9 ⟨rfl, hb9⟩
    clear kVb0 kVb1
    have Va' := Lib.hid (Va.out.on hb9)
    clear Va
    have Va := Va'
    clear Va'
    have Vb' := Lib.hid (Vb.out.on hb9)
    clear Vb
    have Vb := Vb'
    clear Vb'
    have V4' := Lib.hid (V4.out.on hb9)
    clear V4
    have V4 := V4'
    clear V4'
    have V5' := Lib.hid (V5.out.on hb9)
    clear V5
    have V5 := V5'
    clear V5'
    have TA' := Lib.hid (TA.out.on hb9)
    clear TA
    have TA := TA'
    clear TA'
    have HB' := Lib.hid (HB.out.trans (hb9.mono HB.out.size))
    clear HB
    have HB := HB'
    clear HB'
    clear hb9
    have kVa0 := Va.out.c0
    have kVa1 := Va.out.c1
    have kVb0 := Vb.out.c0
    have kVb1 := Vb.out.c1
    have kV50 := V5.out.c0
    have kV51 := V5.out.c1
    go_wp2_with fail
    refine (HT3.out _ _ _ _ _ _ _ V5.out.arg P5.out).mono ?_
    rintro e x10 ⟨rfl, hb10⟩
    clear kVa0 kVa1 kVb0 kVb1 kV50 kV51
    have Va' := Lib.hid (Va.out.on hb10)
    clear Va
    have Va := Va'
    clear Va'
    have Vb' := Lib.hid (Vb.out.on hb10)
    clear Vb
    have Vb := Vb'
    clear Vb'
    have V4' := Lib.hid (V4.out.on hb10)
    clear V4
    have V4 := V4'
    clear V4'
    have V5' := Lib.hid (V5.out.on hb10)
    clear V5
    have V5 := V5'
    clear V5'
    have TA' := Lib.hid (TA.out.on hb10)
    clear TA
    have TA := TA'
    clear TA'
    have HB' := Lib.hid (HB.out.trans (hb10.mono HB.out.size))
    clear HB
    have HB := HB'
    clear HB'
    clear hb10
    go_wp2_with fail
    go_ret
    exact ⟨rfl, HB.out⟩
  · skip
    refine (HTB1.out _ Va.out.arg).mono ?_
    rintro e x7 ⟨B7, d7, rfl, ht7, hb7⟩
    clear kVa0 kVa1
    have Va' := Lib.hid (Va.out.on hb7)
    clear Va
    have Va := Va'
    clear Va'
    have Vb' := Lib.hid (Vb.out.on hb7)
    clear Vb
    have Vb := Vb'
    clear Vb'
    have V4' := Lib.hid (V4.out.on hb7)
    clear V4
    have V4 := V4'
    clear V4'
    have V5' := Lib.hid (V5.out.on hb7)
    clear V5
    have V5 := V5'
    clear V5'
    have HB' := Lib.hid (HB.out.trans (hb7.mono HB.out.size))
    clear HB
    have HB := HB'
    clear HB'
    have TA := Lib.hid ht7
    clear ht7 hb7
    have kVa0 := Va.out.c0
    have kVa1 := Va.out.c1
    have kV40 := V4.out.c0
    have kV41 := V4.out.c1
    go_wp2_with fail
    refine (HT3.out _ _ _ _ _ _ _ V4.out.arg P4.out).mono ?_
    rintro e x8 ⟨rfl, hb8⟩
    clear kVa0 kVa1 kV40 kV41
    have Va' := Lib.hid (Va.out.on hb8)
    clear Va
    have Va := Va'
    clear Va'
    have Vb' := Lib.hid (Vb.out.on hb8)
    clear Vb
    have Vb := Vb'
    clear Vb'
    have V4' := Lib.hid (V4.out.on hb8)
    clear V4
    have V4 := V4'
    clear V4'
    have V5' := Lib.hid (V5.out.on hb8)
    clear V5
    have V5 := V5'
    clear V5'
    have TA' := Lib.hid (TA.out.on hb8)
    clear TA
    have TA := TA'
    clear TA'
    have HB' := Lib.hid (HB.out.trans (hb8.mono HB.out.size))
    clear HB
    have HB := HB'
    clear HB'
    clear hb8
    have kVb0 := Vb.out.c0
    have kVb1 := Vb.out.c1
    go_wp2_with fail
    refine (HR2.out _ Vb.out.arg).mono ?_
    rintro e x9 ⟨rfl, hb9⟩
    clear kVb0 kVb1
    have Va' := Lib.hid (Va.out.on hb9)
    clear Va
    have Va := Va'
    clear Va'
    have Vb' := Lib.hid (Vb.out.on hb9)
    clear Vb
    have Vb := Vb'
    clear Vb'
    have V4' := Lib.hid (V4.out.on hb9)
    clear V4
    have V4 := V4'
    clear V4'
    have V5' := Lib.hid (V5.out.on hb9)
    clear V5
    have V5 := V5'
    clear V5'
    have TA' := Lib.hid (TA.out.on hb9)
    clear TA
    have TA := TA'
    clear TA'
    have HB' := Lib.hid (HB.out.trans (hb9.mono HB.out.size))
    clear HB
    have HB := HB'
    clear HB'
    clear hb9
    have kVa0 := Va.out.c0
    have kVa1 := Va.out.c1
    have kVb0 := Vb.out.c0
    have kVb1 := Vb.out.c1
    have kV50 := V5.out.c0
    have kV51 := V5.out.c1
    go_wp2_with fail
    refine (HT3.out _ _ _ _ _ _ _ V5.out.arg P5.out).mono ?_
    rintro e x10 ⟨rfl, hb10⟩
    clear kVa0 kVa1 kVb0 kVb1 kV50 kV51
    have Va' := Lib.hid (Va.out.on hb10)
    clear Va
    have Va := Va'
    clear Va'
    have Vb' := Lib.hid (Vb.out.on hb10)
    clear Vb
    have Vb := Vb'
    clear Vb'
    have V4' := Lib.hid (V4.out.on hb10)
    clear V4
    have V4 := V4'
    clear V4'
    have V5' := Lib.hid (V5.out.on hb10)
    clear V5
    have V5 := V5'
    clear V5'
    have TA' := Lib.hid (TA.out.on hb10)
    clear TA
    have TA := TA'
    clear TA'
    have HB' := Lib.hid (HB.out.trans (hb10.mono HB.out.size))
    clear HB
    have HB := HB'
    clear HB'
    clear hb10
    go_wp2_with fail
    go_ret
    exact ⟨rfl, HB.out⟩
set_option maxRecDepth 100000 in
set_option maxHeartbeats 8000000 in
theorem swl_ix (n : Nat) (m2 : Int) (v : Nat) (hv : v < n) (one : Bool) (A1 A2 : Option Addr) (l1 l2 c1 c2 : Nat) (ws1 ws2 : List Nat) (w : World) (h1 : SetArg w (n : Nat) A1 l1 c1 ws1) (h2 : SetArg w m2 A2 l2 c2 ws2) (hg1 : greatB (n : Nat) l1 = false) (hg2 : greatB m2 l2 = false) (ok1 : SOk n ws1) (hno : srightB m2 ws2 = false ∨ (srightB m2 ws2 = true ∧ m2 ≠ (n : Nat))) :
    Calls Tryd.prog 3 #[setA (n : Nat) A1 l1 c1, setA m2 A2 l2 c2, .int .i64 (v : Nat), .bool one] w fun e w' => e = .returned (.bool true) ∧ Below w.heap.size w w' := by
  have HAV := Lib.hid (fun W => alive5_any W)
  have HG1 := Lib.hid (fun W => great_any (n : Nat) A1 l1 c1 W)
  have HG2 := Lib.hid (fun W => great_any m2 A2 l2 c2 W)
  rw [hg1] at HG1
  rw [hg2] at HG2
  have hn16 := ok1.n16
  have hrr1 : srightB (n : Nat) ws1 = true := (sright_iff ok1.lt).2 ⟨by omega, by simpa using ok1⟩
  have HW := Lib.hid (fun W (h1 : SetArg W (n : Nat) A1 l1 c1 ws1) => sWith_ans n v hv one A1 l1 c1 ws1 W h1 ok1)
  have hp : pairB (n : Nat) m2 ws1 ws2 = false := by
    unfold pairB
    rcases hno with h | ⟨_, h⟩
    · rw [h]; simp
    · rw [decide_eq_false (fun e => h e.symm), Bool.and_false]
  have HC := Lib.hid (fun W (h1 : SetArg W (n : Nat) A1 l1 c1 ws1) (h2 : SetArg W m2 A2 l2 c2 ws2) => (sComp_no (n : Nat) m2 (v : Nat) A1 A2 l1 l2 c1 c2 ws1 ws2 W h1 h2 1 (.inl ⟨hp, rfl⟩)).mono fun _ _ h => h.ans (by omega) (by omega) 0 [])
  have HR1 := Lib.hid (fun W (h1 : SetArg W (n : Nat) A1 l1 c1 ws1) => rright_any (n : Nat) A1 l1 c1 ws1 W h1)
  rw [hrr1] at HR1
  have HR2 := Lib.hid (fun W (h1 : SetArg W m2 A2 l2 c2 ws2) => rright_any m2 A2 l2 c2 ws2 W h1)
  have HT1 := Lib.hid (fun W m A len c ws er (h1 : SetArg W m A len c ws) (h2 : Ans 0 1 [] m len ws er) => told_ans (B := none) (l2 := 0) (c2 := 0) h1 h2 (by intro h; cases h))
  have HT3 := Lib.hid (fun W m A len c ws er (h1 : SetArg W m A len c ws) (h2 : Ans 0 3 [] m len ws er) => told_ans (B := none) (l2 := 0) (c2 := 0) h1 h2 (by intro h; cases h))
  have HT0 := Lib.hid (fun W t m A len c ws er B c2 (h1 : SetArg W m A len c ws) (h2 : Ans n 0 t m len ws er) (h3 : TabArg W B (2 ^ n) c2 t) => told_ans (B := B) (l2 := 2 ^ n) (c2 := c2) h1 h2 (fun _ => ⟨h3.hlen.symm, h3.row⟩))
  have HTB1 := Lib.hid (fun W (h : SetArg W (n : Nat) A1 l1 c1 ws1) => rtable_tab n A1 l1 c1 ws1 W h ok1)
  have HRW := Lib.hid (fun W b (hb : b ≤ 1) B c (h : TabArg W B (2 ^ n) c (tabS n ws1)) => rwith_tab n v b hn16 hv hb B c _ W h)
  unfold SetAns setA at *
  generalize tabS n ws1 = t1 at *
  generalize 2 ^ n = N at *
  obtain ⟨W0, hW0⟩ : ∃ W0, W0 = ((w.alloc (.cells #[.int .i64 ((n : Nat)), .slice A1 l1 c1] 24)).alloc (.cells #[.int .i64 (m2), .slice A2 l2 c2] 24)) := ⟨_, rfl⟩
  have hb0 : Below w.heap.size w W0 := by rw [hW0]; exact (((Below.refl _ _).alloc (by simp) (.cells #[.int .i64 ((n : Nat)), .slice A1 l1 c1] 24)).alloc (by simp) (.cells #[.int .i64 (m2), .slice A2 l2 c2] 24))
  have hv0 : SetVar W0 (w.heap.size) ((n : Nat)) A1 l1 c1 ws1 := by
    have := SetVar.new h1
    rw [hW0]; exact (this.alloc _)
  have hv1 : SetVar W0 (w.heap.size + 1) (m2) A2 l2 c2 ws2 := by
    have := SetVar.new (h2.alloc (.cells #[.int .i64 ((n : Nat)), .slice A1 l1 c1] 24))
    simp only [World.size_alloc] at this
    rw [hW0]; exact this
  have HWW := Lib.hid hW0
  have HB := Lib.hid hb0
  have Va := Lib.hid hv0
  have Vb := Lib.hid hv1
  clear hb0 hv0 hv1 h1 h2 hg1 hg2 hrr1 hn16 hp ok1
  go_enter Tryd.func3, Tryd.ntmps3
  go_wp2_with fail
  rw [← HWW.out]
  clear hW0
  go_wp2_with fail
  refine (HAV.out _).mono ?_
  rintro e x1 ⟨rfl, hb1⟩
  have Va' := Lib.hid (Va.out.on hb1)
  clear Va
  have Va := Va'
  clear Va'
  have Vb' := Lib.hid (Vb.out.on hb1)
  clear Vb
  have Vb := Vb'
  clear Vb'
  have HB' := Lib.hid (HB.out.trans (hb1.mono HB.out.size))
  clear HB
  have HB := HB'
  clear HB'
  clear hb1
  have kVa0 := Va.out.c0
  have kVa1 := Va.out.c1
  go_wp2_with fail
  refine (HG1.out _).mono ?_
  rintro e x2 ⟨rfl, hb2⟩
  clear kVa0 kVa1
  have Va' := Lib.hid (Va.out.on hb2)
  clear Va
  have Va := Va'
  clear Va'
  have Vb' := Lib.hid (Vb.out.on hb2)
  clear Vb
  have Vb := Vb'
  clear Vb'
  have HB' := Lib.hid (HB.out.trans (hb2.mono HB.out.size))
  clear HB
  have HB := HB'
  clear HB'
  clear hb2
  have kVb0 := Vb.out.c0
  have kVb1 := Vb.out.c1
  go_wp2_with fail
  refine (HG2.out _).mono ?_
  rintro e x3 ⟨rfl, hb3⟩
  clear kVb0 kVb1
  have Va' := Lib.hid (Va.out.on hb3)
  clear Va
  have Va := Va'
  clear Va'
  have Vb' := Lib.hid (Vb.out.on hb3)
  clear Vb
  have Vb := Vb'
  clear Vb'
  have HB' := Lib.hid (HB.out.trans (hb3.mono HB.out.size))
  clear HB
  have HB := HB'
  clear HB'
  clear hb3
  have kVa0 := Va.out.c0
  have kVa1 := Va.out.c1
  go_wp2_with fail
  refine (HW.out _ Va.out.arg).mono ?_
  rintro e x4 ⟨m4, A4, l4, c4, ws4, e4, rfl, ha4, hb4, hp4⟩
  clear kVa0 kVa1
  have Va' := Lib.hid (Va.out.on hb4)
  clear Va
  have Va := Va'
  clear Va'
  have Vb' := Lib.hid (Vb.out.on hb4)
  clear Vb
  have Vb := Vb'
  clear Vb'
  have HB' := Lib.hid (HB.out.trans (hb4.mono HB.out.size))
  clear HB
  have HB := HB'
  clear HB'
  have hltVa := Va.out.blk.lt
  have hltVb := Vb.out.blk.lt
  have kVa0 := Va.out.c0
  have kVa1 := Va.out.c1
  have kVb0 := Vb.out.c0
  have kVb1 := Vb.out.c1
  have Va' := Lib.hid (Va.out.on ((Below.refl _ _).alloc (Nat.le_refl _) (.cells #[.int .i64 m4, .slice A4 l4 c4] 24)))
  clear Va
  have Va := Va'
  clear Va'
  have Vb' := Lib.hid (Vb.out.on ((Below.refl _ _).alloc (Nat.le_refl _) (.cells #[.int .i64 m4, .slice A4 l4 c4] 24)))
  clear Vb
  have Vb := Vb'
  clear Vb'
  have HB' := Lib.hid (HB.out.trans (((Below.refl _ _).alloc (Nat.le_refl _) (.cells #[.int .i64 m4, .slice A4 l4 c4] 24)).mono HB.out.size))
  clear HB
  have HB := HB'
  clear HB'
  have V4 := Lib.hid (SetVar.new ha4)
  have P4 := Lib.hid hp4
  clear ha4 hb4 hp4
  go_wp2_with fail
  clear hltVa
  clear hltVb
  refine (HC.out _ Va.out.arg Vb.out.arg).mono ?_
  rintro e x5 ⟨m5, A5, l5, c5, ws5, e5, rfl, ha5, hb5, hp5⟩
  clear kVa0 kVa1 kVb0 kVb1
  have Va' := Lib.hid (Va.out.on hb5)
  clear Va
  have Va := Va'
  clear Va'
  have Vb' := Lib.hid (Vb.out.on hb5)
  clear Vb
  have Vb := Vb'
  clear Vb'
  have V4' := Lib.hid (V4.out.on hb5)
  clear V4
  have V4 := V4'
  clear V4'
  have HB' := Lib.hid (HB.out.trans (hb5.mono HB.out.size))
  clear HB
  have HB := HB'
  clear HB'
  have hltVa := Va.out.blk.lt
  have kVa0 := Va.out.c0
  have kVa1 := Va.out.c1
  have Va' := Lib.hid (Va.out.on ((Below.refl _ _).alloc (Nat.le_refl _) (.cells #[.int .i64 m5, .slice A5 l5 c5] 24)))
  clear Va
  have Va := Va'
  clear Va'
  have Vb' := Lib.hid (Vb.out.on ((Below.refl _ _).alloc (Nat.le_refl _) (.cells #[.int .i64 m5, .slice A5 l5 c5] 24)))
  clear Vb
  have Vb := Vb'
  clear Vb'
  have V4' := Lib.hid (V4.out.on ((Below.refl _ _).alloc (Nat.le_refl _) (.cells #[.int .i64 m5, .slice A5 l5 c5] 24)))
  clear V4
  have V4 := V4'
  clear V4'
  have HB' := Lib.hid (HB.out.trans (((Below.refl _ _).alloc (Nat.le_refl _) (.cells #[.int .i64 m5, .slice A5 l5 c5] 24)).mono HB.out.size))
  clear HB
  have HB := HB'
  clear HB'
  have V5 := Lib.hid (SetVar.new ha5)
  have P5 := Lib.hid hp5
  clear ha5 hb5 hp5
  go_wp2_with fail
  clear hltVa
  refine (HR1.out _ Va.out.arg).mono ?_
  rintro e x6 ⟨rfl, hb6⟩
  clear kVa0 kVa1
  have Va' := Lib.hid (Va.out.on hb6)
  clear Va
  have Va := Va'
  clear Va'
  have Vb' := Lib.hid (Vb.out.on hb6)
  clear Vb
  have Vb := Vb'
  clear Vb'
  have V4' := Lib.hid (V4.out.on hb6)
  clear V4
  have V4 := V4'
  clear V4'
  have V5' := Lib.hid (V5.out.on hb6)
  clear V5
  have V5 := V5'
  clear V5'
  have HB' := Lib.hid (HB.out.trans (hb6.mono HB.out.size))
  clear HB
  have HB := HB'
  clear HB'
  clear hb6
  have kVa0 := Va.out.c0
  have kVa1 := Va.out.c1
  go_wp2_with fail
  refine (HTB1.out _ Va.out.arg).mono ?_
  rintro e x7 ⟨B7, d7, rfl, ht7, hb7⟩
  clear kVa0 kVa1
  have Va' := Lib.hid (Va.out.on hb7)
  clear Va
  have Va := Va'
  clear Va'
  have Vb' := Lib.hid (Vb.out.on hb7)
  clear Vb
  have Vb := Vb'
  clear Vb'
  have V4' := Lib.hid (V4.out.on hb7)
  clear V4
  have V4 := V4'
  clear V4'
  have V5' := Lib.hid (V5.out.on hb7)
  clear V5
  have V5 := V5'
  clear V5'
  have HB' := Lib.hid (HB.out.trans (hb7.mono HB.out.size))
  clear HB
  have HB := HB'
  clear HB'
  have TA := Lib.hid ht7
  clear ht7 hb7
  have kVa0 := Va.out.c0
  have kVa1 := Va.out.c1
  go_wp2_with fail
  refine (HRW.out _ 0 (by omega) _ _ TA.out).mono ?_
  rintro e x8 ⟨B8, d8, rfl, ht8, hb8⟩
  clear kVa0 kVa1
  have Va' := Lib.hid (Va.out.on hb8)
  clear Va
  have Va := Va'
  clear Va'
  have Vb' := Lib.hid (Vb.out.on hb8)
  clear Vb
  have Vb := Vb'
  clear Vb'
  have V4' := Lib.hid (V4.out.on hb8)
  clear V4
  have V4 := V4'
  clear V4'
  have V5' := Lib.hid (V5.out.on hb8)
  clear V5
  have V5 := V5'
  clear V5'
  have TA' := Lib.hid (TA.out.on hb8)
  clear TA
  have TA := TA'
  clear TA'
  have HB' := Lib.hid (HB.out.trans (hb8.mono HB.out.size))
  clear HB
  have HB := HB'
  clear HB'
  have TW := Lib.hid ht8
  clear ht8 hb8
  cases one
  · skip
    have kV40 := V4.out.c0
    have kV41 := V4.out.c1
    go_wp2_with fail
    refine (HT0.out _ _ _ _ _ _ _ _ _ _ V4.out.arg P4.out TW.out).mono ?_
    rintro e x9 ⟨rfl, hb9⟩
    clear kV40 kV41
    have Va' := Lib.hid (Va.out.on hb9)
    clear Va
    have Va := Va'
    clear Va'
    have Vb' := Lib.hid (Vb.out.on hb9)
    clear Vb
    have Vb := Vb'
    clear Vb'
    have V4' := Lib.hid (V4.out.on hb9)
    clear V4
    have V4 := V4'
    clear V4'
    have V5' := Lib.hid (V5.out.on hb9)
    clear V5
    have V5 := V5'
    clear V5'
    have TA' := Lib.hid (TA.out.on hb9)
    clear TA
    have TA := TA'
    clear TA'
    have TW' := Lib.hid (TW.out.on hb9)
    clear TW
    have TW := TW'
    clear TW'
    have HB' := Lib.hid (HB.out.trans (hb9.mono HB.out.size))
    clear HB
    have HB := HB'
    clear HB'
    clear hb9
    have kVb0 := Vb.out.c0
    have kVb1 := Vb.out.c1
    go_wp2_with fail
    rcases hno with h3 | ⟨h3, hne⟩
    · rw [h3] at HR2
      clear h3
      refine (HR2.out _ Vb.out.arg).mono ?_
      rintro e x10 ⟨rfl, hb10⟩
      clear kVb0 kVb1
      have Va' := Lib.hid (Va.out.on hb10)
      clear Va
      have Va := Va'
      clear Va'
      have Vb' := Lib.hid (Vb.out.on hb10)
      clear Vb
      have Vb := Vb'
      clear Vb'
      have V4' := Lib.hid (V4.out.on hb10)
      clear V4
      have V4 := V4'
      clear V4'
      have V5' := Lib.hid (V5.out.on hb10)
      clear V5
      have V5 := V5'
      clear V5'
      have TA' := Lib.hid (TA.out.on hb10)
      clear TA
      have TA := TA'
      clear TA'
      have TW' := Lib.hid (TW.out.on hb10)
      clear TW
      have TW := TW'
      clear TW'
      have HB' := Lib.hid (HB.out.trans (hb10.mono HB.out.size))
      clear HB
      have HB := HB'
      clear HB'
      clear hb10
      have kV50 := V5.out.c0
      have kV51 := V5.out.c1
      go_wp2_with fail
      refine (HT1.out _ _ _ _ _ _ _ V5.out.arg P5.out).mono ?_
      rintro e x11 ⟨rfl, hb11⟩
      clear kV50 kV51
      have Va' := Lib.hid (Va.out.on hb11)
      clear Va
      have Va := Va'
      clear Va'
      have Vb' := Lib.hid (Vb.out.on hb11)
      clear Vb
      have Vb := Vb'
      clear Vb'
      have V4' := Lib.hid (V4.out.on hb11)
      clear V4
      have V4 := V4'
      clear V4'
      have V5' := Lib.hid (V5.out.on hb11)
      clear V5
      have V5 := V5'
      clear V5'
      have TA' := Lib.hid (TA.out.on hb11)
      clear TA
      have TA := TA'
      clear TA'
      have TW' := Lib.hid (TW.out.on hb11)
      clear TW
      have TW := TW'
      clear TW'
      have HB' := Lib.hid (HB.out.trans (hb11.mono HB.out.size))
      clear HB
      have HB := HB'
      clear HB'
      clear hb11
      go_wp2_with fail
      go_ret
      exact ⟨rfl, HB.out⟩
    · rw [h3] at HR2
      clear h3
      have hbne : (m2 != (n : Int)) = true := by rw [bne_iff_ne]; exact hne
      refine (HR2.out _ Vb.out.arg).mono ?_
      rintro e x10 ⟨rfl, hb10⟩
      clear kVb0 kVb1
      have Va' := Lib.hid (Va.out.on hb10)
      clear Va
      have Va := Va'
      clear Va'
      have Vb' := Lib.hid (Vb.out.on hb10)
      clear Vb
      have Vb := Vb'
      clear Vb'
      have V4' := Lib.hid (V4.out.on hb10)
      clear V4
      have V4 := V4'
      clear V4'
      have V5' := Lib.hid (V5.out.on hb10)
      clear V5
      have V5 := V5'
      clear V5'
      have TA' := Lib.hid (TA.out.on hb10)
      clear TA
      have TA := TA'
      clear TA'
      have TW' := Lib.hid (TW.out.on hb10)
      clear TW
      have TW := TW'
      clear TW'
      have HB' := Lib.hid (HB.out.trans (hb10.mono HB.out.size))
      clear HB
      have HB := HB'
      clear HB'
      clear hb10
      have kVa0 := Va.out.c0
      have kVa1 := Va.out.c1
      have kVb0 := Vb.out.c0
      have kVb1 := Vb.out.c1
      have kV50 := V5.out.c0
      have kV51 := V5.out.c1
      go_wp2_with fail
      refine (HT1.out _ _ _ _ _ _ _ V5.out.arg P5.out).mono ?_
      rintro e x11 ⟨rfl, hb11⟩
      clear kVa0 kVa1 kVb0 kVb1 kV50 kV51
      have Va' := Lib.hid (Va.out.on hb11)
      clear Va
      have Va := Va'
      clear Va'
      have Vb' := Lib.hid (Vb.out.on hb11)
      clear Vb
      have Vb := Vb'
      clear Vb'
      have V4' := Lib.hid (V4.out.on hb11)
      clear V4
      have V4 := V4'
      clear V4'
      have V5' := Lib.hid (V5.out.on hb11)
      clear V5
      have V5 := V5'
      clear V5'
      have TA' := Lib.hid (TA.out.on hb11)
      clear TA
      have TA := TA'
      clear TA'
      have TW' := Lib.hid (TW.out.on hb11)
      clear TW
      have TW := TW'
      clear TW'
      have HB' := Lib.hid (HB.out.trans (hb11.mono HB.out.size))
      clear HB
      have HB := HB'
      clear HB'
      clear hb11
      go_wp2_with fail
      go_ret
      exact ⟨rfl, HB.out⟩
  · skip
    go_wp2_with fail
    refine (HRW.out _ 1 (by omega) _ _ TA.out).mono ?_
    rintro e x9 ⟨B9, d9, rfl, ht9, hb9⟩
    have Va' := Lib.hid (Va.out.on hb9)
    clear Va
    have Va := Va'
    clear Va'
    have Vb' := Lib.hid (Vb.out.on hb9)
    clear Vb
    have Vb := Vb'
    clear Vb'
    have V4' := Lib.hid (V4.out.on hb9)
    clear V4
    have V4 := V4'
    clear V4'
    have V5' := Lib.hid (V5.out.on hb9)
    clear V5
    have V5 := V5'
    clear V5'
    have TA' := Lib.hid (TA.out.on hb9)
    clear TA
    have TA := TA'
    clear TA'
    have TW' := Lib.hid (TW.out.on hb9)
    clear TW
    have TW := TW'
    clear TW'
    have HB' := Lib.hid (HB.out.trans (hb9.mono HB.out.size))
    clear HB
    have HB := HB'
    clear HB'
    have TV := Lib.hid ht9
    clear ht9 hb9
    have kV40 := V4.out.c0
    have kV41 := V4.out.c1
    go_wp2_with fail
    refine (HT0.out _ _ _ _ _ _ _ _ _ _ V4.out.arg P4.out TV.out).mono ?_
    rintro e x10 ⟨rfl, hb10⟩
    clear kV40 kV41
    have Va' := Lib.hid (Va.out.on hb10)
    clear Va
    have Va := Va'
    clear Va'
    have Vb' := Lib.hid (Vb.out.on hb10)
    clear Vb
    have Vb := Vb'
    clear Vb'
    have V4' := Lib.hid (V4.out.on hb10)
    clear V4
    have V4 := V4'
    clear V4'
    have V5' := Lib.hid (V5.out.on hb10)
    clear V5
    have V5 := V5'
    clear V5'
    have TA' := Lib.hid (TA.out.on hb10)
    clear TA
    have TA := TA'
    clear TA'
    have TW' := Lib.hid (TW.out.on hb10)
    clear TW
    have TW := TW'
    clear TW'
    have TV' := Lib.hid (TV.out.on hb10)
    clear TV
    have TV := TV'
    clear TV'
    have HB' := Lib.hid (HB.out.trans (hb10.mono HB.out.size))
    clear HB
    have HB := HB'
    clear HB'
    clear hb10
    have kVb0 := Vb.out.c0
    have kVb1 := Vb.out.c1
    go_wp2_with fail
    rcases hno with h3 | ⟨h3, hne⟩
    · rw [h3] at HR2
      clear h3
      refine (HR2.out _ Vb.out.arg).mono ?_
      rintro e x11 ⟨rfl, hb11⟩
      clear kVb0 kVb1
      have Va' := Lib.hid (Va.out.on hb11)
      clear Va
      have Va := Va'
      clear Va'
      have Vb' := Lib.hid (Vb.out.on hb11)
      clear Vb
      have Vb := Vb'
      clear Vb'
      have V4' := Lib.hid (V4.out.on hb11)
      clear V4
      have V4 := V4'
      clear V4'
      have V5' := Lib.hid (V5.out.on hb11)
      clear V5
      have V5 := V5'
      clear V5'
      have TA' := Lib.hid (TA.out.on hb11)
      clear TA
      have TA := TA'
      clear TA'
      have TW' := Lib.hid (TW.out.on hb11)
      clear TW
      have TW := TW'
      clear TW'
      have TV' := Lib.hid (TV.out.on hb11)
      clear TV
      have TV := TV'
      clear TV'
      have HB' := Lib.hid (HB.out.trans (hb11.mono HB.out.size))
      clear HB
      have HB := HB'
      clear HB'
      clear hb11
      have kV50 := V5.out.c0
      have kV51 := V5.out.c1
      go_wp2_with fail
      refine (HT1.out _ _ _ _ _ _ _ V5.out.arg P5.out).mono ?_
      rintro e x12 ⟨rfl, hb12⟩
      clear kV50 kV51
      have Va' := Lib.hid (Va.out.on hb12)
      clear Va
      have Va := Va'
      clear Va'
      have Vb' := Lib.hid (Vb.out.on hb12)
      clear Vb
      have Vb := Vb'
      clear Vb'
      have V4' := Lib.hid (V4.out.on hb12)
      clear V4
      have V4 := V4'
      clear V4'
      have V5' := Lib.hid (V5.out.on hb12)
      clear V5
      have V5 := V5'
      clear V5'
      have TA' := Lib.hid (TA.out.on hb12)
      clear TA
      have TA := TA'
      clear TA'
      have TW' := Lib.hid (TW.out.on hb12)
      clear TW
      have TW := TW'
      clear TW'
      have TV' := Lib.hid (TV.out.on hb12)
      clear TV
      have TV := TV'
      clear TV'
      have HB' := Lib.hid (HB.out.trans (hb12.mono HB.out.size))
      clear HB
      have HB := HB'
      clear HB'
      clear hb12
      go_wp2_with fail
      go_ret
      exact ⟨rfl, HB.out⟩
    · rw [h3] at HR2
      clear h3
      have hbne : (m2 != (n : Int)) = true := by rw [bne_iff_ne]; exact hne
      refine (HR2.out _ Vb.out.arg).mono ?_
      rintro e x11 ⟨rfl, hb11⟩
      clear kVb0 kVb1
      have Va' := Lib.hid (Va.out.on hb11)
      clear Va
      have Va := Va'
      clear Va'
      have Vb' := Lib.hid (Vb.out.on hb11)
      clear Vb
      have Vb := Vb'
      clear Vb'
      have V4' := Lib.hid (V4.out.on hb11)
      clear V4
      have V4 := V4'
      clear V4'
      have V5' := Lib.hid (V5.out.on hb11)
      clear V5
      have V5 := V5'
      clear V5'
      have TA' := Lib.hid (TA.out.on hb11)
      clear TA
      have TA := TA'
      clear TA'
      have TW' := Lib.hid (TW.out.on hb11)
      clear TW
      have TW := TW'
      clear TW'
      have TV' := Lib.hid (TV.out.on hb11)
      clear TV
      have TV := TV'
      clear TV'
      have HB' := Lib.hid (HB.out.trans (hb11.mono HB.out.size))
      clear HB
      have HB := HB'
      clear HB'
      clear hb11
      have kVa0 := Va.out.c0
      have kVa1 := Va.out.c1
      have kVb0 := Vb.out.c0
      have kVb1 := Vb.out.c1
      have kV50 := V5.out.c0
      have kV51 := V5.out.c1
      go_wp2_with fail
      refine (HT1.out _ _ _ _ _ _ _ V5.out.arg P5.out).mono ?_
      rintro e x12 ⟨rfl, hb12⟩
      clear kVa0 kVa1 kVb0 kVb1 kV50 kV51
      have Va' := Lib.hid (Va.out.on hb12)
      clear Va
      have Va := Va'
      clear Va'
      have Vb' := Lib.hid (Vb.out.on hb12)
      clear Vb
      have Vb := Vb'
      clear Vb'
      have V4' := Lib.hid (V4.out.on hb12)
      clear V4
      have V4 := V4'
      clear V4'
      have V5' := Lib.hid (V5.out.on hb12)
      clear V5
      have V5 := V5'
      clear V5'
      have TA' := Lib.hid (TA.out.on hb12)
      clear TA
      have TA := TA'
      clear TA'
      have TW' := Lib.hid (TW.out.on hb12)
      clear TW
      have TW := TW'
      clear TW'
      have TV' := Lib.hid (TV.out.on hb12)
      clear TV
      have TV := TV'
      clear TV'
      have HB' := Lib.hid (HB.out.trans (hb12.mono HB.out.size))
      clear HB
      have HB := HB'
      clear HB'
      clear hb12
      go_wp2_with fail
      go_ret
      exact ⟨rfl, HB.out⟩
set_option maxRecDepth 100000 in
set_option maxHeartbeats 8000000 in
theorem swl_ig (n : Nat) (v : Nat) (hv : v < n) (one : Bool) (A1 A2 : Option Addr) (l1 l2 c1 c2 : Nat) (ws1 ws2 : List Nat) (w : World) (h1 : SetArg w (n : Nat) A1 l1 c1 ws1) (h2 : SetArg w (n : Nat) A2 l2 c2 ws2) (hg1 : greatB (n : Nat) l1 = false) (hg2 : greatB (n : Nat) l2 = false) (ok1 : SOk n ws1) (ok2 : SOk n ws2) :
    Calls Tryd.prog 3 #[setA (n : Nat) A1 l1 c1, setA (n : Nat) A2 l2 c2, .int .i64 (v : Nat), .bool one] w fun e w' => e = .returned (.bool true) ∧ Below w.heap.size w w' := by
  have HAV := Lib.hid (fun W => alive5_any W)
  have HG1 := Lib.hid (fun W => great_any (n : Nat) A1 l1 c1 W)
  have HG2 := Lib.hid (fun W => great_any (n : Nat) A2 l2 c2 W)
  rw [hg1] at HG1
  rw [hg2] at HG2
  have hn16 := ok1.n16
  have hrr1 : srightB (n : Nat) ws1 = true := (sright_iff ok1.lt).2 ⟨by omega, by simpa using ok1⟩
  have HW := Lib.hid (fun W (h1 : SetArg W (n : Nat) A1 l1 c1 ws1) => sWith_ans n v hv one A1 l1 c1 ws1 W h1 ok1)
  have hrr2 : srightB (n : Nat) ws2 = true := (sright_iff ok2.lt).2 ⟨by omega, by simpa using ok2⟩
  have HC := Lib.hid (fun W (h1 : SetArg W (n : Nat) A1 l1 c1 ws1) (h2 : SetArg W (n : Nat) A2 l2 c2 ws2) => sComp_ans n v hv A1 A2 l1 l2 c1 c2 ws1 ws2 W h1 h2 ok1 ok2)
  have HR1 := Lib.hid (fun W (h1 : SetArg W (n : Nat) A1 l1 c1 ws1) => rright_any (n : Nat) A1 l1 c1 ws1 W h1)
  rw [hrr1] at HR1
  have HR2 := Lib.hid (fun W (h1 : SetArg W (n : Nat) A2 l2 c2 ws2) => rright_any (n : Nat) A2 l2 c2 ws2 W h1)
  rw [hrr2] at HR2
  have HT1 := Lib.hid (fun W m A len c ws er (h1 : SetArg W m A len c ws) (h2 : Ans 0 1 [] m len ws er) => told_ans (B := none) (l2 := 0) (c2 := 0) h1 h2 (by intro h; cases h))
  have HT3 := Lib.hid (fun W m A len c ws er (h1 : SetArg W m A len c ws) (h2 : Ans 0 3 [] m len ws er) => told_ans (B := none) (l2 := 0) (c2 := 0) h1 h2 (by intro h; cases h))
  have HT0 := Lib.hid (fun W t m A len c ws er B c2 (h1 : SetArg W m A len c ws) (h2 : Ans n 0 t m len ws er) (h3 : TabArg W B (2 ^ n) c2 t) => told_ans (B := B) (l2 := 2 ^ n) (c2 := c2) h1 h2 (fun _ => ⟨h3.hlen.symm, h3.row⟩))
  have HTB1 := Lib.hid (fun W (h : SetArg W (n : Nat) A1 l1 c1 ws1) => rtable_tab n A1 l1 c1 ws1 W h ok1)
  have HTB2 := Lib.hid (fun W (h : SetArg W (n : Nat) A2 l2 c2 ws2) => rtable_tab n A2 l2 c2 ws2 W h ok2)
  have HRW := Lib.hid (fun W b (hb : b ≤ 1) B c (h : TabArg W B (2 ^ n) c (tabS n ws1)) => rwith_tab n v b hn16 hv hb B c _ W h)
  have HRC := Lib.hid (fun W B B2 c c2 (h : TabArg W B (2 ^ n) c (tabS n ws1)) (h2 : TabArg W B2 (2 ^ n) c2 (tabS n ws2)) => rcomp_tab n v hn16 hv B B2 c c2 _ _ W h h2)
  unfold SetAns setA at *
  generalize tabS n ws1 = t1 at *
  generalize tabS n ws2 = t2 at *
  generalize 2 ^ n = N at *
  obtain ⟨W0, hW0⟩ : ∃ W0, W0 = ((w.alloc (.cells #[.int .i64 ((n : Nat)), .slice A1 l1 c1] 24)).alloc (.cells #[.int .i64 ((n : Nat)), .slice A2 l2 c2] 24)) := ⟨_, rfl⟩
  have hb0 : Below w.heap.size w W0 := by rw [hW0]; exact (((Below.refl _ _).alloc (by simp) (.cells #[.int .i64 ((n : Nat)), .slice A1 l1 c1] 24)).alloc (by simp) (.cells #[.int .i64 ((n : Nat)), .slice A2 l2 c2] 24))
  have hv0 : SetVar W0 (w.heap.size) ((n : Nat)) A1 l1 c1 ws1 := by
    have := SetVar.new h1
    rw [hW0]; exact (this.alloc _)
  have hv1 : SetVar W0 (w.heap.size + 1) ((n : Nat)) A2 l2 c2 ws2 := by
    have := SetVar.new (h2.alloc (.cells #[.int .i64 ((n : Nat)), .slice A1 l1 c1] 24))
    simp only [World.size_alloc] at this
    rw [hW0]; exact this
  have HWW := Lib.hid hW0
  have HB := Lib.hid hb0
  have Va := Lib.hid hv0
  have Vb := Lib.hid hv1
  clear hb0 hv0 hv1 h1 h2 hg1 hg2 hrr1 hn16 hrr2 ok2 ok1
  go_enter Tryd.func3, Tryd.ntmps3
  go_wp2_with fail
  rw [← HWW.out]
  clear hW0
  go_wp2_with fail
  refine (HAV.out _).mono ?_
  rintro e x1 ⟨rfl, hb1⟩
  have Va' := Lib.hid (Va.out.on hb1)
  clear Va
  have Va := Va'
  clear Va'
  have Vb' := Lib.hid (Vb.out.on hb1)
  clear Vb
  have Vb := Vb'
  clear Vb'
  have HB' := Lib.hid (HB.out.trans (hb1.mono HB.out.size))
  clear HB
  have HB := HB'
  clear HB'
  clear hb1
  have kVa0 := Va.out.c0
  have kVa1 := Va.out.c1
  go_wp2_with fail
  refine (HG1.out _).mono ?_
  rintro e x2 ⟨rfl, hb2⟩
  clear kVa0 kVa1
  have Va' := Lib.hid (Va.out.on hb2)
  clear Va
  have Va := Va'
  clear Va'
  have Vb' := Lib.hid (Vb.out.on hb2)
  clear Vb
  have Vb := Vb'
  clear Vb'
  have HB' := Lib.hid (HB.out.trans (hb2.mono HB.out.size))
  clear HB
  have HB := HB'
  clear HB'
  clear hb2
  have kVb0 := Vb.out.c0
  have kVb1 := Vb.out.c1
  go_wp2_with fail
  refine (HG2.out _).mono ?_
  rintro e x3 ⟨rfl, hb3⟩
  clear kVb0 kVb1
  have Va' := Lib.hid (Va.out.on hb3)
  clear Va
  have Va := Va'
  clear Va'
  have Vb' := Lib.hid (Vb.out.on hb3)
  clear Vb
  have Vb := Vb'
  clear Vb'
  have HB' := Lib.hid (HB.out.trans (hb3.mono HB.out.size))
  clear HB
  have HB := HB'
  clear HB'
  clear hb3
  have kVa0 := Va.out.c0
  have kVa1 := Va.out.c1
  go_wp2_with fail
  refine (HW.out _ Va.out.arg).mono ?_
  rintro e x4 ⟨m4, A4, l4, c4, ws4, e4, rfl, ha4, hb4, hp4⟩
  clear kVa0 kVa1
  have Va' := Lib.hid (Va.out.on hb4)
  clear Va
  have Va := Va'
  clear Va'
  have Vb' := Lib.hid (Vb.out.on hb4)
  clear Vb
  have Vb := Vb'
  clear Vb'
  have HB' := Lib.hid (HB.out.trans (hb4.mono HB.out.size))
  clear HB
  have HB := HB'
  clear HB'
  have hltVa := Va.out.blk.lt
  have hltVb := Vb.out.blk.lt
  have kVa0 := Va.out.c0
  have kVa1 := Va.out.c1
  have kVb0 := Vb.out.c0
  have kVb1 := Vb.out.c1
  have Va' := Lib.hid (Va.out.on ((Below.refl _ _).alloc (Nat.le_refl _) (.cells #[.int .i64 m4, .slice A4 l4 c4] 24)))
  clear Va
  have Va := Va'
  clear Va'
  have Vb' := Lib.hid (Vb.out.on ((Below.refl _ _).alloc (Nat.le_refl _) (.cells #[.int .i64 m4, .slice A4 l4 c4] 24)))
  clear Vb
  have Vb := Vb'
  clear Vb'
  have HB' := Lib.hid (HB.out.trans (((Below.refl _ _).alloc (Nat.le_refl _) (.cells #[.int .i64 m4, .slice A4 l4 c4] 24)).mono HB.out.size))
  clear HB
  have HB := HB'
  clear HB'
  have V4 := Lib.hid (SetVar.new ha4)
  have P4 := Lib.hid hp4
  clear ha4 hb4 hp4
  go_wp2_with fail
  clear hltVa
  clear hltVb
  refine (HC.out _ Va.out.arg Vb.out.arg).mono ?_
  rintro e x5 ⟨m5, A5, l5, c5, ws5, e5, rfl, ha5, hb5, hp5⟩
  clear kVa0 kVa1 kVb0 kVb1
  have Va' := Lib.hid (Va.out.on hb5)
  clear Va
  have Va := Va'
  clear Va'
  have Vb' := Lib.hid (Vb.out.on hb5)
  clear Vb
  have Vb := Vb'
  clear Vb'
  have V4' := Lib.hid (V4.out.on hb5)
  clear V4
  have V4 := V4'
  clear V4'
  have HB' := Lib.hid (HB.out.trans (hb5.mono HB.out.size))
  clear HB
  have HB := HB'
  clear HB'
  have hltVa := Va.out.blk.lt
  have kVa0 := Va.out.c0
  have kVa1 := Va.out.c1
  have Va' := Lib.hid (Va.out.on ((Below.refl _ _).alloc (Nat.le_refl _) (.cells #[.int .i64 m5, .slice A5 l5 c5] 24)))
  clear Va
  have Va := Va'
  clear Va'
  have Vb' := Lib.hid (Vb.out.on ((Below.refl _ _).alloc (Nat.le_refl _) (.cells #[.int .i64 m5, .slice A5 l5 c5] 24)))
  clear Vb
  have Vb := Vb'
  clear Vb'
  have V4' := Lib.hid (V4.out.on ((Below.refl _ _).alloc (Nat.le_refl _) (.cells #[.int .i64 m5, .slice A5 l5 c5] 24)))
  clear V4
  have V4 := V4'
  clear V4'
  have HB' := Lib.hid (HB.out.trans (((Below.refl _ _).alloc (Nat.le_refl _) (.cells #[.int .i64 m5, .slice A5 l5 c5] 24)).mono HB.out.size))
  clear HB
  have HB := HB'
  clear HB'
  have V5 := Lib.hid (SetVar.new ha5)
  have P5 := Lib.hid hp5
  clear ha5 hb5 hp5
  go_wp2_with fail
  clear hltVa
  refine (HR1.out _ Va.out.arg).mono ?_
  rintro e x6 ⟨rfl, hb6⟩
  clear kVa0 kVa1
  have Va' := Lib.hid (Va.out.on hb6)
  clear Va
  have Va := Va'
  clear Va'
  have Vb' := Lib.hid (Vb.out.on hb6)
  clear Vb
  have Vb := Vb'
  clear Vb'
  have V4' := Lib.hid (V4.out.on hb6)
  clear V4
  have V4 := V4'
  clear V4'
  have V5' := Lib.hid (V5.out.on hb6)
  clear V5
  have V5 := V5'
  clear V5'
  have HB' := Lib.hid (HB.out.trans (hb6.mono HB.out.size))
  clear HB
  have HB := HB'
  clear HB'
  clear hb6
  have kVa0 := Va.out.c0
  have kVa1 := Va.out.c1
  go_wp2_with fail
  refine (HTB1.out _ Va.out.arg).mono ?_
  rintro e x7 ⟨B7, d7, rfl, ht7, hb7⟩
  clear kVa0 kVa1
  have Va' := Lib.hid (Va.out.on hb7)
  clear Va
  have Va := Va'
  clear Va'
  have Vb' := Lib.hid (Vb.out.on hb7)
  clear Vb
  have Vb := Vb'
  clear Vb'
  have V4' := Lib.hid (V4.out.on hb7)
  clear V4
  have V4 := V4'
  clear V4'
  have V5' := Lib.hid (V5.out.on hb7)
  clear V5
  have V5 := V5'
  clear V5'
  have HB' := Lib.hid (HB.out.trans (hb7.mono HB.out.size))
  clear HB
  have HB := HB'
  clear HB'
  have TA := Lib.hid ht7
  clear ht7 hb7
  have kVa0 := Va.out.c0
  have kVa1 := Va.out.c1
  go_wp2_with fail
  refine (HRW.out _ 0 (by omega) _ _ TA.out).mono ?_
  rintro e x8 ⟨B8, d8, rfl, ht8, hb8⟩
  clear kVa0 kVa1
  have Va' := Lib.hid (Va.out.on hb8)
  clear Va
  have Va := Va'
  clear Va'
  have Vb' := Lib.hid (Vb.out.on hb8)
  clear Vb
  have Vb := Vb'
  clear Vb'
  have V4' := Lib.hid (V4.out.on hb8)
  clear V4
  have V4 := V4'
  clear V4'
  have V5' := Lib.hid (V5.out.on hb8)
  clear V5
  have V5 := V5'
  clear V5'
  have TA' := Lib.hid (TA.out.on hb8)
  clear TA
  have TA := TA'
  clear TA'
  have HB' := Lib.hid (HB.out.trans (hb8.mono HB.out.size))
  clear HB
  have HB := HB'
  clear HB'
  have TW := Lib.hid ht8
  clear ht8 hb8
  cases one
  · skip
    have kV40 := V4.out.c0
    have kV41 := V4.out.c1
    go_wp2_with fail
    refine (HT0.out _ _ _ _ _ _ _ _ _ _ V4.out.arg P4.out TW.out).mono ?_
    rintro e x9 ⟨rfl, hb9⟩
    clear kV40 kV41
    have Va' := Lib.hid (Va.out.on hb9)
    clear Va
    have Va := Va'
    clear Va'
    have Vb' := Lib.hid (Vb.out.on hb9)
    clear Vb
    have Vb := Vb'
    clear Vb'
    have V4' := Lib.hid (V4.out.on hb9)
    clear V4
    have V4 := V4'
    clear V4'
    have V5' := Lib.hid (V5.out.on hb9)
    clear V5
    have V5 := V5'
    clear V5'
    have TA' := Lib.hid (TA.out.on hb9)
    clear TA
    have TA := TA'
    clear TA'
    have TW' := Lib.hid (TW.out.on hb9)
    clear TW
    have TW := TW'
    clear TW'
    have HB' := Lib.hid (HB.out.trans (hb9.mono HB.out.size))
    clear HB
    have HB := HB'
    clear HB'
    clear hb9
    have kVb0 := Vb.out.c0
    have kVb1 := Vb.out.c1
    go_wp2_with fail
    refine (HR2.out _ Vb.out.arg).mono ?_
    rintro e x10 ⟨rfl, hb10⟩
    clear kVb0 kVb1
    have Va' := Lib.hid (Va.out.on hb10)
    clear Va
    have Va := Va'
    clear Va'
    have Vb' := Lib.hid (Vb.out.on hb10)
    clear Vb
    have Vb := Vb'
    clear Vb'
    have V4' := Lib.hid (V4.out.on hb10)
    clear V4
    have V4 := V4'
    clear V4'
    have V5' := Lib.hid (V5.out.on hb10)
    clear V5
    have V5 := V5'
    clear V5'
    have TA' := Lib.hid (TA.out.on hb10)
    clear TA
    have TA := TA'
    clear TA'
    have TW' := Lib.hid (TW.out.on hb10)
    clear TW
    have TW := TW'
    clear TW'
    have HB' := Lib.hid (HB.out.trans (hb10.mono HB.out.size))
    clear HB
    have HB := HB'
    clear HB'
    clear hb10
    have kVa0 := Va.out.c0
    have kVa1 := Va.out.c1
    have kVb0 := Vb.out.c0
    have kVb1 := Vb.out.c1
    have kV50 := V5.out.c0
    have kV51 := V5.out.c1
    go_wp2_with fail
    refine (HTB2.out _ Vb.out.arg).mono ?_
    rintro e x11 ⟨B11, d11, rfl, ht11, hb11⟩
    clear kVa0 kVa1 kVb0 kVb1 kV50 kV51
    have Va' := Lib.hid (Va.out.on hb11)
    clear Va
    have Va := Va'
    clear Va'
    have Vb' := Lib.hid (Vb.out.on hb11)
    clear Vb
    have Vb := Vb'
    clear Vb'
    have V4' := Lib.hid (V4.out.on hb11)
    clear V4
    have V4 := V4'
    clear V4'
    have V5' := Lib.hid (V5.out.on hb11)
    clear V5
    have V5 := V5'
    clear V5'
    have TA' := Lib.hid (TA.out.on hb11)
    clear TA
    have TA := TA'
    clear TA'
    have TW' := Lib.hid (TW.out.on hb11)
    clear TW
    have TW := TW'
    clear TW'
    have HB' := Lib.hid (HB.out.trans (hb11.mono HB.out.size))
    clear HB
    have HB := HB'
    clear HB'
    have TB := Lib.hid ht11
    clear ht11 hb11
    go_wp2_with fail
    refine (HRC.out _ _ _ _ _ TA.out TB.out).mono ?_
    rintro e x12 ⟨B12, d12, rfl, ht12, hb12⟩
    have Va' := Lib.hid (Va.out.on hb12)
    clear Va
    have Va := Va'
    clear Va'
    have Vb' := Lib.hid (Vb.out.on hb12)
    clear Vb
    have Vb := Vb'
    clear Vb'
    have V4' := Lib.hid (V4.out.on hb12)
    clear V4
    have V4 := V4'
    clear V4'
    have V5' := Lib.hid (V5.out.on hb12)
    clear V5
    have V5 := V5'
    clear V5'
    have TA' := Lib.hid (TA.out.on hb12)
    clear TA
    have TA := TA'
    clear TA'
    have TW' := Lib.hid (TW.out.on hb12)
    clear TW
    have TW := TW'
    clear TW'
    have TB' := Lib.hid (TB.out.on hb12)
    clear TB
    have TB := TB'
    clear TB'
    have HB' := Lib.hid (HB.out.trans (hb12.mono HB.out.size))
    clear HB
    have HB := HB'
    clear HB'
    have TC := Lib.hid ht12
    clear ht12 hb12
    have kV50 := V5.out.c0
    have kV51 := V5.out.c1
    go_wp2_with fail
    refine (HT0.out _ _ _ _ _ _ _ _ _ _ V5.out.arg P5.out TC.out).mono ?_
    rintro e x13 ⟨rfl, hb13⟩
    clear kV50 kV51
    have Va' := Lib.hid (Va.out.on hb13)
    clear Va
    have Va := Va'
    clear Va'
    have Vb' := Lib.hid (Vb.out.on hb13)
    clear Vb
    have Vb := Vb'
    clear Vb'
    have V4' := Lib.hid (V4.out.on hb13)
    clear V4
    have V4 := V4'
    clear V4'
    have V5' := Lib.hid (V5.out.on hb13)
    clear V5
    have V5 := V5'
    clear V5'
    have TA' := Lib.hid (TA.out.on hb13)
    clear TA
    have TA := TA'
    clear TA'
    have TW' := Lib.hid (TW.out.on hb13)
    clear TW
    have TW := TW'
    clear TW'
    have TB' := Lib.hid (TB.out.on hb13)
    clear TB
    have TB := TB'
    clear TB'
    have TC' := Lib.hid (TC.out.on hb13)
    clear TC
    have TC := TC'
    clear TC'
    have HB' := Lib.hid (HB.out.trans (hb13.mono HB.out.size))
    clear HB
    have HB := HB'
    clear HB'
    clear hb13
    go_wp2_with fail
    go_ret
    exact ⟨rfl, HB.out⟩
  · skip
    go_wp2_with fail
    refine (HRW.out _ 1 (by omega) _ _ TA.out).mono ?_
    rintro e x9 ⟨B9, d9, rfl, ht9, hb9⟩
    have Va' := Lib.hid (Va.out.on hb9)
    clear Va
    have Va := Va'
    clear Va'
    have Vb' := Lib.hid (Vb.out.on hb9)
    clear Vb
    have Vb := Vb'
    clear Vb'
    have V4' := Lib.hid (V4.out.on hb9)
    clear V4
    have V4 := V4'
    clear V4'
    have V5' := Lib.hid (V5.out.on hb9)
    clear V5
    have V5 := V5'
    clear V5'
    have TA' := Lib.hid (TA.out.on hb9)
    clear TA
    have TA := TA'
    clear TA'
    have TW' := Lib.hid (TW.out.on hb9)
    clear TW
    have TW := TW'
    clear TW'
    have HB' := Lib.hid (HB.out.trans (hb9.mono HB.out.size))
    clear HB
    have HB := HB'
    clear HB'
    have TV := Lib.hid ht9
    clear ht9 hb9
    have kV40 := V4.out.c0
    have kV41 := V4.out.c1
    go_wp2_with fail
    refine (HT0.out _ _ _ _ _ _ _ _ _ _ V4.out.arg P4.out TV.out).mono ?_
    rintro e x10 ⟨rfl, hb10⟩
    clear kV40 kV41
    have Va' := Lib.hid (Va.out.on hb10)
    clear Va
    have Va := Va'
    clear Va'
    have Vb' := Lib.hid (Vb.out.on hb10)
    clear Vb
    have Vb := Vb'
    clear Vb'
    have V4' := Lib.hid (V4.out.on hb10)
    clear V4
    have V4 := V4'
    clear V4'
    have V5' := Lib.hid (V5.out.on hb10)
    clear V5
    have V5 := V5'
    clear V5'
    have TA' := Lib.hid (TA.out.on hb10)
    clear TA
    have TA := TA'
    clear TA'
    have TW' := Lib.hid (TW.out.on hb10)
    clear TW
    have TW := TW'
    clear TW'
    have TV' := Lib.hid (TV.out.on hb10)
    clear TV
    have TV := TV'
    clear TV'
    have HB' := Lib.hid (HB.out.trans (hb10.mono HB.out.size))
    clear HB
    have HB := HB'
    clear HB'
    clear hb10
    have kVb0 := Vb.out.c0
    have kVb1 := Vb.out.c1
    go_wp2_with fail
    refine (HR2.out _ Vb.out.arg).mono ?_
    rintro e x11 ⟨rfl, hb11⟩
    clear kVb0 kVb1
    have Va' := Lib.hid (Va.out.on hb11)
    clear Va
    have Va := Va'
    clear Va'
    have Vb' := Lib.hid (Vb.out.on hb11)
    clear Vb
    have Vb := Vb'
    clear Vb'
    have V4' := Lib.hid (V4.out.on hb11)
    clear V4
    have V4 := V4'
    clear V4'
    have V5' := Lib.hid (V5.out.on hb11)
    clear V5
    have V5 := V5'
    clear V5'
    have TA' := Lib.hid (TA.out.on hb11)
    clear TA
    have TA := TA'
    clear TA'
    have TW' := Lib.hid (TW.out.on hb11)
    clear TW
    have TW := TW'
    clear TW'
    have TV' := Lib.hid (TV.out.on hb11)
    clear TV
    have TV := TV'
    clear TV'
    have HB' := Lib.hid (HB.out.trans (hb11.mono HB.out.size))
    clear HB
    have HB := HB'
    clear HB'
    clear hb11
    have kVa0 := Va.out.c0
    have kVa1 := Va.out.c1
    have kVb0 := Vb.out.c0
    have kVb1 := Vb.out.c1
    have kV50 := V5.out.c0
    have kV51 := V5.out.c1
    go_wp2_with fail
    refine (HTB2.out _ Vb.out.arg).mono ?_
    rintro e x12 ⟨B12, d12, rfl, ht12, hb12⟩
    clear kVa0 kVa1 kVb0 kVb1 kV50 kV51
    have Va' := Lib.hid (Va.out.on hb12)
    clear Va
    have Va := Va'
    clear Va'
    have Vb' := Lib.hid (Vb.out.on hb12)
    clear Vb
    have Vb := Vb'
    clear Vb'
    have V4' := Lib.hid (V4.out.on hb12)
    clear V4
    have V4 := V4'
    clear V4'
    have V5' := Lib.hid (V5.out.on hb12)
    clear V5
    have V5 := V5'
    clear V5'
    have TA' := Lib.hid (TA.out.on hb12)
    clear TA
    have TA := TA'
    clear TA'
    have TW' := Lib.hid (TW.out.on hb12)
    clear TW
    have TW := TW'
    clear TW'
    have TV' := Lib.hid (TV.out.on hb12)
    clear TV
    have TV := TV'
    clear TV'
    have HB' := Lib.hid (HB.out.trans (hb12.mono HB.out.size))
    clear HB
    have HB := HB'
    clear HB'
    have TB := Lib.hid ht12
    clear ht12 hb12
    go_wp2_with fail
    refine (HRC.out _ _ _ _ _ TA.out TB.out).mono ?_
    rintro e x13 ⟨B13, d13, rfl, ht13, hb13⟩
    have Va' := Lib.hid (Va.out.on hb13)
    clear Va
    have Va := Va'
    clear Va'
    have Vb' := Lib.hid (Vb.out.on hb13)
    clear Vb
    have Vb := Vb'
    clear Vb'
    have V4' := Lib.hid (V4.out.on hb13)
    clear V4
    have V4 := V4'
    clear V4'
    have V5' := Lib.hid (V5.out.on hb13)
    clear V5
    have V5 := V5'
    clear V5'
    have TA' := Lib.hid (TA.out.on hb13)
    clear TA
    have TA := TA'
    clear TA'
    have TW' := Lib.hid (TW.out.on hb13)
    clear TW
    have TW := TW'
    clear TW'
    have TV' := Lib.hid (TV.out.on hb13)
    clear TV
    have TV := TV'
    clear TV'
    have TB' := Lib.hid (TB.out.on hb13)
    clear TB
    have TB := TB'
    clear TB'
    have HB' := Lib.hid (HB.out.trans (hb13.mono HB.out.size))
    clear HB
    have HB := HB'
    clear HB'
    have TC := Lib.hid ht13
    clear ht13 hb13
    have kV50 := V5.out.c0
    have kV51 := V5.out.c1
    go_wp2_with fail
    refine (HT0.out _ _ _ _ _ _ _ _ _ _ V5.out.arg P5.out TC.out).mono ?_
    rintro e x14 ⟨rfl, hb14⟩
    clear kV50 kV51
    have Va' := Lib.hid (Va.out.on hb14)
    clear Va
    have Va := Va'
    clear Va'
    have Vb' := Lib.hid (Vb.out.on hb14)
    clear Vb
    have Vb := Vb'
    clear Vb'
    have V4' := Lib.hid (V4.out.on hb14)
    clear V4
    have V4 := V4'
    clear V4'
    have V5' := Lib.hid (V5.out.on hb14)
    clear V5
    have V5 := V5'
    clear V5'
    have TA' := Lib.hid (TA.out.on hb14)
    clear TA
    have TA := TA'
    clear TA'
    have TW' := Lib.hid (TW.out.on hb14)
    clear TW
    have TW := TW'
    clear TW'
    have TV' := Lib.hid (TV.out.on hb14)
    clear TV
    have TV := TV'
    clear TV'
    have TB' := Lib.hid (TB.out.on hb14)
    clear TB
    have TB := TB'
    clear TB'
    have TC' := Lib.hid (TC.out.on hb14)
    clear TC
    have TC := TC'
    clear TC'
    have HB' := Lib.hid (HB.out.trans (hb14.mono HB.out.size))
    clear HB
    have HB := HB'
    clear HB'
    clear hb14
    go_wp2_with fail
    go_ret
    exact ⟨rfl, HB.out⟩
theorem swith_walk (m1 : Int) (A1 : Option Addr) (l1 c1 : Nat) (ws1 : List Nat) (m2 : Int) (A2 : Option Addr) (l2 c2 : Nat) (ws2 : List Nat) (v : Int) (one : Bool) (w : World) (h1 : SetArg w m1 A1 l1 c1 ws1) (h2 : SetArg w m2 A2 l2 c2 ws2) :
    Calls Tryd.prog 3 #[.agg #[.int .i64 m1, .slice A1 l1 c1], .agg #[.int .i64 m2, .slice A2 l2 c2], .int .i64 v, .bool one] w fun e w' => e = .returned (.bool true) ∧ Below w.heap.size w w' := by
  cases hg1 : greatB m1 l1
  case true => exact swl_great1 m1 m2 v one A1 A2 l1 l2 c1 c2 ws1 ws2 w h1 h2 hg1
  cases hg2 : greatB m2 l2
  case true => exact swl_great2 m1 m2 v one A1 A2 l1 l2 c1 c2 ws1 ws2 w h1 h2 hg1 hg2
  cases hr : srightB m1 ws1
  case false => exact swl_no m1 m2 v one A1 A2 l1 l2 c1 c2 ws1 ws2 w h1 h2 hg1 hg2 hr
  obtain ⟨n, rfl, ok1⟩ := sright_nat h1.lt hr
  by_cases hc : srightB m2 ws2 = true ∧ m2 = (n : Nat)
  · obtain ⟨hc, rfl⟩ := hc
    obtain ⟨_, ok2⟩ := (sright_iff h2.lt).1 hc
    rw [Int.toNat_natCast] at ok2
    by_cases hv : 0 ≤ v ∧ v < n
    · obtain ⟨q, rfl⟩ := Int.eq_ofNat_of_zero_le hv.1
      exact swl_ig n q (by omega) one A1 A2 l1 l2 c1 c2 ws1 ws2 w h1 h2 hg1 hg2 ok1 ok2
    · exact swl_og n v (by omega) one A1 A2 l1 l2 c1 c2 ws1 ws2 w h1 h2 hg1 hg2 ok1 ok2
  · have hno : srightB m2 ws2 = false ∨ (srightB m2 ws2 = true ∧ m2 ≠ (n : Nat)) := by
      cases h : srightB m2 ws2
      · exact .inl rfl
      · exact .inr ⟨rfl, fun e => hc ⟨h, e⟩⟩
    by_cases hv : 0 ≤ v ∧ v < n
    · obtain ⟨q, rfl⟩ := Int.eq_ofNat_of_zero_le hv.1
      exact swl_ix n m2 q (by omega) one A1 A2 l1 l2 c1 c2 ws1 ws2 w h1 h2 hg1 hg2 ok1 hno
    · exact swl_ox n m2 v (by omega) one A1 A2 l1 l2 c1 c2 ws1 ws2 w h1 h2 hg1 hg2 ok1 hno
end Go.Proofs.YtdhfpnbpkbelmaaDoor
