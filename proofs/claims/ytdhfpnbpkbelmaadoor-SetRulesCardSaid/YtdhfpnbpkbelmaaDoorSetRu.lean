/- SetRules: the walk. -/
import Derived.Test.YtdhfpnbpkbelmaaDoorSetRuP
import Derived.Deep.DeepCutAuto
namespace Go.Proofs.YtdhfpnbpkbelmaaDoor
open Go.RowKit Go.Sort
set_option linter.unusedSimpArgs false
set_option linter.unusedVariables false

set_option maxRecDepth 100000 in
set_option maxHeartbeats 8000000 in
theorem srul_x0 (m1 m2 v : Int) (vars : Nat) (hv16 : vars < 65536) (A1 A2 : Option Addr) (l1 l2 c1 c2 : Nat) (ws1 ws2 : List Nat) (w : World) (h1 : SetArg w m1 A1 l1 c1 ws1) (h2 : SetArg w m2 A2 l2 c2 ws2) (hg1 : greatB m1 l1 = true) :
    Calls Tryd.prog 6 #[setA m1 A1 l1 c1, setA m2 A2 l2 c2, .int .i64 v, .int .u16 (vars : Nat)] w fun e w' => e = .returned (.bool true) ∧ Below w.heap.size w w' := by
  have HAV := Lib.hid (fun W => alive5_any W)
  have HG1 := Lib.hid (fun W => great_any m1 A1 l1 c1 W)
  have HG2 := Lib.hid (fun W => great_any m2 A2 l2 c2 W)
  have HR1 := Lib.hid (fun W (h1 : SetArg W m1 A1 l1 c1 ws1) => rright_any m1 A1 l1 c1 ws1 W h1)
  have HR2 := Lib.hid (fun W (h1 : SetArg W m2 A2 l2 c2 ws2) => rright_any m2 A2 l2 c2 ws2 W h1)
  rw [hg1] at HG1
  unfold setA at *
  obtain ⟨W0, hW0⟩ : ∃ W0, W0 = ((w.alloc (.cells #[.int .i64 (m1), .slice A1 l1 c1] 24)).alloc (.cells #[.int .i64 (m2), .slice A2 l2 c2] 24)) := ⟨_, rfl⟩
  have hb0 : Below w.heap.size w W0 := by rw [hW0]; exact (((Below.refl _ _).alloc (by simp) (.cells #[.int .i64 (m1), .slice A1 l1 c1] 24)).alloc (by simp) (.cells #[.int .i64 (m2), .slice A2 l2 c2] 24))
  have hv0 : SetVar W0 (w.heap.size) (m1) A1 l1 c1 ws1 := by
    have := SetVar.new h1
    rw [hW0]; exact (this.alloc _)
  have hv1 : SetVar W0 (w.heap.size + 1) (m2) A2 l2 c2 ws2 := by
    have := SetVar.new (h2.alloc (.cells #[.int .i64 (m1), .slice A1 l1 c1] 24))
    simp only [World.size_alloc] at this
    rw [hW0]; exact this
  have HWW := Lib.hid hW0
  have HB := Lib.hid hb0
  have Va := Lib.hid hv0
  have Vb := Lib.hid hv1
  clear hb0 hv0 hv1 h1 h2 hg1
  go_enter Tryd.func6, Tryd.ntmps6
  go_wp2_with fail
  rw [← HWW.out]
  clear hW0
  go_wp2_with fail
  refine (HAV.out _).mono ?_
  rintro e x1 ⟨rfl, hb1⟩
  have Va' := Lib.hid (Va.out.on hb1)
  clear Va
  have Va := Va'
  clear Va'
  have Vb' := Lib.hid (Vb.out.on hb1)
  clear Vb
  have Vb := Vb'
  clear Vb'
  have HB' := Lib.hid (HB.out.trans (hb1.mono HB.out.size))
  clear HB
  have HB := HB'
  clear HB'
  clear hb1
  have kVa0 := Va.out.c0
  have kVa1 := Va.out.c1
  go_wp2_with fail
  refine (HG1.out _).mono ?_
  rintro e x2 ⟨rfl, hb2⟩
  clear kVa0 kVa1
  have Va' := Lib.hid (Va.out.on hb2)
  clear Va
  have Va := Va'
  clear Va'
  have Vb' := Lib.hid (Vb.out.on hb2)
  clear Vb
  have Vb := Vb'
  clear Vb'
  have HB' := Lib.hid (HB.out.trans (hb2.mono HB.out.size))
  clear HB
  have HB := HB'
  clear HB'
  clear hb2
  go_wp2_with fail
  go_ret
  exact ⟨rfl, HB.out⟩
set_option maxRecDepth 100000 in
set_option maxHeartbeats 8000000 in
theorem srul_x1 (m1 m2 v : Int) (vars : Nat) (hv16 : vars < 65536) (A1 A2 : Option Addr) (l1 l2 c1 c2 : Nat) (ws1 ws2 : List Nat) (w : World) (h1 : SetArg w m1 A1 l1 c1 ws1) (h2 : SetArg w m2 A2 l2 c2 ws2) (hg1 : greatB m1 l1 = false) (hg2 : greatB m2 l2 = true) :
    Calls Tryd.prog 6 #[setA m1 A1 l1 c1, setA m2 A2 l2 c2, .int .i64 v, .int .u16 (vars : Nat)] w fun e w' => e = .returned (.bool true) ∧ Below w.heap.size w w' := by
  have HAV := Lib.hid (fun W => alive5_any W)
  have HG1 := Lib.hid (fun W => great_any m1 A1 l1 c1 W)
  have HG2 := Lib.hid (fun W => great_any m2 A2 l2 c2 W)
  have HR1 := Lib.hid (fun W (h1 : SetArg W m1 A1 l1 c1 ws1) => rright_any m1 A1 l1 c1 ws1 W h1)
  have HR2 := Lib.hid (fun W (h1 : SetArg W m2 A2 l2 c2 ws2) => rright_any m2 A2 l2 c2 ws2 W h1)
  rw [hg1] at HG1
  rw [hg2] at HG2
  unfold setA at *
  obtain ⟨W0, hW0⟩ : ∃ W0, W0 = ((w.alloc (.cells #[.int .i64 (m1), .slice A1 l1 c1] 24)).alloc (.cells #[.int .i64 (m2), .slice A2 l2 c2] 24)) := ⟨_, rfl⟩
  have hb0 : Below w.heap.size w W0 := by rw [hW0]; exact (((Below.refl _ _).alloc (by simp) (.cells #[.int .i64 (m1), .slice A1 l1 c1] 24)).alloc (by simp) (.cells #[.int .i64 (m2), .slice A2 l2 c2] 24))
  have hv0 : SetVar W0 (w.heap.size) (m1) A1 l1 c1 ws1 := by
    have := SetVar.new h1
    rw [hW0]; exact (this.alloc _)
  have hv1 : SetVar W0 (w.heap.size + 1) (m2) A2 l2 c2 ws2 := by
    have := SetVar.new (h2.alloc (.cells #[.int .i64 (m1), .slice A1 l1 c1] 24))
    simp only [World.size_alloc] at this
    rw [hW0]; exact this
  have HWW := Lib.hid hW0
  have HB := Lib.hid hb0
  have Va := Lib.hid hv0
  have Vb := Lib.hid hv1
  clear hb0 hv0 hv1 h1 h2 hg1 hg2
  go_enter Tryd.func6, Tryd.ntmps6
  go_wp2_with fail
  rw [← HWW.out]
  clear hW0
  go_wp2_with fail
  refine (HAV.out _).mono ?_
  rintro e x1 ⟨rfl, hb1⟩
  have Va' := Lib.hid (Va.out.on hb1)
  clear Va
  have Va := Va'
  clear Va'
  have Vb' := Lib.hid (Vb.out.on hb1)
  clear Vb
  have Vb := Vb'
  clear Vb'
  have HB' := Lib.hid (HB.out.trans (hb1.mono HB.out.size))
  clear HB
  have HB := HB'
  clear HB'
  clear hb1
  have kVa0 := Va.out.c0
  have kVa1 := Va.out.c1
  go_wp2_with fail
  refine (HG1.out _).mono ?_
  rintro e x2 ⟨rfl, hb2⟩
  clear kVa0 kVa1
  have Va' := Lib.hid (Va.out.on hb2)
  clear Va
  have Va := Va'
  clear Va'
  have Vb' := Lib.hid (Vb.out.on hb2)
  clear Vb
  have Vb := Vb'
  clear Vb'
  have HB' := Lib.hid (HB.out.trans (hb2.mono HB.out.size))
  clear HB
  have HB := HB'
  clear HB'
  clear hb2
  have kVb0 := Vb.out.c0
  have kVb1 := Vb.out.c1
  go_wp2_with fail
  refine (HG2.out _).mono ?_
  rintro e x3 ⟨rfl, hb3⟩
  clear kVb0 kVb1
  have Va' := Lib.hid (Va.out.on hb3)
  clear Va
  have Va := Va'
  clear Va'
  have Vb' := Lib.hid (Vb.out.on hb3)
  clear Vb
  have Vb := Vb'
  clear Vb'
  have HB' := Lib.hid (HB.out.trans (hb3.mono HB.out.size))
  clear HB
  have HB := HB'
  clear HB'
  clear hb3
  go_wp2_with fail
  go_ret
  exact ⟨rfl, HB.out⟩
set_option maxRecDepth 100000 in
set_option maxHeartbeats 8000000 in
theorem srul_x2 (m1 m2 v : Int) (vars : Nat) (hv16 : vars < 65536) (A1 A2 : Option Addr) (l1 l2 c1 c2 : Nat) (ws1 ws2 : List Nat) (w : World) (h1 : SetArg w m1 A1 l1 c1 ws1) (h2 : SetArg w m2 A2 l2 c2 ws2) (hg1 : greatB m1 l1 = false) (hg2 : greatB m2 l2 = false) (hr1 : srightB m1 ws1 = false) :
    Calls Tryd.prog 6 #[setA m1 A1 l1 c1, setA m2 A2 l2 c2, .int .i64 v, .int .u16 (vars : Nat)] w fun e w' => e = .returned (.bool true) ∧ Below w.heap.size w w' := by
  have HAV := Lib.hid (fun W => alive5_any W)
  have HG1 := Lib.hid (fun W => great_any m1 A1 l1 c1 W)
  have HG2 := Lib.hid (fun W => great_any m2 A2 l2 c2 W)
  have HR1 := Lib.hid (fun W (h1 : SetArg W m1 A1 l1 c1 ws1) => rright_any m1 A1 l1 c1 ws1 W h1)
  have HR2 := Lib.hid (fun W (h1 : SetArg W m2 A2 l2 c2 ws2) => rright_any m2 A2 l2 c2 ws2 W h1)
  rw [hg1] at HG1
  rw [hg2] at HG2
  rw [hr1] at HR1
  unfold setA at *
  obtain ⟨W0, hW0⟩ : ∃ W0, W0 = ((w.alloc (.cells #[.int .i64 (m1), .slice A1 l1 c1] 24)).alloc (.cells #[.int .i64 (m2), .slice A2 l2 c2] 24)) := ⟨_, rfl⟩
  have hb0 : Below w.heap.size w W0 := by rw [hW0]; exact (((Below.refl _ _).alloc (by simp) (.cells #[.int .i64 (m1), .slice A1 l1 c1] 24)).alloc (by simp) (.cells #[.int .i64 (m2), .slice A2 l2 c2] 24))
  have hv0 : SetVar W0 (w.heap.size) (m1) A1 l1 c1 ws1 := by
    have := SetVar.new h1
    rw [hW0]; exact (this.alloc _)
  have hv1 : SetVar W0 (w.heap.size + 1) (m2) A2 l2 c2 ws2 := by
    have := SetVar.new (h2.alloc (.cells #[.int .i64 (m1), .slice A1 l1 c1] 24))
    simp only [World.size_alloc] at this
    rw [hW0]; exact this
  have HWW := Lib.hid hW0
  have HB := Lib.hid hb0
  have Va := Lib.hid hv0
  have Vb := Lib.hid hv1
  clear hb0 hv0 hv1 h1 h2 hg1 hg2 hr1
  go_enter Tryd.func6, Tryd.ntmps6
  go_wp2_with fail
  rw [← HWW.out]
  clear hW0
  go_wp2_with fail
  refine (HAV.out _).mono ?_
  rintro e x1 ⟨rfl, hb1⟩
  have Va' := Lib.hid (Va.out.on hb1)
  clear Va
  have Va := Va'
  clear Va'
  have Vb' := Lib.hid (Vb.out.on hb1)
  clear Vb
  have Vb := Vb'
  clear Vb'
  have HB' := Lib.hid (HB.out.trans (hb1.mono HB.out.size))
  clear HB
  have HB := HB'
  clear HB'
  clear hb1
  have kVa0 := Va.out.c0
  have kVa1 := Va.out.c1
  go_wp2_with fail
  refine (HG1.out _).mono ?_
  rintro e x2 ⟨rfl, hb2⟩
  clear kVa0 kVa1
  have Va' := Lib.hid (Va.out.on hb2)
  clear Va
  have Va := Va'
  clear Va'
  have Vb' := Lib.hid (Vb.out.on hb2)
  clear Vb
  have Vb := Vb'
  clear Vb'
  have HB' := Lib.hid (HB.out.trans (hb2.mono HB.out.size))
  clear HB
  have HB := HB'
  clear HB'
  clear hb2
  have kVb0 := Vb.out.c0
  have kVb1 := Vb.out.c1
  go_wp2_with fail
  refine (HG2.out _).mono ?_
  rintro e x3 ⟨rfl, hb3⟩
  clear kVb0 kVb1
  have Va' := Lib.hid (Va.out.on hb3)
  clear Va
  have Va := Va'
  clear Va'
  have Vb' := Lib.hid (Vb.out.on hb3)
  clear Vb
  have Vb := Vb'
  clear Vb'
  have HB' := Lib.hid (HB.out.trans (hb3.mono HB.out.size))
  clear HB
  have HB := HB'
  clear HB'
  clear hb3
  have kVa0 := Va.out.c0
  have kVa1 := Va.out.c1
  go_wp2_with fail
  refine (HR1.out _ Va.out.arg).mono ?_
  rintro e x4 ⟨rfl, hb4⟩
  clear kVa0 kVa1
  have Va' := Lib.hid (Va.out.on hb4)
  clear Va
  have Va := Va'
  clear Va'
  have Vb' := Lib.hid (Vb.out.on hb4)
  clear Vb
  have Vb := Vb'
  clear Vb'
  have HB' := Lib.hid (HB.out.trans (hb4.mono HB.out.size))
  clear HB
  have HB := HB'
  clear HB'
  clear hb4
  go_wp2_with fail
  go_ret
  exact ⟨rfl, HB.out⟩
set_option maxRecDepth 100000 in
set_option maxHeartbeats 8000000 in
theorem srul_x3 (m1 m2 v : Int) (vars : Nat) (hv16 : vars < 65536) (A1 A2 : Option Addr) (l1 l2 c1 c2 : Nat) (ws1 ws2 : List Nat) (w : World) (h1 : SetArg w m1 A1 l1 c1 ws1) (h2 : SetArg w m2 A2 l2 c2 ws2) (hg1 : greatB m1 l1 = false) (hg2 : greatB m2 l2 = false) (hr1 : srightB m1 ws1 = true) (hr2 : srightB m2 ws2 = false) :
    Calls Tryd.prog 6 #[setA m1 A1 l1 c1, setA m2 A2 l2 c2, .int .i64 v, .int .u16 (vars : Nat)] w fun e w' => e = .returned (.bool true) ∧ Below w.heap.size w w' := by
  have HAV := Lib.hid (fun W => alive5_any W)
  have HG1 := Lib.hid (fun W => great_any m1 A1 l1 c1 W)
  have HG2 := Lib.hid (fun W => great_any m2 A2 l2 c2 W)
  have HR1 := Lib.hid (fun W (h1 : SetArg W m1 A1 l1 c1 ws1) => rright_any m1 A1 l1 c1 ws1 W h1)
  have HR2 := Lib.hid (fun W (h1 : SetArg W m2 A2 l2 c2 ws2) => rright_any m2 A2 l2 c2 ws2 W h1)
  rw [hg1] at HG1
  rw [hg2] at HG2
  rw [hr1] at HR1
  rw [hr2] at HR2
  unfold setA at *
  obtain ⟨W0, hW0⟩ : ∃ W0, W0 = ((w.alloc (.cells #[.int .i64 (m1), .slice A1 l1 c1] 24)).alloc (.cells #[.int .i64 (m2), .slice A2 l2 c2] 24)) := ⟨_, rfl⟩
  have hb0 : Below w.heap.size w W0 := by rw [hW0]; exact (((Below.refl _ _).alloc (by simp) (.cells #[.int .i64 (m1), .slice A1 l1 c1] 24)).alloc (by simp) (.cells #[.int .i64 (m2), .slice A2 l2 c2] 24))
  have hv0 : SetVar W0 (w.heap.size) (m1) A1 l1 c1 ws1 := by
    have := SetVar.new h1
    rw [hW0]; exact (this.alloc _)
  have hv1 : SetVar W0 (w.heap.size + 1) (m2) A2 l2 c2 ws2 := by
    have := SetVar.new (h2.alloc (.cells #[.int .i64 (m1), .slice A1 l1 c1] 24))
    simp only [World.size_alloc] at this
    rw [hW0]; exact this
  have HWW := Lib.hid hW0
  have HB := Lib.hid hb0
  have Va := Lib.hid hv0
  have Vb := Lib.hid hv1
  clear hb0 hv0 hv1 h1 h2 hg1 hg2 hr1 hr2
  go_enter Tryd.func6, Tryd.ntmps6
  go_wp2_with fail
  rw [← HWW.out]
  clear hW0
  go_wp2_with fail
  refine (HAV.out _).mono ?_
  rintro e x1 ⟨rfl, hb1⟩
  have Va' := Lib.hid (Va.out.on hb1)
  clear Va
  have Va := Va'
  clear Va'
  have Vb' := Lib.hid (Vb.out.on hb1)
  clear Vb
  have Vb := Vb'
  clear Vb'
  have HB' := Lib.hid (HB.out.trans (hb1.mono HB.out.size))
  clear HB
  have HB := HB'
  clear HB'
  clear hb1
  have kVa0 := Va.out.c0
  have kVa1 := Va.out.c1
  go_wp2_with fail
  refine (HG1.out _).mono ?_
  rintro e x2 ⟨rfl, hb2⟩
  clear kVa0 kVa1
  have Va' := Lib.hid (Va.out.on hb2)
  clear Va
  have Va := Va'
  clear Va'
  have Vb' := Lib.hid (Vb.out.on hb2)
  clear Vb
  have Vb := Vb'
  clear Vb'
  have HB' := Lib.hid (HB.out.trans (hb2.mono HB.out.size))
  clear HB
  have HB := HB'
  clear HB'
  clear hb2
  have kVb0 := Vb.out.c0
  have kVb1 := Vb.out.c1
  go_wp2_with fail
  refine (HG2.out _).mono ?_
  rintro e x3 ⟨rfl, hb3⟩
  clear kVb0 kVb1
  have Va' := Lib.hid (Va.out.on hb3)
  clear Va
  have Va := Va'
  clear Va'
  have Vb' := Lib.hid (Vb.out.on hb3)
  clear Vb
  have Vb := Vb'
  clear Vb'
  have HB' := Lib.hid (HB.out.trans (hb3.mono HB.out.size))
  clear HB
  have HB := HB'
  clear HB'
  clear hb3
  have kVa0 := Va.out.c0
  have kVa1 := Va.out.c1
  go_wp2_with fail
  refine (HR1.out _ Va.out.arg).mono ?_
  rintro e x4 ⟨rfl, hb4⟩
  clear kVa0 kVa1
  have Va' := Lib.hid (Va.out.on hb4)
  clear Va
  have Va := Va'
  clear Va'
  have Vb' := Lib.hid (Vb.out.on hb4)
  clear Vb
  have Vb := Vb'
  clear Vb'
  have HB' := Lib.hid (HB.out.trans (hb4.mono HB.out.size))
  clear HB
  have HB := HB'
  clear HB'
  clear hb4
  have kVb0 := Vb.out.c0
  have kVb1 := Vb.out.c1
  go_wp2_with fail
  refine (HR2.out _ Vb.out.arg).mono ?_
  rintro e x5 ⟨rfl, hb5⟩
  clear kVb0 kVb1
  have Va' := Lib.hid (Va.out.on hb5)
  clear Va
  have Va := Va'
  clear Va'
  have Vb' := Lib.hid (Vb.out.on hb5)
  clear Vb
  have Vb := Vb'
  clear Vb'
  have HB' := Lib.hid (HB.out.trans (hb5.mono HB.out.size))
  clear HB
  have HB := HB'
  clear HB'
  clear hb5
  go_wp2_with fail
  go_ret
  exact ⟨rfl, HB.out⟩
set_option maxRecDepth 100000 in
set_option maxHeartbeats 8000000 in
theorem srul_x4 (m1 m2 v : Int) (vars : Nat) (hv16 : vars < 65536) (A1 A2 : Option Addr) (l1 l2 c1 c2 : Nat) (ws1 ws2 : List Nat) (w : World) (h1 : SetArg w m1 A1 l1 c1 ws1) (h2 : SetArg w m2 A2 l2 c2 ws2) (hg1 : greatB m1 l1 = false) (hg2 : greatB m2 l2 = false) (hr1 : srightB m1 ws1 = true) (hr2 : srightB m2 ws2 = true) (hne : m1 ≠ m2) :
    Calls Tryd.prog 6 #[setA m1 A1 l1 c1, setA m2 A2 l2 c2, .int .i64 v, .int .u16 (vars : Nat)] w fun e w' => e = .returned (.bool true) ∧ Below w.heap.size w w' := by
  have HAV := Lib.hid (fun W => alive5_any W)
  have HG1 := Lib.hid (fun W => great_any m1 A1 l1 c1 W)
  have HG2 := Lib.hid (fun W => great_any m2 A2 l2 c2 W)
  have HR1 := Lib.hid (fun W (h1 : SetArg W m1 A1 l1 c1 ws1) => rright_any m1 A1 l1 c1 ws1 W h1)
  have HR2 := Lib.hid (fun W (h1 : SetArg W m2 A2 l2 c2 ws2) => rright_any m2 A2 l2 c2 ws2 W h1)
  rw [hg1] at HG1
  rw [hg2] at HG2
  rw [hr1] at HR1
  rw [hr2] at HR2
  have hb : (m1 != m2) = true := by rw [bne_iff_ne]; exact hne
  unfold setA at *
  obtain ⟨W0, hW0⟩ : ∃ W0, W0 = ((w.alloc (.cells #[.int .i64 (m1), .slice A1 l1 c1] 24)).alloc (.cells #[.int .i64 (m2), .slice A2 l2 c2] 24)) := ⟨_, rfl⟩
  have hb0 : Below w.heap.size w W0 := by rw [hW0]; exact (((Below.refl _ _).alloc (by simp) (.cells #[.int .i64 (m1), .slice A1 l1 c1] 24)).alloc (by simp) (.cells #[.int .i64 (m2), .slice A2 l2 c2] 24))
  have hv0 : SetVar W0 (w.heap.size) (m1) A1 l1 c1 ws1 := by
    have := SetVar.new h1
    rw [hW0]; exact (this.alloc _)
  have hv1 : SetVar W0 (w.heap.size + 1) (m2) A2 l2 c2 ws2 := by
    have := SetVar.new (h2.alloc (.cells #[.int .i64 (m1), .slice A1 l1 c1] 24))
    simp only [World.size_alloc] at this
    rw [hW0]; exact this
  have HWW := Lib.hid hW0
  have HB := Lib.hid hb0
  have Va := Lib.hid hv0
  have Vb := Lib.hid hv1
  clear hb0 hv0 hv1 h1 h2 hg1 hg2 hr1 hr2
  go_enter Tryd.func6, Tryd.ntmps6
  go_wp2_with fail
  rw [← HWW.out]
  clear hW0
  go_wp2_with fail
  refine (HAV.out _).mono ?_
  rintro e x1 ⟨rfl, hb1⟩
  have Va' := Lib.hid (Va.out.on hb1)
  clear Va
  have Va := Va'
  clear Va'
  have Vb' := Lib.hid (Vb.out.on hb1)
  clear Vb
  have Vb := Vb'
  clear Vb'
  have HB' := Lib.hid (HB.out.trans (hb1.mono HB.out.size))
  clear HB
  have HB := HB'
  clear HB'
  clear hb1
  have kVa0 := Va.out.c0
  have kVa1 := Va.out.c1
  go_wp2_with fail
  refine (HG1.out _).mono ?_
  rintro e x2 ⟨rfl, hb2⟩
  clear kVa0 kVa1
  have Va' := Lib.hid (Va.out.on hb2)
  clear Va
  have Va := Va'
  clear Va'
  have Vb' := Lib.hid (Vb.out.on hb2)
  clear Vb
  have Vb := Vb'
  clear Vb'
  have HB' := Lib.hid (HB.out.trans (hb2.mono HB.out.size))
  clear HB
  have HB := HB'
  clear HB'
  clear hb2
  have kVb0 := Vb.out.c0
  have kVb1 := Vb.out.c1
  go_wp2_with fail
  refine (HG2.out _).mono ?_
  rintro e x3 ⟨rfl, hb3⟩
  clear kVb0 kVb1
  have Va' := Lib.hid (Va.out.on hb3)
  clear Va
  have Va := Va'
  clear Va'
  have Vb' := Lib.hid (Vb.out.on hb3)
  clear Vb
  have Vb := Vb'
  clear Vb'
  have HB' := Lib.hid (HB.out.trans (hb3.mono HB.out.size))
  clear HB
  have HB := HB'
  clear HB'
  clear hb3
  have kVa0 := Va.out.c0
  have kVa1 := Va.out.c1
  go_wp2_with fail
  refine (HR1.out _ Va.out.arg).mono ?_
  rintro e x4 ⟨rfl, hb4⟩
  clear kVa0 kVa1
  have Va' := Lib.hid (Va.out.on hb4)
  clear Va
  have Va := Va'
  clear Va'
  have Vb' := Lib.hid (Vb.out.on hb4)
  clear Vb
  have Vb := Vb'
  clear Vb'
  have HB' := Lib.hid (HB.out.trans (hb4.mono HB.out.size))
  clear HB
  have HB := HB'
  clear HB'
  clear hb4
  have kVb0 := Vb.out.c0
  have kVb1 := Vb.out.c1
  go_wp2_with fail
  refine (HR2.out _ Vb.out.arg).mono ?_
  rintro e x5 ⟨rfl, hb5⟩
  clear kVb0 kVb1
  have Va' := Lib.hid (Va.out.on hb5)
  clear Va
  have Va := Va'
  clear Va'
  have Vb' := Lib.hid (Vb.out.on hb5)
  clear Vb
  have Vb := Vb'
  clear Vb'
  have HB' := Lib.hid (HB.out.trans (hb5.mono HB.out.size))
  clear HB
  have HB := HB'
  clear HB'
  clear hb5
  have kVa0 := Va.out.c0
  have kVa1 := Va.out.c1
  have kVb0 := Vb.out.c0
  have kVb1 := Vb.out.c1
  go_wp2_with fail
  go_ret
  exact ⟨rfl, HB.out⟩
set_option maxRecDepth 100000 in
set_option maxHeartbeats 8000000 in
theorem srul_x5 (m1 v : Int) (vars : Nat) (hv16 : vars < 65536) (A1 A2 : Option Addr) (l1 l2 c1 c2 : Nat) (ws1 ws2 : List Nat) (w : World) (h1 : SetArg w m1 A1 l1 c1 ws1) (h2 : SetArg w m1 A2 l2 c2 ws2) (hg1 : greatB m1 l1 = false) (hg2 : greatB m1 l2 = false) (hr1 : srightB m1 ws1 = true) (hr2 : srightB m1 ws2 = true) (hv : v < 0) :
    Calls Tryd.prog 6 #[setA m1 A1 l1 c1, setA m1 A2 l2 c2, .int .i64 v, .int .u16 (vars : Nat)] w fun e w' => e = .returned (.bool true) ∧ Below w.heap.size w w' := by
  have HAV := Lib.hid (fun W => alive5_any W)
  have HG1 := Lib.hid (fun W => great_any m1 A1 l1 c1 W)
  have HG2 := Lib.hid (fun W => great_any m1 A2 l2 c2 W)
  have HR1 := Lib.hid (fun W (h1 : SetArg W m1 A1 l1 c1 ws1) => rright_any m1 A1 l1 c1 ws1 W h1)
  have HR2 := Lib.hid (fun W (h1 : SetArg W m1 A2 l2 c2 ws2) => rright_any m1 A2 l2 c2 ws2 W h1)
  rw [hg1] at HG1
  rw [hg2] at HG2
  rw [hr1] at HR1
  rw [hr2] at HR2
  have hb : ((m1 : Int) != m1) = false := by simp
  unfold setA at *
  obtain ⟨W0, hW0⟩ : ∃ W0, W0 = ((w.alloc (.cells #[.int .i64 (m1), .slice A1 l1 c1] 24)).alloc (.cells #[.int .i64 (m1), .slice A2 l2 c2] 24)) := ⟨_, rfl⟩
  have hb0 : Below w.heap.size w W0 := by rw [hW0]; exact (((Below.refl _ _).alloc (by simp) (.cells #[.int .i64 (m1), .slice A1 l1 c1] 24)).alloc (by simp) (.cells #[.int .i64 (m1), .slice A2 l2 c2] 24))
  have hv0 : SetVar W0 (w.heap.size) (m1) A1 l1 c1 ws1 := by
    have := SetVar.new h1
    rw [hW0]; exact (this.alloc _)
  have hv1 : SetVar W0 (w.heap.size + 1) (m1) A2 l2 c2 ws2 := by
    have := SetVar.new (h2.alloc (.cells #[.int .i64 (m1), .slice A1 l1 c1] 24))
    simp only [World.size_alloc] at this
    rw [hW0]; exact this
  have HWW := Lib.hid hW0
  have HB := Lib.hid hb0
  have Va := Lib.hid hv0
  have Vb := Lib.hid hv1
  clear hb0 hv0 hv1 h1 h2 hg1 hg2 hr1 hr2
  go_enter Tryd.func6, Tryd.ntmps6
  go_wp2_with fail
  rw [← HWW.out]
  clear hW0
  go_wp2_with fail
  refine (HAV.out _).mono ?_
  rintro e x1 ⟨rfl, hb1⟩
  have Va' := Lib.hid (Va.out.on hb1)
  clear Va
  have Va := Va'
  clear Va'
  have Vb' := Lib.hid (Vb.out.on hb1)
  clear Vb
  have Vb := Vb'
  clear Vb'
  have HB' := Lib.hid (HB.out.trans (hb1.mono HB.out.size))
  clear HB
  have HB := HB'
  clear HB'
  clear hb1
  have kVa0 := Va.out.c0
  have kVa1 := Va.out.c1
  go_wp2_with fail
  refine (HG1.out _).mono ?_
  rintro e x2 ⟨rfl, hb2⟩
  clear kVa0 kVa1
  have Va' := Lib.hid (Va.out.on hb2)
  clear Va
  have Va := Va'
  clear Va'
  have Vb' := Lib.hid (Vb.out.on hb2)
  clear Vb
  have Vb := Vb'
  clear Vb'
  have HB' := Lib.hid (HB.out.trans (hb2.mono HB.out.size))
  clear HB
  have HB := HB'
  clear HB'
  clear hb2
  have kVb0 := Vb.out.c0
  have kVb1 := Vb.out.c1
  go_wp2_with fail
  refine (HG2.out _).mono ?_
  rintro e x3 ⟨rfl, hb3⟩
  clear kVb0 kVb1
  have Va' := Lib.hid (Va.out.on hb3)
  clear Va
  have Va := Va'
  clear Va'
  have Vb' := Lib.hid (Vb.out.on hb3)
  clear Vb
  have Vb := Vb'
  clear Vb'
  have HB' := Lib.hid (HB.out.trans (hb3.mono HB.out.size))
  clear HB
  have HB := HB'
  clear HB'
  clear hb3
  have kVa0 := Va.out.c0
  have kVa1 := Va.out.c1
  go_wp2_with fail
  refine (HR1.out _ Va.out.arg).mono ?_
  rintro e x4 ⟨rfl, hb4⟩
  clear kVa0 kVa1
  have Va' := Lib.hid (Va.out.on hb4)
  clear Va
  have Va := Va'
  clear Va'
  have Vb' := Lib.hid (Vb.out.on hb4)
  clear Vb
  have Vb := Vb'
  clear Vb'
  have HB' := Lib.hid (HB.out.trans (hb4.mono HB.out.size))
  clear HB
  have HB := HB'
  clear HB'
  clear hb4
  have kVb0 := Vb.out.c0
  have kVb1 := Vb.out.c1
  go_wp2_with fail
  refine (HR2.out _ Vb.out.arg).mono ?_
  rintro e x5 ⟨rfl, hb5⟩
  clear kVb0 kVb1
  have Va' := Lib.hid (Va.out.on hb5)
  clear Va
  have Va := Va'
  clear Va'
  have Vb' := Lib.hid (Vb.out.on hb5)
  clear Vb
  have Vb := Vb'
  clear Vb'
  have HB' := Lib.hid (HB.out.trans (hb5.mono HB.out.size))
  clear HB
  have HB := HB'
  clear HB'
  clear hb5
  have kVa0 := Va.out.c0
  have kVa1 := Va.out.c1
  have kVb0 := Vb.out.c0
  have kVb1 := Vb.out.c1
  go_wp2_with fail
  go_ret
  exact ⟨rfl, HB.out⟩
set_option maxRecDepth 100000 in
set_option maxHeartbeats 8000000 in
theorem srul_x6 (m1 v : Int) (vars : Nat) (hv16 : vars < 65536) (A1 A2 : Option Addr) (l1 l2 c1 c2 : Nat) (ws1 ws2 : List Nat) (w : World) (h1 : SetArg w m1 A1 l1 c1 ws1) (h2 : SetArg w m1 A2 l2 c2 ws2) (hg1 : greatB m1 l1 = false) (hg2 : greatB m1 l2 = false) (hr1 : srightB m1 ws1 = true) (hr2 : srightB m1 ws2 = true) (hv0 : ¬ v < 0) (hv : m1 ≤ v) :
    Calls Tryd.prog 6 #[setA m1 A1 l1 c1, setA m1 A2 l2 c2, .int .i64 v, .int .u16 (vars : Nat)] w fun e w' => e = .returned (.bool true) ∧ Below w.heap.size w w' := by
  have HAV := Lib.hid (fun W => alive5_any W)
  have HG1 := Lib.hid (fun W => great_any m1 A1 l1 c1 W)
  have HG2 := Lib.hid (fun W => great_any m1 A2 l2 c2 W)
  have HR1 := Lib.hid (fun W (h1 : SetArg W m1 A1 l1 c1 ws1) => rright_any m1 A1 l1 c1 ws1 W h1)
  have HR2 := Lib.hid (fun W (h1 : SetArg W m1 A2 l2 c2 ws2) => rright_any m1 A2 l2 c2 ws2 W h1)
  rw [hg1] at HG1
  rw [hg2] at HG2
  rw [hr1] at HR1
  rw [hr2] at HR2
  have hb : ((m1 : Int) != m1) = false := by simp
  unfold setA at *
  obtain ⟨W0, hW0⟩ : ∃ W0, W0 = ((w.alloc (.cells #[.int .i64 (m1), .slice A1 l1 c1] 24)).alloc (.cells #[.int .i64 (m1), .slice A2 l2 c2] 24)) := ⟨_, rfl⟩
  have hb0 : Below w.heap.size w W0 := by rw [hW0]; exact (((Below.refl _ _).alloc (by simp) (.cells #[.int .i64 (m1), .slice A1 l1 c1] 24)).alloc (by simp) (.cells #[.int .i64 (m1), .slice A2 l2 c2] 24))
  have hv0 : SetVar W0 (w.heap.size) (m1) A1 l1 c1 ws1 := by
    have := SetVar.new h1
    rw [hW0]; exact (this.alloc _)
  have hv1 : SetVar W0 (w.heap.size + 1) (m1) A2 l2 c2 ws2 := by
    have := SetVar.new (h2.alloc (.cells #[.int .i64 (m1), .slice A1 l1 c1] 24))
    simp only [World.size_alloc] at this
    rw [hW0]; exact this
  have HWW := Lib.hid hW0
  have HB := Lib.hid hb0
  have Va := Lib.hid hv0
  have Vb := Lib.hid hv1
  clear hb0 hv0 hv1 h1 h2 hg1 hg2 hr1 hr2
  go_enter Tryd.func6, Tryd.ntmps6
  go_wp2_with fail
  rw [← HWW.out]
  clear hW0
  go_wp2_with fail
  refine (HAV.out _).mono ?_
  rintro e x1 ⟨rfl, hb1⟩
  have Va' := Lib.hid (Va.out.on hb1)
  clear Va
  have Va := Va'
  clear Va'
  have Vb' := Lib.hid (Vb.out.on hb1)
  clear Vb
  have Vb := Vb'
  clear Vb'
  have HB' := Lib.hid (HB.out.trans (hb1.mono HB.out.size))
  clear HB
  have HB := HB'
  clear HB'
  clear hb1
  have kVa0 := Va.out.c0
  have kVa1 := Va.out.c1
  go_wp2_with fail
  refine (HG1.out _).mono ?_
  rintro e x2 ⟨rfl, hb2⟩
  clear kVa0 kVa1
  have Va' := Lib.hid (Va.out.on hb2)
  clear Va
  have Va := Va'
  clear Va'
  have Vb' := Lib.hid (Vb.out.on hb2)
  clear Vb
  have Vb := Vb'
  clear Vb'
  have HB' := Lib.hid (HB.out.trans (hb2.mono HB.out.size))
  clear HB
  have HB := HB'
  clear HB'
  clear hb2
  have kVb0 := Vb.out.c0
  have kVb1 := Vb.out.c1
  go_wp2_with fail
  refine (HG2.out _).mono ?_
  rintro e x3 ⟨rfl, hb3⟩
  clear kVb0 kVb1
  have Va' := Lib.hid (Va.out.on hb3)
  clear Va
  have Va := Va'
  clear Va'
  have Vb' := Lib.hid (Vb.out.on hb3)
  clear Vb
  have Vb := Vb'
  clear Vb'
  have HB' := Lib.hid (HB.out.trans (hb3.mono HB.out.size))
  clear HB
  have HB := HB'
  clear HB'
  clear hb3
  have kVa0 := Va.out.c0
  have kVa1 := Va.out.c1
  go_wp2_with fail
  refine (HR1.out _ Va.out.arg).mono ?_
  rintro e x4 ⟨rfl, hb4⟩
  clear kVa0 kVa1
  have Va' := Lib.hid (Va.out.on hb4)
  clear Va
  have Va := Va'
  clear Va'
  have Vb' := Lib.hid (Vb.out.on hb4)
  clear Vb
  have Vb := Vb'
  clear Vb'
  have HB' := Lib.hid (HB.out.trans (hb4.mono HB.out.size))
  clear HB
  have HB := HB'
  clear HB'
  clear hb4
  have kVb0 := Vb.out.c0
  have kVb1 := Vb.out.c1
  go_wp2_with fail
  refine (HR2.out _ Vb.out.arg).mono ?_
  rintro e x5 ⟨rfl, hb5⟩
  clear kVb0 kVb1
  have Va' := Lib.hid (Va.out.on hb5)
  clear Va
  have Va := Va'
  clear Va'
  have Vb' := Lib.hid (Vb.out.on hb5)
  clear Vb
  have Vb := Vb'
  clear Vb'
  have HB' := Lib.hid (HB.out.trans (hb5.mono HB.out.size))
  clear HB
  have HB := HB'
  clear HB'
  clear hb5
  have kVa0 := Va.out.c0
  have kVa1 := Va.out.c1
  have kVb0 := Vb.out.c0
  have kVb1 := Vb.out.c1
  go_wp2_with fail
  go_ret
  exact ⟨rfl, HB.out⟩
set_option maxRecDepth 100000 in
set_option maxHeartbeats 8000000 in
theorem srul_x7 (n : Nat) (hn : n ≤ 16) (v : Int) (vars : Nat) (hv16 : vars < 65536) (A1 A2 : Option Addr) (l1 l2 c1 c2 : Nat) (ws1 ws2 : List Nat) (w : World) (h1 : SetArg w (n : Nat) A1 l1 c1 ws1) (h2 : SetArg w (n : Nat) A2 l2 c2 ws2) (hg1 : greatB (n : Nat) l1 = false) (hg2 : greatB (n : Nat) l2 = false) (hr1 : srightB (n : Nat) ws1 = true) (hr2 : srightB (n : Nat) ws2 = true) (hv0 : ¬ v < 0) (hv1 : v < n) (hvars : 2 ^ n ≤ vars) :
    Calls Tryd.prog 6 #[setA (n : Nat) A1 l1 c1, setA (n : Nat) A2 l2 c2, .int .i64 v, .int .u16 (vars : Nat)] w fun e w' => e = .returned (.bool true) ∧ Below w.heap.size w w' := by
  have HAV := Lib.hid (fun W => alive5_any W)
  have HG1 := Lib.hid (fun W => great_any (n : Nat) A1 l1 c1 W)
  have HG2 := Lib.hid (fun W => great_any (n : Nat) A2 l2 c2 W)
  have HR1 := Lib.hid (fun W (h1 : SetArg W (n : Nat) A1 l1 c1 ws1) => rright_any (n : Nat) A1 l1 c1 ws1 W h1)
  have HR2 := Lib.hid (fun W (h1 : SetArg W (n : Nat) A2 l2 c2 ws2) => rright_any (n : Nat) A2 l2 c2 ws2 W h1)
  rw [hg1] at HG1
  rw [hg2] at HG2
  rw [hr1] at HR1
  rw [hr2] at HR2
  have hb : (((n : Nat) : Int) != (n : Nat)) = false := by simp
  have HSZ := Lib.hid (fun W => size_any n hn W)
  generalize 2 ^ n = NN at *
  unfold setA at *
  obtain ⟨W0, hW0⟩ : ∃ W0, W0 = ((w.alloc (.cells #[.int .i64 ((n : Nat)), .slice A1 l1 c1] 24)).alloc (.cells #[.int .i64 ((n : Nat)), .slice A2 l2 c2] 24)) := ⟨_, rfl⟩
  have hb0 : Below w.heap.size w W0 := by rw [hW0]; exact (((Below.refl _ _).alloc (by simp) (.cells #[.int .i64 ((n : Nat)), .slice A1 l1 c1] 24)).alloc (by simp) (.cells #[.int .i64 ((n : Nat)), .slice A2 l2 c2] 24))
  have hv0 : SetVar W0 (w.heap.size) ((n : Nat)) A1 l1 c1 ws1 := by
    have := SetVar.new h1
    rw [hW0]; exact (this.alloc _)
  have hv1 : SetVar W0 (w.heap.size + 1) ((n : Nat)) A2 l2 c2 ws2 := by
    have := SetVar.new (h2.alloc (.cells #[.int .i64 ((n : Nat)), .slice A1 l1 c1] 24))
    simp only [World.size_alloc] at this
    rw [hW0]; exact this
  have HWW := Lib.hid hW0
  have HB := Lib.hid hb0
  have Va := Lib.hid hv0
  have Vb := Lib.hid hv1
  clear hb0 hv0 hv1 h1 h2 hg1 hg2 hr1 hr2
  go_enter Tryd.func6, Tryd.ntmps6
  go_wp2_with fail
  rw [← HWW.out]
  clear hW0
  go_wp2_with fail
  refine (HAV.out _).mono ?_
  rintro e x1 ⟨rfl, hb1⟩
  have Va' := Lib.hid (Va.out.on hb1)
  clear Va
  have Va := Va'
  clear Va'
  have Vb' := Lib.hid (Vb.out.on hb1)
  clear Vb
  have Vb := Vb'
  clear Vb'
  have HB' := Lib.hid (HB.out.trans (hb1.mono HB.out.size))
  clear HB
  have HB := HB'
  clear HB'
  clear hb1
  have kVa0 := Va.out.c0
  have kVa1 := Va.out.c1
  go_wp2_with fail
  refine (HG1.out _).mono ?_
  rintro e x2 ⟨rfl, hb2⟩
  clear kVa0 kVa1
  have Va' := Lib.hid (Va.out.on hb2)
  clear Va
  have Va := Va'
  clear Va'
  have Vb' := Lib.hid (Vb.out.on hb2)
  clear Vb
  have Vb := Vb'
  clear Vb'
  have HB' := Lib.hid (HB.out.trans (hb2.mono HB.out.size))
  clear HB
  have HB := HB'
  clear HB'
  clear hb2
  have kVb0 := Vb.out.c0
  have kVb1 := Vb.out.c1
  go_wp2_with fail
  refine (HG2.out _).mono ?_
  rintro e x3 ⟨rfl, hb3⟩
  clear kVb0 kVb1
  have Va' := Lib.hid (Va.out.on hb3)
  clear Va
  have Va := Va'
  clear Va'
  have Vb' := Lib.hid (Vb.out.on hb3)
  clear Vb
  have Vb := Vb'
  clear Vb'
  have HB' := Lib.hid (HB.out.trans (hb3.mono HB.out.size))
  clear HB
  have HB := HB'
  clear HB'
  clear hb3
  have kVa0 := Va.out.c0
  have kVa1 := Va.out.c1
  go_wp2_with fail
  refine (HR1.out _ Va.out.arg).mono ?_
  rintro e x4 ⟨rfl, hb4⟩
  clear kVa0 kVa1
  have Va' := Lib.hid (Va.out.on hb4)
  clear Va
  have Va := Va'
  clear Va'
  have Vb' := Lib.hid (Vb.out.on hb4)
  clear Vb
  have Vb := Vb'
  clear Vb'
  have HB' := Lib.hid (HB.out.trans (hb4.mono HB.out.size))
  clear HB
  have HB := HB'
  clear HB'
  clear hb4
  have kVb0 := Vb.out.c0
  have kVb1 := Vb.out.c1
  go_wp2_with fail
  refine (HR2.out _ Vb.out.arg).mono ?_
  rintro e x5 ⟨rfl, hb5⟩
  clear kVb0 kVb1
  have Va' := Lib.hid (Va.out.on hb5)
  clear Va
  have Va := Va'
  clear Va'
  have Vb' := Lib.hid (Vb.out.on hb5)
  clear Vb
  have Vb := Vb'
  clear Vb'
  have HB' := Lib.hid (HB.out.trans (hb5.mono HB.out.size))
  clear HB
  have HB := HB'
  clear HB'
  clear hb5
  have kVa0 := Va.out.c0
  have kVa1 := Va.out.c1
  have kVb0 := Vb.out.c0
  have kVb1 := Vb.out.c1
  go_wp2_with fail
  refine (HSZ.out _).mono ?_
  rintro e w' ⟨rfl, rfl⟩
  clear kVa0 kVa1 kVb0 kVb1
  go_wp2_with fail
  go_ret
  exact ⟨rfl, HB.out⟩
set_option maxRecDepth 100000 in
set_option maxHeartbeats 16000000 in
theorem srul_main (n v : Nat) (hn : n ≤ 16) (hv : v < n) (vars : Nat) (hvars : vars < 2 ^ n) (A1 A2 : Option Addr) (l1 l2 c1 c2 : Nat) (ta tb : List Bool) (hta : ta.length = 2 ^ n) (htb : tb.length = 2 ^ n) (w : World) (h1 : SetArg w n A1 l1 c1 (packT ta)) (h2 : SetArg w n A2 l2 c2 (packT tb)) (hg1 : greatB (n : Nat) l1 = false) (hg2 : greatB (n : Nat) l2 = false) :
    Calls Tryd.prog 6 #[setA n A1 l1 c1, setA n A2 l2 c2, .int .i64 (v : Nat), .int .u16 (vars : Nat)] w fun e w' => e = .returned (.bool true) ∧ Below w.heap.size w w' := by
  have oka := SOk.pack hn hta
  have okb := SOk.pack hn htb
  have hv16 : vars < 65536 := Nat.lt_of_lt_of_le hvars (pow16 hn)
  have HAV := Lib.hid (fun W => alive5_any W)
  have HG1 := Lib.hid (fun W => great_any n A1 l1 c1 W)
  have HG2 := Lib.hid (fun W => great_any n A2 l2 c2 W)
  rw [hg1] at HG1
  rw [hg2] at HG2
  have HR1 := Lib.hid (fun W (h1 : SetArg W n A1 l1 c1 (packT ta)) => rright_any n A1 l1 c1 _ W h1)
  have HR2 := Lib.hid (fun W (h1 : SetArg W n A2 l2 c2 (packT tb)) => rright_any n A2 l2 c2 _ W h1)
  rw [(sright_iff oka.lt).2 ⟨by omega, by simpa using oka⟩] at HR1
  rw [(sright_iff okb.lt).2 ⟨by omega, by simpa using okb⟩] at HR2
  have HSZ := Lib.hid (fun W => size_any n hn W)
  have hb : (((n : Nat) : Int) != ((n : Nat) : Int)) = false := by simp
  obtain ⟨t0, ht0⟩ : ∃ t, t = List.replicate (2 ^ n) false := ⟨_, rfl⟩
  have l0 : t0.length = 2 ^ n := by rw [ht0]; simp
  obtain ⟨tand, htand⟩ : ∃ t, t = opT 8 ta tb := ⟨_, rfl⟩
  have l_tand : tand.length = 2 ^ n := by rw [htand]; rw [opT_length, hta]
  obtain ⟨tx, htx⟩ : ∃ t, t = opT 1 tand t0 := ⟨_, rfl⟩
  have l_tx : tx.length = 2 ^ n := by rw [htx]; rw [opT_length, l_tand]
  obtain ⟨tna, htna⟩ : ∃ t, t = opT 1 ta t0 := ⟨_, rfl⟩
  have l_tna : tna.length = 2 ^ n := by rw [htna]; rw [opT_length, hta]
  obtain ⟨tnb, htnb⟩ : ∃ t, t = opT 1 tb t0 := ⟨_, rfl⟩
  have l_tnb : tnb.length = 2 ^ n := by rw [htnb]; rw [opT_length, htb]
  obtain ⟨ty, hty⟩ : ∃ t, t = opT 14 tna tnb := ⟨_, rfl⟩
  have l_ty : ty.length = 2 ^ n := by rw [hty]; rw [opT_length, l_tna]
  obtain ⟨thi, hthi⟩ : ∃ t, t = withT ta v 1 := ⟨_, rfl⟩
  have l_thi : thi.length = 2 ^ n := by rw [hthi]; rw [withT_length, hta]
  obtain ⟨tlo, htlo⟩ : ∃ t, t = withT ta v 0 := ⟨_, rfl⟩
  have l_tlo : tlo.length = 2 ^ n := by rw [htlo]; rw [withT_length, hta]
  obtain ⟨tone, htone⟩ : ∃ t, t = (List.range (2 ^ n)).map fun x => x.testBit v := ⟨_, rfl⟩
  have l_tone : tone.length = 2 ^ n := by rw [htone]; simp
  obtain ⟨tback, htback⟩ : ∃ t, t = iteT tone thi tlo := ⟨_, rfl⟩
  have l_tback : tback.length = 2 ^ n := by rw [htback]; rw [iteT_length, l_tone]
  obtain ⟨te, hte⟩ : ∃ t, t = quantT 14 vars ta n := ⟨_, rfl⟩
  have l_te : te.length = 2 ^ n := by rw [hte]; rw [quantT_length, hta]
  obtain ⟨tf, htf⟩ : ∃ t, t = quantT 8 vars tna n := ⟨_, rfl⟩
  have l_tf : tf.length = 2 ^ n := by rw [htf]; rw [quantT_length, l_tna]
  obtain ⟨tg, htg⟩ : ∃ t, t = opT 1 tf t0 := ⟨_, rfl⟩
  have l_tg : tg.length = 2 ^ n := by rw [htg]; rw [opT_length, l_tf]
  have e1 : tx = ty := by
    have := demorgan (a := ta) (b := tb) (by rw [hta, htb])
    unfold notT at this
    rw [opT_length, hta, htb, ← ht0, ← htand, ← htna, ← htnb, ← htx, ← hty] at this
    exact this
  have e2 : tback = ta := by
    have := halves_back hv hta
    rw [← hthi, ← htlo, ← htone, ← htback] at this
    exact this
  have e3 : te = tg := by
    have := quant_not vars hta n (Nat.le_refl _)
    unfold notT at this
    rw [quantT_length, opT_length, hta, ← ht0, ← htna, ← htf, ← htg, ← hte] at this
    exact this
  have HNO := Lib.hid (fun W => none_ok n hn W)
  rw [← ht0] at HNO
  have HO1 := Lib.hid (fun W A B l k c d (h : SetArg W n A l c (packT ta)) (h' : SetArg W n B k d (packT tb)) => op_ok 8 (by omega) n hn A B l k c d ta tb hta htb W h h')
  rw [← htand] at HO1
  have HO2 := Lib.hid (fun W A B l k c d (h : SetArg W n A l c (packT tand)) (h' : SetArg W n B k d (packT t0)) => op_ok 1 (by omega) n hn A B l k c d tand t0 l_tand l0 W h h')
  rw [← htx] at HO2
  have HO3 := Lib.hid (fun W A B l k c d (h : SetArg W n A l c (packT ta)) (h' : SetArg W n B k d (packT t0)) => op_ok 1 (by omega) n hn A B l k c d ta t0 hta l0 W h h')
  rw [← htna] at HO3
  have HO4 := Lib.hid (fun W A B l k c d (h : SetArg W n A l c (packT tb)) (h' : SetArg W n B k d (packT t0)) => op_ok 1 (by omega) n hn A B l k c d tb t0 htb l0 W h h')
  rw [← htnb] at HO4
  have HO5 := Lib.hid (fun W A B l k c d (h : SetArg W n A l c (packT tna)) (h' : SetArg W n B k d (packT tnb)) => op_ok 14 (by omega) n hn A B l k c d tna tnb l_tna l_tnb W h h')
  rw [← hty] at HO5
  have HO6 := Lib.hid (fun W A B l k c d (h : SetArg W n A l c (packT tf)) (h' : SetArg W n B k d (packT t0)) => op_ok 1 (by omega) n hn A B l k c d tf t0 l_tf l0 W h h')
  rw [← htg] at HO6
  have HW1 := Lib.hid (fun W A l c (h : SetArg W n A l c (packT ta)) => with_okk n v hn hv true A l c ta hta W h)
  rw [show true.toNat = 1 from rfl, ← hthi] at HW1
  have HW0 := Lib.hid (fun W A l c (h : SetArg W n A l c (packT ta)) => with_okk n v hn hv false A l c ta hta W h)
  rw [show false.toNat = 0 from rfl, ← htlo] at HW0
  have HSI := Lib.hid (fun W => single_ok n v hn hv W)
  rw [← htone] at HSI
  have HIT := Lib.hid (fun W A B C l k j c d e (h1 : SetArg W n A l c (packT tone)) (h2 : SetArg W n B k d (packT thi)) (h3 : SetArg W n C j e (packT tlo)) => ite_ok n hn A B C l k j c d e tone thi tlo l_tone l_thi l_tlo W h1 h2 h3)
  rw [← htback] at HIT
  have HEX := Lib.hid (fun W A l c (h : SetArg W n A l c (packT ta)) => exists_ok n vars hvars hn A l c ta hta W h)
  rw [← hte] at HEX
  have HFO := Lib.hid (fun W A l c (h : SetArg W n A l c (packT tna)) => forall_ok n vars hvars hn A l c tna l_tna W h)
  rw [← htf] at HFO
  have HRT := Lib.hid (fun W A l c (h : SetArg W n A l c (packT tx)) => right_ok n hn A l c tx l_tx W h)
  have HS1 := Lib.hid (fun W A B l k c d (h : SetArg W n A l c (packT tx)) (h' : SetArg W n B k d (packT ty)) => same_ok n A B l k c d tx ty e1 W h h')
  have HS2 := Lib.hid (fun W A B l k c d (h : SetArg W n A l c (packT tback)) (h' : SetArg W n B k d (packT ta)) => same_ok n A B l k c d tback ta e2 W h h')
  have HS3 := Lib.hid (fun W A B l k c d (h : SetArg W n A l c (packT te)) (h' : SetArg W n B k d (packT tg)) => same_ok n A B l k c d te tg e3 W h h')
  clear htand l_tand htx l_tx htna l_tna htnb l_tnb hty l_ty hthi l_thi htlo l_tlo htone l_tone htback l_tback hte l_te htf l_tf htg l_tg ht0 l0 e1 e2 e3 oka okb hg1 hg2
  unfold TabAns setA at *
  generalize 2 ^ n = NN at *
  clear hta htb
  obtain ⟨W0, hW0⟩ : ∃ W0, W0 = ((w.alloc (.cells #[.int .i64 ((n : Nat)), .slice A1 l1 c1] 24)).alloc (.cells #[.int .i64 ((n : Nat)), .slice A2 l2 c2] 24)) := ⟨_, rfl⟩
  have hb0 : Below w.heap.size w W0 := by rw [hW0]; exact (((Below.refl _ _).alloc (by simp) (.cells #[.int .i64 ((n : Nat)), .slice A1 l1 c1] 24)).alloc (by simp) (.cells #[.int .i64 ((n : Nat)), .slice A2 l2 c2] 24))
  have hv0 : SetVar W0 (w.heap.size) ((n : Nat)) A1 l1 c1 (packT ta) := by
    have := SetVar.new h1
    rw [hW0]; exact (this.alloc _)
  have hv1 : SetVar W0 (w.heap.size + 1) ((n : Nat)) A2 l2 c2 (packT tb) := by
    have := SetVar.new (h2.alloc (.cells #[.int .i64 ((n : Nat)), .slice A1 l1 c1] 24))
    simp only [World.size_alloc] at this
    rw [hW0]; exact this
  have HWW := Lib.hid hW0
  have HB := Lib.hid hb0
  have Va := Lib.hid hv0
  have Vb := Lib.hid hv1
  clear hb0 hv0 hv1 h1 h2 
  go_enter Tryd.func6, Tryd.ntmps6
  go_wp2_with fail
  rw [← HWW.out]
  clear hW0
  go_wp2_with fail
  refine (HAV.out _).mono ?_
  rintro e x1 ⟨rfl, hb1⟩
  have Va' := Lib.hid (Va.out.on hb1)
  clear Va
  have Va := Va'
  clear Va'
  have Vb' := Lib.hid (Vb.out.on hb1)
  clear Vb
  have Vb := Vb'
  clear Vb'
  have HB' := Lib.hid (HB.out.trans (hb1.mono HB.out.size))
  clear HB
  have HB := HB'
  clear HB'
  clear hb1
  have kVa0 := Va.out.c0
  have kVa1 := Va.out.c1
  go_wp2_with fail
  refine (HG1.out _).mono ?_
  rintro e x2 ⟨rfl, hb2⟩
  clear kVa0 kVa1
  have Va' := Lib.hid (Va.out.on hb2)
  clear Va
  have Va := Va'
  clear Va'
  have Vb' := Lib.hid (Vb.out.on hb2)
  clear Vb
  have Vb := Vb'
  clear Vb'
  have HB' := Lib.hid (HB.out.trans (hb2.mono HB.out.size))
  clear HB
  have HB := HB'
  clear HB'
  clear hb2
  have kVb0 := Vb.out.c0
  have kVb1 := Vb.out.c1
  go_wp2_with fail
  refine (HG2.out _).mono ?_
  rintro e x3 ⟨rfl, hb3⟩
  clear kVb0 kVb1
  have Va' := Lib.hid (Va.out.on hb3)
  clear Va
  have Va := Va'
  clear Va'
  have Vb' := Lib.hid (Vb.out.on hb3)
  clear Vb
  have Vb := Vb'
  clear Vb'
  have HB' := Lib.hid (HB.out.trans (hb3.mono HB.out.size))
  clear HB
  have HB := HB'
  clear HB'
  clear hb3
  have kVa0 := Va.out.c0
  have kVa1 := Va.out.c1
  go_wp2_with fail
  refine (HR1.out _ Va.out.arg).mono ?_
  rintro e x4 ⟨rfl, hb4⟩
  clear kVa0 kVa1
  have Va' := Lib.hid (Va.out.on hb4)
  clear Va
  have Va := Va'
  clear Va'
  have Vb' := Lib.hid (Vb.out.on hb4)
  clear Vb
  have Vb := Vb'
  clear Vb'
  have HB' := Lib.hid (HB.out.trans (hb4.mono HB.out.size))
  clear HB
  have HB := HB'
  clear HB'
  clear hb4
  have kVb0 := Vb.out.c0
  have kVb1 := Vb.out.c1
  go_wp2_with fail
  refine (HR2.out _ Vb.out.arg).mono ?_
  rintro e x5 ⟨rfl, hb5⟩
  clear kVb0 kVb1
  have Va' := Lib.hid (Va.out.on hb5)
  clear Va
  have Va := Va'
  clear Va'
  have Vb' := Lib.hid (Vb.out.on hb5)
  clear Vb
  have Vb := Vb'
  clear Vb'
  have HB' := Lib.hid (HB.out.trans (hb5.mono HB.out.size))
  clear HB
  have HB := HB'
  clear HB'
  clear hb5
  have kVa0 := Va.out.c0
  have kVa1 := Va.out.c1
  have kVb0 := Vb.out.c0
  have kVb1 := Vb.out.c1
  go_wp2_with fail
  refine (HSZ.out _).mono ?_
  rintro e w' ⟨rfl, rfl⟩
  go_wp2_with fail
  refine (HNO.out _).mono ?_
  rintro e x6 ⟨AV0, lV0, cV0, rfl, ha6, hb6⟩
  clear kVa0 kVa1 kVb0 kVb1
  have Va' := Lib.hid (Va.out.on hb6)
  clear Va
  have Va := Va'
  clear Va'
  have Vb' := Lib.hid (Vb.out.on hb6)
  clear Vb
  have Vb := Vb'
  clear Vb'
  have HB' := Lib.hid (HB.out.trans (hb6.mono HB.out.size))
  clear HB
  have HB := HB'
  clear HB'
  have hltVa := Va.out.blk.lt
  have hltVb := Vb.out.blk.lt
  have kVa0 := Va.out.c0
  have kVa1 := Va.out.c1
  have kVb0 := Vb.out.c0
  have kVb1 := Vb.out.c1
  have Va' := Lib.hid (Va.out.on ((Below.refl _ _).alloc (Nat.le_refl _) (.cells #[.int .i64 n, .slice AV0 lV0 cV0] 24)))
  clear Va
  have Va := Va'
  clear Va'
  have Vb' := Lib.hid (Vb.out.on ((Below.refl _ _).alloc (Nat.le_refl _) (.cells #[.int .i64 n, .slice AV0 lV0 cV0] 24)))
  clear Vb
  have Vb := Vb'
  clear Vb'
  have HB' := Lib.hid (HB.out.trans (((Below.refl _ _).alloc (Nat.le_refl _) (.cells #[.int .i64 n, .slice AV0 lV0 cV0] 24)).mono HB.out.size))
  clear HB
  have HB := HB'
  clear HB'
  have V0 := Lib.hid (SetVar.new ha6)
  clear ha6 hb6
  go_wp2_with fail
  clear hltVa
  clear hltVb
  refine (HO1.out _ _ _ _ _ _ _ Va.out.arg Vb.out.arg).mono ?_
  rintro e x7 ⟨AV1, lV1, cV1, rfl, ha7, hb7⟩
  clear kVa0 kVa1 kVb0 kVb1
  have Va' := Lib.hid (Va.out.on hb7)
  clear Va
  have Va := Va'
  clear Va'
  have Vb' := Lib.hid (Vb.out.on hb7)
  clear Vb
  have Vb := Vb'
  clear Vb'
  have V0' := Lib.hid (V0.out.on hb7)
  clear V0
  have V0 := V0'
  clear V0'
  have HB' := Lib.hid (HB.out.trans (hb7.mono HB.out.size))
  clear HB
  have HB := HB'
  clear HB'
  have hltV0 := V0.out.blk.lt
  have kV00 := V0.out.c0
  have kV01 := V0.out.c1
  have Va' := Lib.hid (Va.out.on ((Below.refl _ _).alloc (Nat.le_refl _) (.cells #[.int .i64 n, .slice AV1 lV1 cV1] 24)))
  clear Va
  have Va := Va'
  clear Va'
  have Vb' := Lib.hid (Vb.out.on ((Below.refl _ _).alloc (Nat.le_refl _) (.cells #[.int .i64 n, .slice AV1 lV1 cV1] 24)))
  clear Vb
  have Vb := Vb'
  clear Vb'
  have V0' := Lib.hid (V0.out.on ((Below.refl _ _).alloc (Nat.le_refl _) (.cells #[.int .i64 n, .slice AV1 lV1 cV1] 24)))
  clear V0
  have V0 := V0'
  clear V0'
  have HB' := Lib.hid (HB.out.trans (((Below.refl _ _).alloc (Nat.le_refl _) (.cells #[.int .i64 n, .slice AV1 lV1 cV1] 24)).mono HB.out.size))
  clear HB
  have HB := HB'
  clear HB'
  have V1 := Lib.hid (SetVar.new ha7)
  clear ha7 hb7
  go_wp2_with fail
  clear hltV0
  refine (HO2.out _ _ _ _ _ _ _ V1.out.arg V0.out.arg).mono ?_
  rintro e x8 ⟨AVx, lVx, cVx, rfl, ha8, hb8⟩
  clear kV00 kV01
  have Va' := Lib.hid (Va.out.on hb8)
  clear Va
  have Va := Va'
  clear Va'
  have Vb' := Lib.hid (Vb.out.on hb8)
  clear Vb
  have Vb := Vb'
  clear Vb'
  have V0' := Lib.hid (V0.out.on hb8)
  clear V0
  have V0 := V0'
  clear V0'
  have V1' := Lib.hid (V1.out.on hb8)
  clear V1
  have V1 := V1'
  clear V1'
  have HB' := Lib.hid (HB.out.trans (hb8.mono HB.out.size))
  clear HB
  have HB := HB'
  clear HB'
  have hltVa := Va.out.blk.lt
  have hltV0 := V0.out.blk.lt
  have kVa0 := Va.out.c0
  have kVa1 := Va.out.c1
  have kV00 := V0.out.c0
  have kV01 := V0.out.c1
  have Va' := Lib.hid (Va.out.on ((Below.refl _ _).alloc (Nat.le_refl _) (.cells #[.int .i64 n, .slice AVx lVx cVx] 24)))
  clear Va
  have Va := Va'
  clear Va'
  have Vb' := Lib.hid (Vb.out.on ((Below.refl _ _).alloc (Nat.le_refl _) (.cells #[.int .i64 n, .slice AVx lVx cVx] 24)))
  clear Vb
  have Vb := Vb'
  clear Vb'
  have V0' := Lib.hid (V0.out.on ((Below.refl _ _).alloc (Nat.le_refl _) (.cells #[.int .i64 n, .slice AVx lVx cVx] 24)))
  clear V0
  have V0 := V0'
  clear V0'
  have V1' := Lib.hid (V1.out.on ((Below.refl _ _).alloc (Nat.le_refl _) (.cells #[.int .i64 n, .slice AVx lVx cVx] 24)))
  clear V1
  have V1 := V1'
  clear V1'
  have HB' := Lib.hid (HB.out.trans (((Below.refl _ _).alloc (Nat.le_refl _) (.cells #[.int .i64 n, .slice AVx lVx cVx] 24)).mono HB.out.size))
  clear HB
  have HB := HB'
  clear HB'
  have Vx := Lib.hid (SetVar.new ha8)
  clear ha8 hb8
  go_wp2_with fail
  clear hltVa
  clear hltV0
  refine (HO3.out _ _ _ _ _ _ _ Va.out.arg V0.out.arg).mono ?_
  rintro e x9 ⟨AVna, lVna, cVna, rfl, ha9, hb9⟩
  clear kVa0 kVa1 kV00 kV01
  have Va' := Lib.hid (Va.out.on hb9)
  clear Va
  have Va := Va'
  clear Va'
  have Vb' := Lib.hid (Vb.out.on hb9)
  clear Vb
  have Vb := Vb'
  clear Vb'
  have V0' := Lib.hid (V0.out.on hb9)
  clear V0
  have V0 := V0'
  clear V0'
  have V1' := Lib.hid (V1.out.on hb9)
  clear V1
  have V1 := V1'
  clear V1'
  have Vx' := Lib.hid (Vx.out.on hb9)
  clear Vx
  have Vx := Vx'
  clear Vx'
  have HB' := Lib.hid (HB.out.trans (hb9.mono HB.out.size))
  clear HB
  have HB := HB'
  clear HB'
  have hltVb := Vb.out.blk.lt
  have hltV0 := V0.out.blk.lt
  have kVb0 := Vb.out.c0
  have kVb1 := Vb.out.c1
  have kV00 := V0.out.c0
  have kV01 := V0.out.c1
  have Va' := Lib.hid (Va.out.on ((Below.refl _ _).alloc (Nat.le_refl _) (.cells #[.int .i64 n, .slice AVna lVna cVna] 24)))
  clear Va
  have Va := Va'
  clear Va'
  have Vb' := Lib.hid (Vb.out.on ((Below.refl _ _).alloc (Nat.le_refl _) (.cells #[.int .i64 n, .slice AVna lVna cVna] 24)))
  clear Vb
  have Vb := Vb'
  clear Vb'
  have V0' := Lib.hid (V0.out.on ((Below.refl _ _).alloc (Nat.le_refl _) (.cells #[.int .i64 n, .slice AVna lVna cVna] 24)))
  clear V0
  have V0 := V0'
  clear V0'
  have V1' := Lib.hid (V1.out.on ((Below.refl _ _).alloc (Nat.le_refl _) (.cells #[.int .i64 n, .slice AVna lVna cVna] 24)))
  clear V1
  have V1 := V1'
  clear V1'
  have Vx' := Lib.hid (Vx.out.on ((Below.refl _ _).alloc (Nat.le_refl _) (.cells #[.int .i64 n, .slice AVna lVna cVna] 24)))
  clear Vx
  have Vx := Vx'
  clear Vx'
  have HB' := Lib.hid (HB.out.trans (((Below.refl _ _).alloc (Nat.le_refl _) (.cells #[.int .i64 n, .slice AVna lVna cVna] 24)).mono HB.out.size))
  clear HB
  have HB := HB'
  clear HB'
  have Vna := Lib.hid (SetVar.new ha9)
  clear ha9 hb9
  go_wp2_with fail
  clear hltVb
  clear hltV0
  refine (HO4.out _ _ _ _ _ _ _ Vb.out.arg V0.out.arg).mono ?_
  rintro e x10 ⟨AVnb, lVnb, cVnb, rfl, ha10, hb10⟩
  clear kVb0 kVb1 kV00 kV01
  have Va' := Lib.hid (Va.out.on hb10)
  clear Va
  have Va := Va'
  clear Va'
  have Vb' := Lib.hid (Vb.out.on hb10)
  clear Vb
  have Vb := Vb'
  clear Vb'
  have V0' := Lib.hid (V0.out.on hb10)
  clear V0
  have V0 := V0'
  clear V0'
  have V1' := Lib.hid (V1.out.on hb10)
  clear V1
  have V1 := V1'
  clear V1'
  have Vx' := Lib.hid (Vx.out.on hb10)
  clear Vx
  have Vx := Vx'
  clear Vx'
  have Vna' := Lib.hid (Vna.out.on hb10)
  clear Vna
  have Vna := Vna'
  clear Vna'
  have HB' := Lib.hid (HB.out.trans (hb10.mono HB.out.size))
  clear HB
  have HB := HB'
  clear HB'
  have hltVna := Vna.out.blk.lt
  have kVna0 := Vna.out.c0
  have kVna1 := Vna.out.c1
  have Va' := Lib.hid (Va.out.on ((Below.refl _ _).alloc (Nat.le_refl _) (.cells #[.int .i64 n, .slice AVnb lVnb cVnb] 24)))
  clear Va
  have Va := Va'
  clear Va'
  have Vb' := Lib.hid (Vb.out.on ((Below.refl _ _).alloc (Nat.le_refl _) (.cells #[.int .i64 n, .slice AVnb lVnb cVnb] 24)))
  clear Vb
  have Vb := Vb'
  clear Vb'
  have V0' := Lib.hid (V0.out.on ((Below.refl _ _).alloc (Nat.le_refl _) (.cells #[.int .i64 n, .slice AVnb lVnb cVnb] 24)))
  clear V0
  have V0 := V0'
  clear V0'
  have V1' := Lib.hid (V1.out.on ((Below.refl _ _).alloc (Nat.le_refl _) (.cells #[.int .i64 n, .slice AVnb lVnb cVnb] 24)))
  clear V1
  have V1 := V1'
  clear V1'
  have Vx' := Lib.hid (Vx.out.on ((Below.refl _ _).alloc (Nat.le_refl _) (.cells #[.int .i64 n, .slice AVnb lVnb cVnb] 24)))
  clear Vx
  have Vx := Vx'
  clear Vx'
  have Vna' := Lib.hid (Vna.out.on ((Below.refl _ _).alloc (Nat.le_refl _) (.cells #[.int .i64 n, .slice AVnb lVnb cVnb] 24)))
  clear Vna
  have Vna := Vna'
  clear Vna'
  have HB' := Lib.hid (HB.out.trans (((Below.refl _ _).alloc (Nat.le_refl _) (.cells #[.int .i64 n, .slice AVnb lVnb cVnb] 24)).mono HB.out.size))
  clear HB
  have HB := HB'
  clear HB'
  have Vnb := Lib.hid (SetVar.new ha10)
  clear ha10 hb10
  go_wp2_with fail
  clear hltVna
  refine (HO5.out _ _ _ _ _ _ _ Vna.out.arg Vnb.out.arg).mono ?_
  rintro e x11 ⟨AVy, lVy, cVy, rfl, ha11, hb11⟩
  clear kVna0 kVna1
  have Va' := Lib.hid (Va.out.on hb11)
  clear Va
  have Va := Va'
  clear Va'
  have Vb' := Lib.hid (Vb.out.on hb11)
  clear Vb
  have Vb := Vb'
  clear Vb'
  have V0' := Lib.hid (V0.out.on hb11)
  clear V0
  have V0 := V0'
  clear V0'
  have V1' := Lib.hid (V1.out.on hb11)
  clear V1
  have V1 := V1'
  clear V1'
  have Vx' := Lib.hid (Vx.out.on hb11)
  clear Vx
  have Vx := Vx'
  clear Vx'
  have Vna' := Lib.hid (Vna.out.on hb11)
  clear Vna
  have Vna := Vna'
  clear Vna'
  have Vnb' := Lib.hid (Vnb.out.on hb11)
  clear Vnb
  have Vnb := Vnb'
  clear Vnb'
  have HB' := Lib.hid (HB.out.trans (hb11.mono HB.out.size))
  clear HB
  have HB := HB'
  clear HB'
  have hltVa := Va.out.blk.lt
  have kVa0 := Va.out.c0
  have kVa1 := Va.out.c1
  have Va' := Lib.hid (Va.out.on ((Below.refl _ _).alloc (Nat.le_refl _) (.cells #[.int .i64 n, .slice AVy lVy cVy] 24)))
  clear Va
  have Va := Va'
  clear Va'
  have Vb' := Lib.hid (Vb.out.on ((Below.refl _ _).alloc (Nat.le_refl _) (.cells #[.int .i64 n, .slice AVy lVy cVy] 24)))
  clear Vb
  have Vb := Vb'
  clear Vb'
  have V0' := Lib.hid (V0.out.on ((Below.refl _ _).alloc (Nat.le_refl _) (.cells #[.int .i64 n, .slice AVy lVy cVy] 24)))
  clear V0
  have V0 := V0'
  clear V0'
  have V1' := Lib.hid (V1.out.on ((Below.refl _ _).alloc (Nat.le_refl _) (.cells #[.int .i64 n, .slice AVy lVy cVy] 24)))
  clear V1
  have V1 := V1'
  clear V1'
  have Vx' := Lib.hid (Vx.out.on ((Below.refl _ _).alloc (Nat.le_refl _) (.cells #[.int .i64 n, .slice AVy lVy cVy] 24)))
  clear Vx
  have Vx := Vx'
  clear Vx'
  have Vna' := Lib.hid (Vna.out.on ((Below.refl _ _).alloc (Nat.le_refl _) (.cells #[.int .i64 n, .slice AVy lVy cVy] 24)))
  clear Vna
  have Vna := Vna'
  clear Vna'
  have Vnb' := Lib.hid (Vnb.out.on ((Below.refl _ _).alloc (Nat.le_refl _) (.cells #[.int .i64 n, .slice AVy lVy cVy] 24)))
  clear Vnb
  have Vnb := Vnb'
  clear Vnb'
  have HB' := Lib.hid (HB.out.trans (((Below.refl _ _).alloc (Nat.le_refl _) (.cells #[.int .i64 n, .slice AVy lVy cVy] 24)).mono HB.out.size))
  clear HB
  have HB := HB'
  clear HB'
  have Vy := Lib.hid (SetVar.new ha11)
  clear ha11 hb11
  go_wp2_with fail
  clear hltVa
  refine (HW1.out _ _ _ _ Va.out.arg).mono ?_
  rintro e x12 ⟨AVhi, lVhi, cVhi, rfl, ha12, hb12⟩
  clear kVa0 kVa1
  have Va' := Lib.hid (Va.out.on hb12)
  clear Va
  have Va := Va'
  clear Va'
  have Vb' := Lib.hid (Vb.out.on hb12)
  clear Vb
  have Vb := Vb'
  clear Vb'
  have V0' := Lib.hid (V0.out.on hb12)
  clear V0
  have V0 := V0'
  clear V0'
  have V1' := Lib.hid (V1.out.on hb12)
  clear V1
  have V1 := V1'
  clear V1'
  have Vx' := Lib.hid (Vx.out.on hb12)
  clear Vx
  have Vx := Vx'
  clear Vx'
  have Vna' := Lib.hid (Vna.out.on hb12)
  clear Vna
  have Vna := Vna'
  clear Vna'
  have Vnb' := Lib.hid (Vnb.out.on hb12)
  clear Vnb
  have Vnb := Vnb'
  clear Vnb'
  have Vy' := Lib.hid (Vy.out.on hb12)
  clear Vy
  have Vy := Vy'
  clear Vy'
  have HB' := Lib.hid (HB.out.trans (hb12.mono HB.out.size))
  clear HB
  have HB := HB'
  clear HB'
  have hltVa := Va.out.blk.lt
  have kVa0 := Va.out.c0
  have kVa1 := Va.out.c1
  have Va' := Lib.hid (Va.out.on ((Below.refl _ _).alloc (Nat.le_refl _) (.cells #[.int .i64 n, .slice AVhi lVhi cVhi] 24)))
  clear Va
  have Va := Va'
  clear Va'
  have Vb' := Lib.hid (Vb.out.on ((Below.refl _ _).alloc (Nat.le_refl _) (.cells #[.int .i64 n, .slice AVhi lVhi cVhi] 24)))
  clear Vb
  have Vb := Vb'
  clear Vb'
  have V0' := Lib.hid (V0.out.on ((Below.refl _ _).alloc (Nat.le_refl _) (.cells #[.int .i64 n, .slice AVhi lVhi cVhi] 24)))
  clear V0
  have V0 := V0'
  clear V0'
  have V1' := Lib.hid (V1.out.on ((Below.refl _ _).alloc (Nat.le_refl _) (.cells #[.int .i64 n, .slice AVhi lVhi cVhi] 24)))
  clear V1
  have V1 := V1'
  clear V1'
  have Vx' := Lib.hid (Vx.out.on ((Below.refl _ _).alloc (Nat.le_refl _) (.cells #[.int .i64 n, .slice AVhi lVhi cVhi] 24)))
  clear Vx
  have Vx := Vx'
  clear Vx'
  have Vna' := Lib.hid (Vna.out.on ((Below.refl _ _).alloc (Nat.le_refl _) (.cells #[.int .i64 n, .slice AVhi lVhi cVhi] 24)))
  clear Vna
  have Vna := Vna'
  clear Vna'
  have Vnb' := Lib.hid (Vnb.out.on ((Below.refl _ _).alloc (Nat.le_refl _) (.cells #[.int .i64 n, .slice AVhi lVhi cVhi] 24)))
  clear Vnb
  have Vnb := Vnb'
  clear Vnb'
  have Vy' := Lib.hid (Vy.out.on ((Below.refl _ _).alloc (Nat.le_refl _) (.cells #[.int .i64 n, .slice AVhi lVhi cVhi] 24)))
  clear Vy
  have Vy := Vy'
  clear Vy'
  have HB' := Lib.hid (HB.out.trans (((Below.refl _ _).alloc (Nat.le_refl _) (.cells #[.int .i64 n, .slice AVhi lVhi cVhi] 24)).mono HB.out.size))
  clear HB
  have HB := HB'
  clear HB'
  have Vhi := Lib.hid (SetVar.new ha12)
  clear ha12 hb12
  go_wp2_with fail
  clear hltVa
  refine (HW0.out _ _ _ _ Va.out.arg).mono ?_
  rintro e x13 ⟨AVlo, lVlo, cVlo, rfl, ha13, hb13⟩
  clear kVa0 kVa1
  have Va' := Lib.hid (Va.out.on hb13)
  clear Va
  have Va := Va'
  clear Va'
  have Vb' := Lib.hid (Vb.out.on hb13)
  clear Vb
  have Vb := Vb'
  clear Vb'
  have V0' := Lib.hid (V0.out.on hb13)
  clear V0
  have V0 := V0'
  clear V0'
  have V1' := Lib.hid (V1.out.on hb13)
  clear V1
  have V1 := V1'
  clear V1'
  have Vx' := Lib.hid (Vx.out.on hb13)
  clear Vx
  have Vx := Vx'
  clear Vx'
  have Vna' := Lib.hid (Vna.out.on hb13)
  clear Vna
  have Vna := Vna'
  clear Vna'
  have Vnb' := Lib.hid (Vnb.out.on hb13)
  clear Vnb
  have Vnb := Vnb'
  clear Vnb'
  have Vy' := Lib.hid (Vy.out.on hb13)
  clear Vy
  have Vy := Vy'
  clear Vy'
  have Vhi' := Lib.hid (Vhi.out.on hb13)
  clear Vhi
  have Vhi := Vhi'
  clear Vhi'
  have HB' := Lib.hid (HB.out.trans (hb13.mono HB.out.size))
  clear HB
  have HB := HB'
  clear HB'
  have hltVa := Va.out.blk.lt
  have kVa0 := Va.out.c0
  have kVa1 := Va.out.c1
  have Va' := Lib.hid (Va.out.on ((Below.refl _ _).alloc (Nat.le_refl _) (.cells #[.int .i64 n, .slice AVlo lVlo cVlo] 24)))
  clear Va
  have Va := Va'
  clear Va'
  have Vb' := Lib.hid (Vb.out.on ((Below.refl _ _).alloc (Nat.le_refl _) (.cells #[.int .i64 n, .slice AVlo lVlo cVlo] 24)))
  clear Vb
  have Vb := Vb'
  clear Vb'
  have V0' := Lib.hid (V0.out.on ((Below.refl _ _).alloc (Nat.le_refl _) (.cells #[.int .i64 n, .slice AVlo lVlo cVlo] 24)))
  clear V0
  have V0 := V0'
  clear V0'
  have V1' := Lib.hid (V1.out.on ((Below.refl _ _).alloc (Nat.le_refl _) (.cells #[.int .i64 n, .slice AVlo lVlo cVlo] 24)))
  clear V1
  have V1 := V1'
  clear V1'
  have Vx' := Lib.hid (Vx.out.on ((Below.refl _ _).alloc (Nat.le_refl _) (.cells #[.int .i64 n, .slice AVlo lVlo cVlo] 24)))
  clear Vx
  have Vx := Vx'
  clear Vx'
  have Vna' := Lib.hid (Vna.out.on ((Below.refl _ _).alloc (Nat.le_refl _) (.cells #[.int .i64 n, .slice AVlo lVlo cVlo] 24)))
  clear Vna
  have Vna := Vna'
  clear Vna'
  have Vnb' := Lib.hid (Vnb.out.on ((Below.refl _ _).alloc (Nat.le_refl _) (.cells #[.int .i64 n, .slice AVlo lVlo cVlo] 24)))
  clear Vnb
  have Vnb := Vnb'
  clear Vnb'
  have Vy' := Lib.hid (Vy.out.on ((Below.refl _ _).alloc (Nat.le_refl _) (.cells #[.int .i64 n, .slice AVlo lVlo cVlo] 24)))
  clear Vy
  have Vy := Vy'
  clear Vy'
  have Vhi' := Lib.hid (Vhi.out.on ((Below.refl _ _).alloc (Nat.le_refl _) (.cells #[.int .i64 n, .slice AVlo lVlo cVlo] 24)))
  clear Vhi
  have Vhi := Vhi'
  clear Vhi'
  have HB' := Lib.hid (HB.out.trans (((Below.refl _ _).alloc (Nat.le_refl _) (.cells #[.int .i64 n, .slice AVlo lVlo cVlo] 24)).mono HB.out.size))
  clear HB
  have HB := HB'
  clear HB'
  have Vlo := Lib.hid (SetVar.new ha13)
  clear ha13 hb13
  go_wp2_with fail
  clear hltVa
  refine (HSI.out _).mono ?_
  rintro e x14 ⟨AVone, lVone, cVone, rfl, ha14, hb14⟩
  clear kVa0 kVa1
  have Va' := Lib.hid (Va.out.on hb14)
  clear Va
  have Va := Va'
  clear Va'
  have Vb' := Lib.hid (Vb.out.on hb14)
  clear Vb
  have Vb := Vb'
  clear Vb'
  have V0' := Lib.hid (V0.out.on hb14)
  clear V0
  have V0 := V0'
  clear V0'
  have V1' := Lib.hid (V1.out.on hb14)
  clear V1
  have V1 := V1'
  clear V1'
  have Vx' := Lib.hid (Vx.out.on hb14)
  clear Vx
  have Vx := Vx'
  clear Vx'
  have Vna' := Lib.hid (Vna.out.on hb14)
  clear Vna
  have Vna := Vna'
  clear Vna'
  have Vnb' := Lib.hid (Vnb.out.on hb14)
  clear Vnb
  have Vnb := Vnb'
  clear Vnb'
  have Vy' := Lib.hid (Vy.out.on hb14)
  clear Vy
  have Vy := Vy'
  clear Vy'
  have Vhi' := Lib.hid (Vhi.out.on hb14)
  clear Vhi
  have Vhi := Vhi'
  clear Vhi'
  have Vlo' := Lib.hid (Vlo.out.on hb14)
  clear Vlo
  have Vlo := Vlo'
  clear Vlo'
  have HB' := Lib.hid (HB.out.trans (hb14.mono HB.out.size))
  clear HB
  have HB := HB'
  clear HB'
  have hltVhi := Vhi.out.blk.lt
  have hltVlo := Vlo.out.blk.lt
  have kVhi0 := Vhi.out.c0
  have kVhi1 := Vhi.out.c1
  have kVlo0 := Vlo.out.c0
  have kVlo1 := Vlo.out.c1
  have Va' := Lib.hid (Va.out.on ((Below.refl _ _).alloc (Nat.le_refl _) (.cells #[.int .i64 n, .slice AVone lVone cVone] 24)))
  clear Va
  have Va := Va'
  clear Va'
  have Vb' := Lib.hid (Vb.out.on ((Below.refl _ _).alloc (Nat.le_refl _) (.cells #[.int .i64 n, .slice AVone lVone cVone] 24)))
  clear Vb
  have Vb := Vb'
  clear Vb'
  have V0' := Lib.hid (V0.out.on ((Below.refl _ _).alloc (Nat.le_refl _) (.cells #[.int .i64 n, .slice AVone lVone cVone] 24)))
  clear V0
  have V0 := V0'
  clear V0'
  have V1' := Lib.hid (V1.out.on ((Below.refl _ _).alloc (Nat.le_refl _) (.cells #[.int .i64 n, .slice AVone lVone cVone] 24)))
  clear V1
  have V1 := V1'
  clear V1'
  have Vx' := Lib.hid (Vx.out.on ((Below.refl _ _).alloc (Nat.le_refl _) (.cells #[.int .i64 n, .slice AVone lVone cVone] 24)))
  clear Vx
  have Vx := Vx'
  clear Vx'
  have Vna' := Lib.hid (Vna.out.on ((Below.refl _ _).alloc (Nat.le_refl _) (.cells #[.int .i64 n, .slice AVone lVone cVone] 24)))
  clear Vna
  have Vna := Vna'
  clear Vna'
  have Vnb' := Lib.hid (Vnb.out.on ((Below.refl _ _).alloc (Nat.le_refl _) (.cells #[.int .i64 n, .slice AVone lVone cVone] 24)))
  clear Vnb
  have Vnb := Vnb'
  clear Vnb'
  have Vy' := Lib.hid (Vy.out.on ((Below.refl _ _).alloc (Nat.le_refl _) (.cells #[.int .i64 n, .slice AVone lVone cVone] 24)))
  clear Vy
  have Vy := Vy'
  clear Vy'
  have Vhi' := Lib.hid (Vhi.out.on ((Below.refl _ _).alloc (Nat.le_refl _) (.cells #[.int .i64 n, .slice AVone lVone cVone] 24)))
  clear Vhi
  have Vhi := Vhi'
  clear Vhi'
  have Vlo' := Lib.hid (Vlo.out.on ((Below.refl _ _).alloc (Nat.le_refl _) (.cells #[.int .i64 n, .slice AVone lVone cVone] 24)))
  clear Vlo
  have Vlo := Vlo'
  clear Vlo'
  have HB' := Lib.hid (HB.out.trans (((Below.refl _ _).alloc (Nat.le_refl _) (.cells #[.int .i64 n, .slice AVone lVone cVone] 24)).mono HB.out.size))
  clear HB
  have HB := HB'
  clear HB'
  have Vone := Lib.hid (SetVar.new ha14)
  clear ha14 hb14
  go_wp2_with fail
  clear hltVhi
  clear hltVlo
  refine (HIT.out _ _ _ _ _ _ _ _ _ _ Vone.out.arg Vhi.out.arg Vlo.out.arg).mono ?_
  rintro e x15 ⟨AVbk, lVbk, cVbk, rfl, ha15, hb15⟩
  clear kVhi0 kVhi1 kVlo0 kVlo1
  have Va' := Lib.hid (Va.out.on hb15)
  clear Va
  have Va := Va'
  clear Va'
  have Vb' := Lib.hid (Vb.out.on hb15)
  clear Vb
  have Vb := Vb'
  clear Vb'
  have V0' := Lib.hid (V0.out.on hb15)
  clear V0
  have V0 := V0'
  clear V0'
  have V1' := Lib.hid (V1.out.on hb15)
  clear V1
  have V1 := V1'
  clear V1'
  have Vx' := Lib.hid (Vx.out.on hb15)
  clear Vx
  have Vx := Vx'
  clear Vx'
  have Vna' := Lib.hid (Vna.out.on hb15)
  clear Vna
  have Vna := Vna'
  clear Vna'
  have Vnb' := Lib.hid (Vnb.out.on hb15)
  clear Vnb
  have Vnb := Vnb'
  clear Vnb'
  have Vy' := Lib.hid (Vy.out.on hb15)
  clear Vy
  have Vy := Vy'
  clear Vy'
  have Vhi' := Lib.hid (Vhi.out.on hb15)
  clear Vhi
  have Vhi := Vhi'
  clear Vhi'
  have Vlo' := Lib.hid (Vlo.out.on hb15)
  clear Vlo
  have Vlo := Vlo'
  clear Vlo'
  have Vone' := Lib.hid (Vone.out.on hb15)
  clear Vone
  have Vone := Vone'
  clear Vone'
  have HB' := Lib.hid (HB.out.trans (hb15.mono HB.out.size))
  clear HB
  have HB := HB'
  clear HB'
  have hltVa := Va.out.blk.lt
  have kVa0 := Va.out.c0
  have kVa1 := Va.out.c1
  have Va' := Lib.hid (Va.out.on ((Below.refl _ _).alloc (Nat.le_refl _) (.cells #[.int .i64 n, .slice AVbk lVbk cVbk] 24)))
  clear Va
  have Va := Va'
  clear Va'
  have Vb' := Lib.hid (Vb.out.on ((Below.refl _ _).alloc (Nat.le_refl _) (.cells #[.int .i64 n, .slice AVbk lVbk cVbk] 24)))
  clear Vb
  have Vb := Vb'
  clear Vb'
  have V0' := Lib.hid (V0.out.on ((Below.refl _ _).alloc (Nat.le_refl _) (.cells #[.int .i64 n, .slice AVbk lVbk cVbk] 24)))
  clear V0
  have V0 := V0'
  clear V0'
  have V1' := Lib.hid (V1.out.on ((Below.refl _ _).alloc (Nat.le_refl _) (.cells #[.int .i64 n, .slice AVbk lVbk cVbk] 24)))
  clear V1
  have V1 := V1'
  clear V1'
  have Vx' := Lib.hid (Vx.out.on ((Below.refl _ _).alloc (Nat.le_refl _) (.cells #[.int .i64 n, .slice AVbk lVbk cVbk] 24)))
  clear Vx
  have Vx := Vx'
  clear Vx'
  have Vna' := Lib.hid (Vna.out.on ((Below.refl _ _).alloc (Nat.le_refl _) (.cells #[.int .i64 n, .slice AVbk lVbk cVbk] 24)))
  clear Vna
  have Vna := Vna'
  clear Vna'
  have Vnb' := Lib.hid (Vnb.out.on ((Below.refl _ _).alloc (Nat.le_refl _) (.cells #[.int .i64 n, .slice AVbk lVbk cVbk] 24)))
  clear Vnb
  have Vnb := Vnb'
  clear Vnb'
  have Vy' := Lib.hid (Vy.out.on ((Below.refl _ _).alloc (Nat.le_refl _) (.cells #[.int .i64 n, .slice AVbk lVbk cVbk] 24)))
  clear Vy
  have Vy := Vy'
  clear Vy'
  have Vhi' := Lib.hid (Vhi.out.on ((Below.refl _ _).alloc (Nat.le_refl _) (.cells #[.int .i64 n, .slice AVbk lVbk cVbk] 24)))
  clear Vhi
  have Vhi := Vhi'
  clear Vhi'
  have Vlo' := Lib.hid (Vlo.out.on ((Below.refl _ _).alloc (Nat.le_refl _) (.cells #[.int .i64 n, .slice AVbk lVbk cVbk] 24)))
  clear Vlo
  have Vlo := Vlo'
  clear Vlo'
  have Vone' := Lib.hid (Vone.out.on ((Below.refl _ _).alloc (Nat.le_refl _) (.cells #[.int .i64 n, .slice AVbk lVbk cVbk] 24)))
  clear Vone
  have Vone := Vone'
  clear Vone'
  have HB' := Lib.hid (HB.out.trans (((Below.refl _ _).alloc (Nat.le_refl _) (.cells #[.int .i64 n, .slice AVbk lVbk cVbk] 24)).mono HB.out.size))
  clear HB
  have HB := HB'
  clear HB'
  have Vbk := Lib.hid (SetVar.new ha15)
  clear ha15 hb15
  go_wp2_with fail
  clear hltVa
  refine (HEX.out _ _ _ _ Va.out.arg).mono ?_
  rintro e x16 ⟨AVe, lVe, cVe, rfl, ha16, hb16⟩
  clear kVa0 kVa1
  have Va' := Lib.hid (Va.out.on hb16)
  clear Va
  have Va := Va'
  clear Va'
  have Vb' := Lib.hid (Vb.out.on hb16)
  clear Vb
  have Vb := Vb'
  clear Vb'
  have V0' := Lib.hid (V0.out.on hb16)
  clear V0
  have V0 := V0'
  clear V0'
  have V1' := Lib.hid (V1.out.on hb16)
  clear V1
  have V1 := V1'
  clear V1'
  have Vx' := Lib.hid (Vx.out.on hb16)
  clear Vx
  have Vx := Vx'
  clear Vx'
  have Vna' := Lib.hid (Vna.out.on hb16)
  clear Vna
  have Vna := Vna'
  clear Vna'
  have Vnb' := Lib.hid (Vnb.out.on hb16)
  clear Vnb
  have Vnb := Vnb'
  clear Vnb'
  have Vy' := Lib.hid (Vy.out.on hb16)
  clear Vy
  have Vy := Vy'
  clear Vy'
  have Vhi' := Lib.hid (Vhi.out.on hb16)
  clear Vhi
  have Vhi := Vhi'
  clear Vhi'
  have Vlo' := Lib.hid (Vlo.out.on hb16)
  clear Vlo
  have Vlo := Vlo'
  clear Vlo'
  have Vone' := Lib.hid (Vone.out.on hb16)
  clear Vone
  have Vone := Vone'
  clear Vone'
  have Vbk' := Lib.hid (Vbk.out.on hb16)
  clear Vbk
  have Vbk := Vbk'
  clear Vbk'
  have HB' := Lib.hid (HB.out.trans (hb16.mono HB.out.size))
  clear HB
  have HB := HB'
  clear HB'
  have hltVna := Vna.out.blk.lt
  have kVna0 := Vna.out.c0
  have kVna1 := Vna.out.c1
  have Va' := Lib.hid (Va.out.on ((Below.refl _ _).alloc (Nat.le_refl _) (.cells #[.int .i64 n, .slice AVe lVe cVe] 24)))
  clear Va
  have Va := Va'
  clear Va'
  have Vb' := Lib.hid (Vb.out.on ((Below.refl _ _).alloc (Nat.le_refl _) (.cells #[.int .i64 n, .slice AVe lVe cVe] 24)))
  clear Vb
  have Vb := Vb'
  clear Vb'
  have V0' := Lib.hid (V0.out.on ((Below.refl _ _).alloc (Nat.le_refl _) (.cells #[.int .i64 n, .slice AVe lVe cVe] 24)))
  clear V0
  have V0 := V0'
  clear V0'
  have V1' := Lib.hid (V1.out.on ((Below.refl _ _).alloc (Nat.le_refl _) (.cells #[.int .i64 n, .slice AVe lVe cVe] 24)))
  clear V1
  have V1 := V1'
  clear V1'
  have Vx' := Lib.hid (Vx.out.on ((Below.refl _ _).alloc (Nat.le_refl _) (.cells #[.int .i64 n, .slice AVe lVe cVe] 24)))
  clear Vx
  have Vx := Vx'
  clear Vx'
  have Vna' := Lib.hid (Vna.out.on ((Below.refl _ _).alloc (Nat.le_refl _) (.cells #[.int .i64 n, .slice AVe lVe cVe] 24)))
  clear Vna
  have Vna := Vna'
  clear Vna'
  have Vnb' := Lib.hid (Vnb.out.on ((Below.refl _ _).alloc (Nat.le_refl _) (.cells #[.int .i64 n, .slice AVe lVe cVe] 24)))
  clear Vnb
  have Vnb := Vnb'
  clear Vnb'
  have Vy' := Lib.hid (Vy.out.on ((Below.refl _ _).alloc (Nat.le_refl _) (.cells #[.int .i64 n, .slice AVe lVe cVe] 24)))
  clear Vy
  have Vy := Vy'
  clear Vy'
  have Vhi' := Lib.hid (Vhi.out.on ((Below.refl _ _).alloc (Nat.le_refl _) (.cells #[.int .i64 n, .slice AVe lVe cVe] 24)))
  clear Vhi
  have Vhi := Vhi'
  clear Vhi'
  have Vlo' := Lib.hid (Vlo.out.on ((Below.refl _ _).alloc (Nat.le_refl _) (.cells #[.int .i64 n, .slice AVe lVe cVe] 24)))
  clear Vlo
  have Vlo := Vlo'
  clear Vlo'
  have Vone' := Lib.hid (Vone.out.on ((Below.refl _ _).alloc (Nat.le_refl _) (.cells #[.int .i64 n, .slice AVe lVe cVe] 24)))
  clear Vone
  have Vone := Vone'
  clear Vone'
  have Vbk' := Lib.hid (Vbk.out.on ((Below.refl _ _).alloc (Nat.le_refl _) (.cells #[.int .i64 n, .slice AVe lVe cVe] 24)))
  clear Vbk
  have Vbk := Vbk'
  clear Vbk'
  have HB' := Lib.hid (HB.out.trans (((Below.refl _ _).alloc (Nat.le_refl _) (.cells #[.int .i64 n, .slice AVe lVe cVe] 24)).mono HB.out.size))
  clear HB
  have HB := HB'
  clear HB'
  have Ve := Lib.hid (SetVar.new ha16)
  clear ha16 hb16
  go_wp2_with fail
  clear hltVna
  refine (HFO.out _ _ _ _ Vna.out.arg).mono ?_
  rintro e x17 ⟨AVf, lVf, cVf, rfl, ha17, hb17⟩
  clear kVna0 kVna1
  have Va' := Lib.hid (Va.out.on hb17)
  clear Va
  have Va := Va'
  clear Va'
  have Vb' := Lib.hid (Vb.out.on hb17)
  clear Vb
  have Vb := Vb'
  clear Vb'
  have V0' := Lib.hid (V0.out.on hb17)
  clear V0
  have V0 := V0'
  clear V0'
  have V1' := Lib.hid (V1.out.on hb17)
  clear V1
  have V1 := V1'
  clear V1'
  have Vx' := Lib.hid (Vx.out.on hb17)
  clear Vx
  have Vx := Vx'
  clear Vx'
  have Vna' := Lib.hid (Vna.out.on hb17)
  clear Vna
  have Vna := Vna'
  clear Vna'
  have Vnb' := Lib.hid (Vnb.out.on hb17)
  clear Vnb
  have Vnb := Vnb'
  clear Vnb'
  have Vy' := Lib.hid (Vy.out.on hb17)
  clear Vy
  have Vy := Vy'
  clear Vy'
  have Vhi' := Lib.hid (Vhi.out.on hb17)
  clear Vhi
  have Vhi := Vhi'
  clear Vhi'
  have Vlo' := Lib.hid (Vlo.out.on hb17)
  clear Vlo
  have Vlo := Vlo'
  clear Vlo'
  have Vone' := Lib.hid (Vone.out.on hb17)
  clear Vone
  have Vone := Vone'
  clear Vone'
  have Vbk' := Lib.hid (Vbk.out.on hb17)
  clear Vbk
  have Vbk := Vbk'
  clear Vbk'
  have Ve' := Lib.hid (Ve.out.on hb17)
  clear Ve
  have Ve := Ve'
  clear Ve'
  have HB' := Lib.hid (HB.out.trans (hb17.mono HB.out.size))
  clear HB
  have HB := HB'
  clear HB'
  have hltV0 := V0.out.blk.lt
  have kV00 := V0.out.c0
  have kV01 := V0.out.c1
  have Va' := Lib.hid (Va.out.on ((Below.refl _ _).alloc (Nat.le_refl _) (.cells #[.int .i64 n, .slice AVf lVf cVf] 24)))
  clear Va
  have Va := Va'
  clear Va'
  have Vb' := Lib.hid (Vb.out.on ((Below.refl _ _).alloc (Nat.le_refl _) (.cells #[.int .i64 n, .slice AVf lVf cVf] 24)))
  clear Vb
  have Vb := Vb'
  clear Vb'
  have V0' := Lib.hid (V0.out.on ((Below.refl _ _).alloc (Nat.le_refl _) (.cells #[.int .i64 n, .slice AVf lVf cVf] 24)))
  clear V0
  have V0 := V0'
  clear V0'
  have V1' := Lib.hid (V1.out.on ((Below.refl _ _).alloc (Nat.le_refl _) (.cells #[.int .i64 n, .slice AVf lVf cVf] 24)))
  clear V1
  have V1 := V1'
  clear V1'
  have Vx' := Lib.hid (Vx.out.on ((Below.refl _ _).alloc (Nat.le_refl _) (.cells #[.int .i64 n, .slice AVf lVf cVf] 24)))
  clear Vx
  have Vx := Vx'
  clear Vx'
  have Vna' := Lib.hid (Vna.out.on ((Below.refl _ _).alloc (Nat.le_refl _) (.cells #[.int .i64 n, .slice AVf lVf cVf] 24)))
  clear Vna
  have Vna := Vna'
  clear Vna'
  have Vnb' := Lib.hid (Vnb.out.on ((Below.refl _ _).alloc (Nat.le_refl _) (.cells #[.int .i64 n, .slice AVf lVf cVf] 24)))
  clear Vnb
  have Vnb := Vnb'
  clear Vnb'
  have Vy' := Lib.hid (Vy.out.on ((Below.refl _ _).alloc (Nat.le_refl _) (.cells #[.int .i64 n, .slice AVf lVf cVf] 24)))
  clear Vy
  have Vy := Vy'
  clear Vy'
  have Vhi' := Lib.hid (Vhi.out.on ((Below.refl _ _).alloc (Nat.le_refl _) (.cells #[.int .i64 n, .slice AVf lVf cVf] 24)))
  clear Vhi
  have Vhi := Vhi'
  clear Vhi'
  have Vlo' := Lib.hid (Vlo.out.on ((Below.refl _ _).alloc (Nat.le_refl _) (.cells #[.int .i64 n, .slice AVf lVf cVf] 24)))
  clear Vlo
  have Vlo := Vlo'
  clear Vlo'
  have Vone' := Lib.hid (Vone.out.on ((Below.refl _ _).alloc (Nat.le_refl _) (.cells #[.int .i64 n, .slice AVf lVf cVf] 24)))
  clear Vone
  have Vone := Vone'
  clear Vone'
  have Vbk' := Lib.hid (Vbk.out.on ((Below.refl _ _).alloc (Nat.le_refl _) (.cells #[.int .i64 n, .slice AVf lVf cVf] 24)))
  clear Vbk
  have Vbk := Vbk'
  clear Vbk'
  have Ve' := Lib.hid (Ve.out.on ((Below.refl _ _).alloc (Nat.le_refl _) (.cells #[.int .i64 n, .slice AVf lVf cVf] 24)))
  clear Ve
  have Ve := Ve'
  clear Ve'
  have HB' := Lib.hid (HB.out.trans (((Below.refl _ _).alloc (Nat.le_refl _) (.cells #[.int .i64 n, .slice AVf lVf cVf] 24)).mono HB.out.size))
  clear HB
  have HB := HB'
  clear HB'
  have Vf := Lib.hid (SetVar.new ha17)
  clear ha17 hb17
  go_wp2_with fail
  clear hltV0
  refine (HO6.out _ _ _ _ _ _ _ Vf.out.arg V0.out.arg).mono ?_
  rintro e x18 ⟨AVg, lVg, cVg, rfl, ha18, hb18⟩
  clear kV00 kV01
  have Va' := Lib.hid (Va.out.on hb18)
  clear Va
  have Va := Va'
  clear Va'
  have Vb' := Lib.hid (Vb.out.on hb18)
  clear Vb
  have Vb := Vb'
  clear Vb'
  have V0' := Lib.hid (V0.out.on hb18)
  clear V0
  have V0 := V0'
  clear V0'
  have V1' := Lib.hid (V1.out.on hb18)
  clear V1
  have V1 := V1'
  clear V1'
  have Vx' := Lib.hid (Vx.out.on hb18)
  clear Vx
  have Vx := Vx'
  clear Vx'
  have Vna' := Lib.hid (Vna.out.on hb18)
  clear Vna
  have Vna := Vna'
  clear Vna'
  have Vnb' := Lib.hid (Vnb.out.on hb18)
  clear Vnb
  have Vnb := Vnb'
  clear Vnb'
  have Vy' := Lib.hid (Vy.out.on hb18)
  clear Vy
  have Vy := Vy'
  clear Vy'
  have Vhi' := Lib.hid (Vhi.out.on hb18)
  clear Vhi
  have Vhi := Vhi'
  clear Vhi'
  have Vlo' := Lib.hid (Vlo.out.on hb18)
  clear Vlo
  have Vlo := Vlo'
  clear Vlo'
  have Vone' := Lib.hid (Vone.out.on hb18)
  clear Vone
  have Vone := Vone'
  clear Vone'
  have Vbk' := Lib.hid (Vbk.out.on hb18)
  clear Vbk
  have Vbk := Vbk'
  clear Vbk'
  have Ve' := Lib.hid (Ve.out.on hb18)
  clear Ve
  have Ve := Ve'
  clear Ve'
  have Vf' := Lib.hid (Vf.out.on hb18)
  clear Vf
  have Vf := Vf'
  clear Vf'
  have HB' := Lib.hid (HB.out.trans (hb18.mono HB.out.size))
  clear HB
  have HB := HB'
  clear HB'
  have hltVx := Vx.out.blk.lt
  have kVx0 := Vx.out.c0
  have kVx1 := Vx.out.c1
  have Va' := Lib.hid (Va.out.on ((Below.refl _ _).alloc (Nat.le_refl _) (.cells #[.int .i64 n, .slice AVg lVg cVg] 24)))
  clear Va
  have Va := Va'
  clear Va'
  have Vb' := Lib.hid (Vb.out.on ((Below.refl _ _).alloc (Nat.le_refl _) (.cells #[.int .i64 n, .slice AVg lVg cVg] 24)))
  clear Vb
  have Vb := Vb'
  clear Vb'
  have V0' := Lib.hid (V0.out.on ((Below.refl _ _).alloc (Nat.le_refl _) (.cells #[.int .i64 n, .slice AVg lVg cVg] 24)))
  clear V0
  have V0 := V0'
  clear V0'
  have V1' := Lib.hid (V1.out.on ((Below.refl _ _).alloc (Nat.le_refl _) (.cells #[.int .i64 n, .slice AVg lVg cVg] 24)))
  clear V1
  have V1 := V1'
  clear V1'
  have Vx' := Lib.hid (Vx.out.on ((Below.refl _ _).alloc (Nat.le_refl _) (.cells #[.int .i64 n, .slice AVg lVg cVg] 24)))
  clear Vx
  have Vx := Vx'
  clear Vx'
  have Vna' := Lib.hid (Vna.out.on ((Below.refl _ _).alloc (Nat.le_refl _) (.cells #[.int .i64 n, .slice AVg lVg cVg] 24)))
  clear Vna
  have Vna := Vna'
  clear Vna'
  have Vnb' := Lib.hid (Vnb.out.on ((Below.refl _ _).alloc (Nat.le_refl _) (.cells #[.int .i64 n, .slice AVg lVg cVg] 24)))
  clear Vnb
  have Vnb := Vnb'
  clear Vnb'
  have Vy' := Lib.hid (Vy.out.on ((Below.refl _ _).alloc (Nat.le_refl _) (.cells #[.int .i64 n, .slice AVg lVg cVg] 24)))
  clear Vy
  have Vy := Vy'
  clear Vy'
  have Vhi' := Lib.hid (Vhi.out.on ((Below.refl _ _).alloc (Nat.le_refl _) (.cells #[.int .i64 n, .slice AVg lVg cVg] 24)))
  clear Vhi
  have Vhi := Vhi'
  clear Vhi'
  have Vlo' := Lib.hid (Vlo.out.on ((Below.refl _ _).alloc (Nat.le_refl _) (.cells #[.int .i64 n, .slice AVg lVg cVg] 24)))
  clear Vlo
  have Vlo := Vlo'
  clear Vlo'
  have Vone' := Lib.hid (Vone.out.on ((Below.refl _ _).alloc (Nat.le_refl _) (.cells #[.int .i64 n, .slice AVg lVg cVg] 24)))
  clear Vone
  have Vone := Vone'
  clear Vone'
  have Vbk' := Lib.hid (Vbk.out.on ((Below.refl _ _).alloc (Nat.le_refl _) (.cells #[.int .i64 n, .slice AVg lVg cVg] 24)))
  clear Vbk
  have Vbk := Vbk'
  clear Vbk'
  have Ve' := Lib.hid (Ve.out.on ((Below.refl _ _).alloc (Nat.le_refl _) (.cells #[.int .i64 n, .slice AVg lVg cVg] 24)))
  clear Ve
  have Ve := Ve'
  clear Ve'
  have Vf' := Lib.hid (Vf.out.on ((Below.refl _ _).alloc (Nat.le_refl _) (.cells #[.int .i64 n, .slice AVg lVg cVg] 24)))
  clear Vf
  have Vf := Vf'
  clear Vf'
  have HB' := Lib.hid (HB.out.trans (((Below.refl _ _).alloc (Nat.le_refl _) (.cells #[.int .i64 n, .slice AVg lVg cVg] 24)).mono HB.out.size))
  clear HB
  have HB := HB'
  clear HB'
  have Vg := Lib.hid (SetVar.new ha18)
  clear ha18 hb18
  go_wp2_with fail
  clear hltVx
  refine (HRT.out _ _ _ _ Vx.out.arg).mono ?_
  rintro e x19 ⟨rfl, hb19⟩
  clear kVx0 kVx1
  have Va' := Lib.hid (Va.out.on hb19)
  clear Va
  have Va := Va'
  clear Va'
  have Vb' := Lib.hid (Vb.out.on hb19)
  clear Vb
  have Vb := Vb'
  clear Vb'
  have V0' := Lib.hid (V0.out.on hb19)
  clear V0
  have V0 := V0'
  clear V0'
  have V1' := Lib.hid (V1.out.on hb19)
  clear V1
  have V1 := V1'
  clear V1'
  have Vx' := Lib.hid (Vx.out.on hb19)
  clear Vx
  have Vx := Vx'
  clear Vx'
  have Vna' := Lib.hid (Vna.out.on hb19)
  clear Vna
  have Vna := Vna'
  clear Vna'
  have Vnb' := Lib.hid (Vnb.out.on hb19)
  clear Vnb
  have Vnb := Vnb'
  clear Vnb'
  have Vy' := Lib.hid (Vy.out.on hb19)
  clear Vy
  have Vy := Vy'
  clear Vy'
  have Vhi' := Lib.hid (Vhi.out.on hb19)
  clear Vhi
  have Vhi := Vhi'
  clear Vhi'
  have Vlo' := Lib.hid (Vlo.out.on hb19)
  clear Vlo
  have Vlo := Vlo'
  clear Vlo'
  have Vone' := Lib.hid (Vone.out.on hb19)
  clear Vone
  have Vone := Vone'
  clear Vone'
  have Vbk' := Lib.hid (Vbk.out.on hb19)
  clear Vbk
  have Vbk := Vbk'
  clear Vbk'
  have Ve' := Lib.hid (Ve.out.on hb19)
  clear Ve
  have Ve := Ve'
  clear Ve'
  have Vf' := Lib.hid (Vf.out.on hb19)
  clear Vf
  have Vf := Vf'
  clear Vf'
  have Vg' := Lib.hid (Vg.out.on hb19)
  clear Vg
  have Vg := Vg'
  clear Vg'
  have HB' := Lib.hid (HB.out.trans (hb19.mono HB.out.size))
  clear HB
  have HB := HB'
  clear HB'
  clear hb19
  have kVx0 := Vx.out.c0
  have kVx1 := Vx.out.c1
  have kVy0 := Vy.out.c0
  have kVy1 := Vy.out.c1
  go_wp2_with fail
  refine (HS1.out _ _ _ _ _ _ _ Vx.out.arg Vy.out.arg).mono ?_
  rintro e x20 ⟨rfl, hb20⟩
  clear kVx0 kVx1 kVy0 kVy1
  have Va' := Lib.hid (Va.out.on hb20)
  clear Va
  have Va := Va'
  clear Va'
  have Vb' := Lib.hid (Vb.out.on hb20)
  clear Vb
  have Vb := Vb'
  clear Vb'
  have V0' := Lib.hid (V0.out.on hb20)
  clear V0
  have V0 := V0'
  clear V0'
  have V1' := Lib.hid (V1.out.on hb20)
  clear V1
  have V1 := V1'
  clear V1'
  have Vx' := Lib.hid (Vx.out.on hb20)
  clear Vx
  have Vx := Vx'
  clear Vx'
  have Vna' := Lib.hid (Vna.out.on hb20)
  clear Vna
  have Vna := Vna'
  clear Vna'
  have Vnb' := Lib.hid (Vnb.out.on hb20)
  clear Vnb
  have Vnb := Vnb'
  clear Vnb'
  have Vy' := Lib.hid (Vy.out.on hb20)
  clear Vy
  have Vy := Vy'
  clear Vy'
  have Vhi' := Lib.hid (Vhi.out.on hb20)
  clear Vhi
  have Vhi := Vhi'
  clear Vhi'
  have Vlo' := Lib.hid (Vlo.out.on hb20)
  clear Vlo
  have Vlo := Vlo'
  clear Vlo'
  have Vone' := Lib.hid (Vone.out.on hb20)
  clear Vone
  have Vone := Vone'
  clear Vone'
  have Vbk' := Lib.hid (Vbk.out.on hb20)
  clear Vbk
  have Vbk := Vbk'
  clear Vbk'
  have Ve' := Lib.hid (Ve.out.on hb20)
  clear Ve
  have Ve := Ve'
  clear Ve'
  have Vf' := Lib.hid (Vf.out.on hb20)
  clear Vf
  have Vf := Vf'
  clear Vf'
  have Vg' := Lib.hid (Vg.out.on hb20)
  clear Vg
  have Vg := Vg'
  clear Vg'
  have HB' := Lib.hid (HB.out.trans (hb20.mono HB.out.size))
  clear HB
  have HB := HB'
  clear HB'
  clear hb20
  have kVbk0 := Vbk.out.c0
  have kVbk1 := Vbk.out.c1
  have kVa0 := Va.out.c0
  have kVa1 := Va.out.c1
  go_wp2_with fail
  refine (HS2.out _ _ _ _ _ _ _ Vbk.out.arg Va.out.arg).mono ?_
  rintro e x21 ⟨rfl, hb21⟩
  clear kVbk0 kVbk1 kVa0 kVa1
  have Va' := Lib.hid (Va.out.on hb21)
  clear Va
  have Va := Va'
  clear Va'
  have Vb' := Lib.hid (Vb.out.on hb21)
  clear Vb
  have Vb := Vb'
  clear Vb'
  have V0' := Lib.hid (V0.out.on hb21)
  clear V0
  have V0 := V0'
  clear V0'
  have V1' := Lib.hid (V1.out.on hb21)
  clear V1
  have V1 := V1'
  clear V1'
  have Vx' := Lib.hid (Vx.out.on hb21)
  clear Vx
  have Vx := Vx'
  clear Vx'
  have Vna' := Lib.hid (Vna.out.on hb21)
  clear Vna
  have Vna := Vna'
  clear Vna'
  have Vnb' := Lib.hid (Vnb.out.on hb21)
  clear Vnb
  have Vnb := Vnb'
  clear Vnb'
  have Vy' := Lib.hid (Vy.out.on hb21)
  clear Vy
  have Vy := Vy'
  clear Vy'
  have Vhi' := Lib.hid (Vhi.out.on hb21)
  clear Vhi
  have Vhi := Vhi'
  clear Vhi'
  have Vlo' := Lib.hid (Vlo.out.on hb21)
  clear Vlo
  have Vlo := Vlo'
  clear Vlo'
  have Vone' := Lib.hid (Vone.out.on hb21)
  clear Vone
  have Vone := Vone'
  clear Vone'
  have Vbk' := Lib.hid (Vbk.out.on hb21)
  clear Vbk
  have Vbk := Vbk'
  clear Vbk'
  have Ve' := Lib.hid (Ve.out.on hb21)
  clear Ve
  have Ve := Ve'
  clear Ve'
  have Vf' := Lib.hid (Vf.out.on hb21)
  clear Vf
  have Vf := Vf'
  clear Vf'
  have Vg' := Lib.hid (Vg.out.on hb21)
  clear Vg
  have Vg := Vg'
  clear Vg'
  have HB' := Lib.hid (HB.out.trans (hb21.mono HB.out.size))
  clear HB
  have HB := HB'
  clear HB'
  clear hb21
  have kVe0 := Ve.out.c0
  have kVe1 := Ve.out.c1
  have kVg0 := Vg.out.c0
  have kVg1 := Vg.out.c1
  go_wp2_with fail
  refine (HS3.out _ _ _ _ _ _ _ Ve.out.arg Vg.out.arg).mono ?_
  rintro e x22 ⟨rfl, hb22⟩
  clear kVe0 kVe1 kVg0 kVg1
  have Va' := Lib.hid (Va.out.on hb22)
  clear Va
  have Va := Va'
  clear Va'
  have Vb' := Lib.hid (Vb.out.on hb22)
  clear Vb
  have Vb := Vb'
  clear Vb'
  have V0' := Lib.hid (V0.out.on hb22)
  clear V0
  have V0 := V0'
  clear V0'
  have V1' := Lib.hid (V1.out.on hb22)
  clear V1
  have V1 := V1'
  clear V1'
  have Vx' := Lib.hid (Vx.out.on hb22)
  clear Vx
  have Vx := Vx'
  clear Vx'
  have Vna' := Lib.hid (Vna.out.on hb22)
  clear Vna
  have Vna := Vna'
  clear Vna'
  have Vnb' := Lib.hid (Vnb.out.on hb22)
  clear Vnb
  have Vnb := Vnb'
  clear Vnb'
  have Vy' := Lib.hid (Vy.out.on hb22)
  clear Vy
  have Vy := Vy'
  clear Vy'
  have Vhi' := Lib.hid (Vhi.out.on hb22)
  clear Vhi
  have Vhi := Vhi'
  clear Vhi'
  have Vlo' := Lib.hid (Vlo.out.on hb22)
  clear Vlo
  have Vlo := Vlo'
  clear Vlo'
  have Vone' := Lib.hid (Vone.out.on hb22)
  clear Vone
  have Vone := Vone'
  clear Vone'
  have Vbk' := Lib.hid (Vbk.out.on hb22)
  clear Vbk
  have Vbk := Vbk'
  clear Vbk'
  have Ve' := Lib.hid (Ve.out.on hb22)
  clear Ve
  have Ve := Ve'
  clear Ve'
  have Vf' := Lib.hid (Vf.out.on hb22)
  clear Vf
  have Vf := Vf'
  clear Vf'
  have Vg' := Lib.hid (Vg.out.on hb22)
  clear Vg
  have Vg := Vg'
  clear Vg'
  have HB' := Lib.hid (HB.out.trans (hb22.mono HB.out.size))
  clear HB
  have HB := HB'
  clear HB'
  clear hb22
  go_wp2_with fail
  go_ret
  exact ⟨rfl, HB.out⟩
theorem srules_walk (m1 : Int) (A1 : Option Addr) (l1 c1 : Nat) (ws1 : List Nat) (m2 : Int) (A2 : Option Addr) (l2 c2 : Nat) (ws2 : List Nat) (v vs : Int) (w : World) (h1 : SetArg w m1 A1 l1 c1 ws1) (h2 : SetArg w m2 A2 l2 c2 ws2) (hvs : (Lit.int .u16 vs).wf = true) :
    Calls Tryd.prog 6 #[.agg #[.int .i64 m1, .slice A1 l1 c1], .agg #[.int .i64 m2, .slice A2 l2 c2], .int .i64 v, .int .u16 vs] w fun e w' => e = .returned (.bool true) ∧ Below w.heap.size w w' := by
  have hb : 0 ≤ vs ∧ vs ≤ 65535 := by simpa [Lit.wf, IntKind.min, IntKind.max, IntKind.signed, IntKind.bits] using hvs
  obtain ⟨q, rfl⟩ := Int.eq_ofNat_of_zero_le hb.1
  have hq : q < 65536 := by omega
  cases hg1 : greatB m1 l1
  case true => exact srul_x0 m1 m2 v q hq A1 A2 l1 l2 c1 c2 ws1 ws2 w h1 h2 hg1
  cases hg2 : greatB m2 l2
  case true => exact srul_x1 m1 m2 v q hq A1 A2 l1 l2 c1 c2 ws1 ws2 w h1 h2 hg1 hg2
  cases hr1 : srightB m1 ws1
  case false => exact srul_x2 m1 m2 v q hq A1 A2 l1 l2 c1 c2 ws1 ws2 w h1 h2 hg1 hg2 hr1
  cases hr2 : srightB m2 ws2
  case false => exact srul_x3 m1 m2 v q hq A1 A2 l1 l2 c1 c2 ws1 ws2 w h1 h2 hg1 hg2 hr1 hr2
  by_cases hm : m1 = m2
  · subst hm
    by_cases hv0 : v < 0
    · exact srul_x5 m1 v q hq A1 A2 l1 l2 c1 c2 ws1 ws2 w h1 h2 hg1 hg2 hr1 hr2 hv0
    · by_cases hv1 : m1 ≤ v
      · exact srul_x6 m1 v q hq A1 A2 l1 l2 c1 c2 ws1 ws2 w h1 h2 hg1 hg2 hr1 hr2 hv0 hv1
      · obtain ⟨n, rfl, ok1⟩ := sright_nat h1.lt hr1
        obtain ⟨_, ok2⟩ := (sright_iff h2.lt).1 hr2
        rw [Int.toNat_natCast] at ok2
        by_cases hvars : q < 2 ^ n
        · obtain ⟨u, rfl⟩ := Int.eq_ofNat_of_zero_le (show 0 ≤ v by omega)
          exact srul_main n u ok1.n16 (by omega) q hvars A1 A2 l1 l2 c1 c2 (tabS n ws1) (tabS n ws2) (tabS_length _ _) (tabS_length _ _) w (by rw [ok1.pack_tab]; exact h1) (by rw [ok2.pack_tab]; exact h2) hg1 hg2
        · exact srul_x7 n ok1.n16 v q hq A1 A2 l1 l2 c1 c2 ws1 ws2 w h1 h2 hg1 hg2 hr1 hr2 hv0 (by omega) (by omega)
  · exact srul_x4 m1 m2 v q hq A1 A2 l1 l2 c1 c2 ws1 ws2 w h1 h2 hg1 hg2 hr1 hr2 hm
end Go.Proofs.YtdhfpnbpkbelmaaDoor
