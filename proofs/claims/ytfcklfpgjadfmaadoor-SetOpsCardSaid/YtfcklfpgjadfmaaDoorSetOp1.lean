/- SetOps: the walk. -/
import Derived.Test.YtfcklfpgjadfmaaDoorSetRc
import Derived.Deep.DeepCutAuto
namespace Go.Proofs.YtfcklfpgjadfmaaDoor
open Go.RowKit Go.Sort
set_option linter.unusedSimpArgs false
set_option linter.unusedVariables false

set_option maxRecDepth 100000 in
set_option maxHeartbeats 8000000 in
theorem sops_great1 (o m1 m2 m3 : Int) (A1 A2 A3 : Option Addr) (l1 l2 l3 c1 c2 c3 : Nat) (ws1 ws2 ws3 : List Nat) (w : World) (h1 : SetArg w m1 A1 l1 c1 ws1) (h2 : SetArg w m2 A2 l2 c2 ws2) (h3 : SetArg w m3 A3 l3 c3 ws3) (hg1 : greatB m1 l1 = true) :
    Calls Tryd.prog 7 #[.int .i64 o, setA m1 A1 l1 c1, setA m2 A2 l2 c2, setA m3 A3 l3 c3] w fun e w' => e = .returned (.bool true) ∧ Below w.heap.size w w' := by
  have HAV := Lib.hid (fun W => alive5_any W)
  have HG1 := Lib.hid (fun W => great_any m1 A1 l1 c1 W)
  have HG2 := Lib.hid (fun W => great_any m2 A2 l2 c2 W)
  have HG3 := Lib.hid (fun W => great_any m3 A3 l3 c3 W)
  rw [hg1] at HG1
  clear hg1
  unfold setA at *
  obtain ⟨W0, hW0⟩ : ∃ W0, W0 = (((w.alloc (.cells #[.int .i64 (m1), .slice A1 l1 c1] 43)).alloc (.cells #[.int .i64 (m2), .slice A2 l2 c2] 43)).alloc (.cells #[.int .i64 (m3), .slice A3 l3 c3] 43)) := ⟨_, rfl⟩
  have hb0 : Below w.heap.size w W0 := by rw [hW0]; exact ((((Below.refl _ _).alloc (by simp) (.cells #[.int .i64 (m1), .slice A1 l1 c1] 43)).alloc (by simp) (.cells #[.int .i64 (m2), .slice A2 l2 c2] 43)).alloc (by simp <;> omega) (.cells #[.int .i64 (m3), .slice A3 l3 c3] 43))
  have hv0 : SetVar W0 (w.heap.size) (m1) A1 l1 c1 ws1 := by
    have := SetVar.new h1
    rw [hW0]; exact ((this.alloc _).alloc _)
  have hv1 : SetVar W0 (w.heap.size + 1) (m2) A2 l2 c2 ws2 := by
    have := SetVar.new (h2.alloc (.cells #[.int .i64 (m1), .slice A1 l1 c1] 43))
    simp only [World.size_alloc] at this
    rw [hW0]; exact (this.alloc _)
  have hv2 : SetVar W0 (w.heap.size + 2) (m3) A3 l3 c3 ws3 := by
    have := SetVar.new ((h3.alloc (.cells #[.int .i64 (m1), .slice A1 l1 c1] 43)).alloc (.cells #[.int .i64 (m2), .slice A2 l2 c2] 43))
    simp only [World.size_alloc] at this
    rw [hW0]; exact this
  have HWW := Lib.hid hW0
  have HB := Lib.hid hb0
  have Va := Lib.hid hv0
  have Vb := Lib.hid hv1
  have Vc := Lib.hid hv2
  clear hb0 hv0 hv1 hv2 h1 h2 h3
  go_enter Tryd.func7, Tryd.ntmps7
  go_wp2_with fail
  rw [← HWW.out]
  clear hW0
  go_wp2_with fail
  refine (HAV.out _).mono ?_
  rintro e x1 ⟨rfl, hb1⟩
  have Va' := Lib.hid (Va.out.on hb1)
  clear Va
  have Va := Va'
  clear Va'
  have Vb' := Lib.hid (Vb.out.on hb1)
  clear Vb
  have Vb := Vb'
  clear Vb'
  have Vc' := Lib.hid (Vc.out.on hb1)
  clear Vc
  have Vc := Vc'
  clear Vc'
  have HB' := Lib.hid (HB.out.trans (hb1.mono HB.out.size))
  clear HB
  have HB := HB'
  clear HB'
  clear hb1
  have kVa0 := Va.out.c0
  have kVa1 := Va.out.c1
  go_wp2_with fail
  refine (HG1.out _).mono ?_
  rintro e x2 ⟨rfl, hb2⟩
  clear kVa0 kVa1
  have Va' := Lib.hid (Va.out.on hb2)
  clear Va
  have Va := Va'
  clear Va'
  have Vb' := Lib.hid (Vb.out.on hb2)
  clear Vb
  have Vb := Vb'
  clear Vb'
  have Vc' := Lib.hid (Vc.out.on hb2)
  clear Vc
  have Vc := Vc'
  clear Vc'
  have HB' := Lib.hid (HB.out.trans (hb2.mono HB.out.size))
  clear HB
  have HB := HB'
  clear HB'
  clear hb2
  go_wp2_with fail
  go_ret
  exact ⟨rfl, HB.out⟩

set_option maxRecDepth 100000 in
set_option maxHeartbeats 8000000 in
theorem sops_great2 (o m1 m2 m3 : Int) (A1 A2 A3 : Option Addr) (l1 l2 l3 c1 c2 c3 : Nat) (ws1 ws2 ws3 : List Nat) (w : World) (h1 : SetArg w m1 A1 l1 c1 ws1) (h2 : SetArg w m2 A2 l2 c2 ws2) (h3 : SetArg w m3 A3 l3 c3 ws3) (hg1 : greatB m1 l1 = false) (hg2 : greatB m2 l2 = true) :
    Calls Tryd.prog 7 #[.int .i64 o, setA m1 A1 l1 c1, setA m2 A2 l2 c2, setA m3 A3 l3 c3] w fun e w' => e = .returned (.bool true) ∧ Below w.heap.size w w' := by
  have HAV := Lib.hid (fun W => alive5_any W)
  have HG1 := Lib.hid (fun W => great_any m1 A1 l1 c1 W)
  have HG2 := Lib.hid (fun W => great_any m2 A2 l2 c2 W)
  have HG3 := Lib.hid (fun W => great_any m3 A3 l3 c3 W)
  rw [hg1] at HG1
  clear hg1
  rw [hg2] at HG2
  clear hg2
  unfold setA at *
  obtain ⟨W0, hW0⟩ : ∃ W0, W0 = (((w.alloc (.cells #[.int .i64 (m1), .slice A1 l1 c1] 43)).alloc (.cells #[.int .i64 (m2), .slice A2 l2 c2] 43)).alloc (.cells #[.int .i64 (m3), .slice A3 l3 c3] 43)) := ⟨_, rfl⟩
  have hb0 : Below w.heap.size w W0 := by rw [hW0]; exact ((((Below.refl _ _).alloc (by simp) (.cells #[.int .i64 (m1), .slice A1 l1 c1] 43)).alloc (by simp) (.cells #[.int .i64 (m2), .slice A2 l2 c2] 43)).alloc (by simp <;> omega) (.cells #[.int .i64 (m3), .slice A3 l3 c3] 43))
  have hv0 : SetVar W0 (w.heap.size) (m1) A1 l1 c1 ws1 := by
    have := SetVar.new h1
    rw [hW0]; exact ((this.alloc _).alloc _)
  have hv1 : SetVar W0 (w.heap.size + 1) (m2) A2 l2 c2 ws2 := by
    have := SetVar.new (h2.alloc (.cells #[.int .i64 (m1), .slice A1 l1 c1] 43))
    simp only [World.size_alloc] at this
    rw [hW0]; exact (this.alloc _)
  have hv2 : SetVar W0 (w.heap.size + 2) (m3) A3 l3 c3 ws3 := by
    have := SetVar.new ((h3.alloc (.cells #[.int .i64 (m1), .slice A1 l1 c1] 43)).alloc (.cells #[.int .i64 (m2), .slice A2 l2 c2] 43))
    simp only [World.size_alloc] at this
    rw [hW0]; exact this
  have HWW := Lib.hid hW0
  have HB := Lib.hid hb0
  have Va := Lib.hid hv0
  have Vb := Lib.hid hv1
  have Vc := Lib.hid hv2
  clear hb0 hv0 hv1 hv2 h1 h2 h3
  go_enter Tryd.func7, Tryd.ntmps7
  go_wp2_with fail
  rw [← HWW.out]
  clear hW0
  go_wp2_with fail
  refine (HAV.out _).mono ?_
  rintro e x1 ⟨rfl, hb1⟩
  have Va' := Lib.hid (Va.out.on hb1)
  clear Va
  have Va := Va'
  clear Va'
  have Vb' := Lib.hid (Vb.out.on hb1)
  clear Vb
  have Vb := Vb'
  clear Vb'
  have Vc' := Lib.hid (Vc.out.on hb1)
  clear Vc
  have Vc := Vc'
  clear Vc'
  have HB' := Lib.hid (HB.out.trans (hb1.mono HB.out.size))
  clear HB
  have HB := HB'
  clear HB'
  clear hb1
  have kVa0 := Va.out.c0
  have kVa1 := Va.out.c1
  go_wp2_with fail
  refine (HG1.out _).mono ?_
  rintro e x2 ⟨rfl, hb2⟩
  clear kVa0 kVa1
  have Va' := Lib.hid (Va.out.on hb2)
  clear Va
  have Va := Va'
  clear Va'
  have Vb' := Lib.hid (Vb.out.on hb2)
  clear Vb
  have Vb := Vb'
  clear Vb'
  have Vc' := Lib.hid (Vc.out.on hb2)
  clear Vc
  have Vc := Vc'
  clear Vc'
  have HB' := Lib.hid (HB.out.trans (hb2.mono HB.out.size))
  clear HB
  have HB := HB'
  clear HB'
  clear hb2
  have kVb0 := Vb.out.c0
  have kVb1 := Vb.out.c1
  go_wp2_with fail
  refine (HG2.out _).mono ?_
  rintro e x3 ⟨rfl, hb3⟩
  clear kVb0 kVb1
  have Va' := Lib.hid (Va.out.on hb3)
  clear Va
  have Va := Va'
  clear Va'
  have Vb' := Lib.hid (Vb.out.on hb3)
  clear Vb
  have Vb := Vb'
  clear Vb'
  have Vc' := Lib.hid (Vc.out.on hb3)
  clear Vc
  have Vc := Vc'
  clear Vc'
  have HB' := Lib.hid (HB.out.trans (hb3.mono HB.out.size))
  clear HB
  have HB := HB'
  clear HB'
  clear hb3
  go_wp2_with fail
  go_ret
  exact ⟨rfl, HB.out⟩

set_option maxRecDepth 100000 in
set_option maxHeartbeats 8000000 in
theorem sops_great3 (o m1 m2 m3 : Int) (A1 A2 A3 : Option Addr) (l1 l2 l3 c1 c2 c3 : Nat) (ws1 ws2 ws3 : List Nat) (w : World) (h1 : SetArg w m1 A1 l1 c1 ws1) (h2 : SetArg w m2 A2 l2 c2 ws2) (h3 : SetArg w m3 A3 l3 c3 ws3) (hg1 : greatB m1 l1 = false) (hg2 : greatB m2 l2 = false) (hg3 : greatB m3 l3 = true) :
    Calls Tryd.prog 7 #[.int .i64 o, setA m1 A1 l1 c1, setA m2 A2 l2 c2, setA m3 A3 l3 c3] w fun e w' => e = .returned (.bool true) ∧ Below w.heap.size w w' := by
  have HAV := Lib.hid (fun W => alive5_any W)
  have HG1 := Lib.hid (fun W => great_any m1 A1 l1 c1 W)
  have HG2 := Lib.hid (fun W => great_any m2 A2 l2 c2 W)
  have HG3 := Lib.hid (fun W => great_any m3 A3 l3 c3 W)
  rw [hg1] at HG1
  clear hg1
  rw [hg2] at HG2
  clear hg2
  rw [hg3] at HG3
  clear hg3
  unfold setA at *
  obtain ⟨W0, hW0⟩ : ∃ W0, W0 = (((w.alloc (.cells #[.int .i64 (m1), .slice A1 l1 c1] 43)).alloc (.cells #[.int .i64 (m2), .slice A2 l2 c2] 43)).alloc (.cells #[.int .i64 (m3), .slice A3 l3 c3] 43)) := ⟨_, rfl⟩
  have hb0 : Below w.heap.size w W0 := by rw [hW0]; exact ((((Below.refl _ _).alloc (by simp) (.cells #[.int .i64 (m1), .slice A1 l1 c1] 43)).alloc (by simp) (.cells #[.int .i64 (m2), .slice A2 l2 c2] 43)).alloc (by simp <;> omega) (.cells #[.int .i64 (m3), .slice A3 l3 c3] 43))
  have hv0 : SetVar W0 (w.heap.size) (m1) A1 l1 c1 ws1 := by
    have := SetVar.new h1
    rw [hW0]; exact ((this.alloc _).alloc _)
  have hv1 : SetVar W0 (w.heap.size + 1) (m2) A2 l2 c2 ws2 := by
    have := SetVar.new (h2.alloc (.cells #[.int .i64 (m1), .slice A1 l1 c1] 43))
    simp only [World.size_alloc] at this
    rw [hW0]; exact (this.alloc _)
  have hv2 : SetVar W0 (w.heap.size + 2) (m3) A3 l3 c3 ws3 := by
    have := SetVar.new ((h3.alloc (.cells #[.int .i64 (m1), .slice A1 l1 c1] 43)).alloc (.cells #[.int .i64 (m2), .slice A2 l2 c2] 43))
    simp only [World.size_alloc] at this
    rw [hW0]; exact this
  have HWW := Lib.hid hW0
  have HB := Lib.hid hb0
  have Va := Lib.hid hv0
  have Vb := Lib.hid hv1
  have Vc := Lib.hid hv2
  clear hb0 hv0 hv1 hv2 h1 h2 h3
  go_enter Tryd.func7, Tryd.ntmps7
  go_wp2_with fail
  rw [← HWW.out]
  clear hW0
  go_wp2_with fail
  refine (HAV.out _).mono ?_
  rintro e x1 ⟨rfl, hb1⟩
  have Va' := Lib.hid (Va.out.on hb1)
  clear Va
  have Va := Va'
  clear Va'
  have Vb' := Lib.hid (Vb.out.on hb1)
  clear Vb
  have Vb := Vb'
  clear Vb'
  have Vc' := Lib.hid (Vc.out.on hb1)
  clear Vc
  have Vc := Vc'
  clear Vc'
  have HB' := Lib.hid (HB.out.trans (hb1.mono HB.out.size))
  clear HB
  have HB := HB'
  clear HB'
  clear hb1
  have kVa0 := Va.out.c0
  have kVa1 := Va.out.c1
  go_wp2_with fail
  refine (HG1.out _).mono ?_
  rintro e x2 ⟨rfl, hb2⟩
  clear kVa0 kVa1
  have Va' := Lib.hid (Va.out.on hb2)
  clear Va
  have Va := Va'
  clear Va'
  have Vb' := Lib.hid (Vb.out.on hb2)
  clear Vb
  have Vb := Vb'
  clear Vb'
  have Vc' := Lib.hid (Vc.out.on hb2)
  clear Vc
  have Vc := Vc'
  clear Vc'
  have HB' := Lib.hid (HB.out.trans (hb2.mono HB.out.size))
  clear HB
  have HB := HB'
  clear HB'
  clear hb2
  have kVb0 := Vb.out.c0
  have kVb1 := Vb.out.c1
  go_wp2_with fail
  refine (HG2.out _).mono ?_
  rintro e x3 ⟨rfl, hb3⟩
  clear kVb0 kVb1
  have Va' := Lib.hid (Va.out.on hb3)
  clear Va
  have Va := Va'
  clear Va'
  have Vb' := Lib.hid (Vb.out.on hb3)
  clear Vb
  have Vb := Vb'
  clear Vb'
  have Vc' := Lib.hid (Vc.out.on hb3)
  clear Vc
  have Vc := Vc'
  clear Vc'
  have HB' := Lib.hid (HB.out.trans (hb3.mono HB.out.size))
  clear HB
  have HB := HB'
  clear HB'
  clear hb3
  have kVc0 := Vc.out.c0
  have kVc1 := Vc.out.c1
  go_wp2_with fail
  refine (HG3.out _).mono ?_
  rintro e x4 ⟨rfl, hb4⟩
  clear kVc0 kVc1
  have Va' := Lib.hid (Va.out.on hb4)
  clear Va
  have Va := Va'
  clear Va'
  have Vb' := Lib.hid (Vb.out.on hb4)
  clear Vb
  have Vb := Vb'
  clear Vb'
  have Vc' := Lib.hid (Vc.out.on hb4)
  clear Vc
  have Vc := Vc'
  clear Vc'
  have HB' := Lib.hid (HB.out.trans (hb4.mono HB.out.size))
  clear HB
  have HB := HB'
  clear HB'
  clear hb4
  go_wp2_with fail
  go_ret
  exact ⟨rfl, HB.out⟩

set_option maxRecDepth 100000 in
set_option maxHeartbeats 8000000 in
theorem sops_no (o m1 m2 m3 : Int) (A1 A2 A3 : Option Addr) (l1 l2 l3 c1 c2 c3 : Nat) (ws1 ws2 ws3 : List Nat) (w : World) (h1 : SetArg w m1 A1 l1 c1 ws1) (h2 : SetArg w m2 A2 l2 c2 ws2) (h3 : SetArg w m3 A3 l3 c3 ws3) (hg1 : greatB m1 l1 = false) (hg2 : greatB m2 l2 = false) (hg3 : greatB m3 l3 = false) (hno : pairB m1 m2 ws1 ws2 = false) :
    Calls Tryd.prog 7 #[.int .i64 o, setA m1 A1 l1 c1, setA m2 A2 l2 c2, setA m3 A3 l3 c3] w fun e w' => e = .returned (.bool true) ∧ Below w.heap.size w w' := by
  have HAV := Lib.hid (fun W => alive5_any W)
  have HG1 := Lib.hid (fun W => great_any m1 A1 l1 c1 W)
  have HG2 := Lib.hid (fun W => great_any m2 A2 l2 c2 W)
  have HG3 := Lib.hid (fun W => great_any m3 A3 l3 c3 W)
  rw [hg1] at HG1
  clear hg1
  rw [hg2] at HG2
  clear hg2
  rw [hg3] at HG3
  clear hg3
  have HOP := Lib.hid (fun W (h1 : SetArg W m1 A1 l1 c1 ws1) (h2 : SetArg W m2 A2 l2 c2 ws2) => (sopS_no o m1 m2 A1 A2 l1 l2 c1 c2 ws1 ws2 W h1 h2 (fun hh => by rw [hno] at hh; cases hh.1)).mono fun _ _ h => h.ans (by omega) (by omega) 0 [])
  have HIT := Lib.hid (fun W (h1 : SetArg W m1 A1 l1 c1 ws1) (h2 : SetArg W m2 A2 l2 c2 ws2) (h3 : SetArg W m3 A3 l3 c3 ws3) => (sIte_no m1 m2 m3 A1 A2 A3 l1 l2 l3 c1 c2 c3 ws1 ws2 ws3 W h1 h2 h3 (fun hh => by rw [hno] at hh; cases hh.1)).mono fun _ _ h => h.ans (by omega) (by omega) 0 [])
  have HR1 := Lib.hid (fun W (h1 : SetArg W m1 A1 l1 c1 ws1) => rright_any m1 A1 l1 c1 ws1 W h1)
  have HR2 := Lib.hid (fun W (h1 : SetArg W m2 A2 l2 c2 ws2) => rright_any m2 A2 l2 c2 ws2 W h1)
  have HT := Lib.hid (fun W m A len c ws er (h1 : SetArg W m A len c ws) (h2 : Ans 0 1 [] m len ws er) => told_ans (B := none) (l2 := 0) (c2 := 0) h1 h2 (by intro h; cases h))
  have hcase : srightB m1 ws1 = false ∨ (srightB m1 ws1 = true ∧ srightB m2 ws2 = false) ∨ (srightB m1 ws1 = true ∧ srightB m2 ws2 = true ∧ m1 ≠ m2) := by
    unfold pairB at hno
    cases hs1 : srightB m1 ws1
    · exact .inl rfl
    · cases hs2 : srightB m2 ws2
      · exact .inr (.inl ⟨rfl, rfl⟩)
      · rw [hs1, hs2] at hno; exact .inr (.inr ⟨rfl, rfl, by simpa using hno⟩)
  clear hno
  unfold SetAns setA at *
  obtain ⟨W0, hW0⟩ : ∃ W0, W0 = (((w.alloc (.cells #[.int .i64 (m1), .slice A1 l1 c1] 43)).alloc (.cells #[.int .i64 (m2), .slice A2 l2 c2] 43)).alloc (.cells #[.int .i64 (m3), .slice A3 l3 c3] 43)) := ⟨_, rfl⟩
  have hb0 : Below w.heap.size w W0 := by rw [hW0]; exact ((((Below.refl _ _).alloc (by simp) (.cells #[.int .i64 (m1), .slice A1 l1 c1] 43)).alloc (by simp) (.cells #[.int .i64 (m2), .slice A2 l2 c2] 43)).alloc (by simp <;> omega) (.cells #[.int .i64 (m3), .slice A3 l3 c3] 43))
  have hv0 : SetVar W0 (w.heap.size) (m1) A1 l1 c1 ws1 := by
    have := SetVar.new h1
    rw [hW0]; exact ((this.alloc _).alloc _)
  have hv1 : SetVar W0 (w.heap.size + 1) (m2) A2 l2 c2 ws2 := by
    have := SetVar.new (h2.alloc (.cells #[.int .i64 (m1), .slice A1 l1 c1] 43))
    simp only [World.size_alloc] at this
    rw [hW0]; exact (this.alloc _)
  have hv2 : SetVar W0 (w.heap.size + 2) (m3) A3 l3 c3 ws3 := by
    have := SetVar.new ((h3.alloc (.cells #[.int .i64 (m1), .slice A1 l1 c1] 43)).alloc (.cells #[.int .i64 (m2), .slice A2 l2 c2] 43))
    simp only [World.size_alloc] at this
    rw [hW0]; exact this
  have HWW := Lib.hid hW0
  have HB := Lib.hid hb0
  have Va := Lib.hid hv0
  have Vb := Lib.hid hv1
  have Vc := Lib.hid hv2
  clear hb0 hv0 hv1 hv2 h1 h2 h3
  go_enter Tryd.func7, Tryd.ntmps7
  go_wp2_with fail
  rw [← HWW.out]
  clear hW0
  go_wp2_with fail
  refine (HAV.out _).mono ?_
  rintro e x1 ⟨rfl, hb1⟩
  have Va' := Lib.hid (Va.out.on hb1)
  clear Va
  have Va := Va'
  clear Va'
  have Vb' := Lib.hid (Vb.out.on hb1)
  clear Vb
  have Vb := Vb'
  clear Vb'
  have Vc' := Lib.hid (Vc.out.on hb1)
  clear Vc
  have Vc := Vc'
  clear Vc'
  have HB' := Lib.hid (HB.out.trans (hb1.mono HB.out.size))
  clear HB
  have HB := HB'
  clear HB'
  clear hb1
  have kVa0 := Va.out.c0
  have kVa1 := Va.out.c1
  go_wp2_with fail
  refine (HG1.out _).mono ?_
  rintro e x2 ⟨rfl, hb2⟩
  clear kVa0 kVa1
  have Va' := Lib.hid (Va.out.on hb2)
  clear Va
  have Va := Va'
  clear Va'
  have Vb' := Lib.hid (Vb.out.on hb2)
  clear Vb
  have Vb := Vb'
  clear Vb'
  have Vc' := Lib.hid (Vc.out.on hb2)
  clear Vc
  have Vc := Vc'
  clear Vc'
  have HB' := Lib.hid (HB.out.trans (hb2.mono HB.out.size))
  clear HB
  have HB := HB'
  clear HB'
  clear hb2
  have kVb0 := Vb.out.c0
  have kVb1 := Vb.out.c1
  go_wp2_with fail
  refine (HG2.out _).mono ?_
  rintro e x3 ⟨rfl, hb3⟩
  clear kVb0 kVb1
  have Va' := Lib.hid (Va.out.on hb3)
  clear Va
  have Va := Va'
  clear Va'
  have Vb' := Lib.hid (Vb.out.on hb3)
  clear Vb
  have Vb := Vb'
  clear Vb'
  have Vc' := Lib.hid (Vc.out.on hb3)
  clear Vc
  have Vc := Vc'
  clear Vc'
  have HB' := Lib.hid (HB.out.trans (hb3.mono HB.out.size))
  clear HB
  have HB := HB'
  clear HB'
  clear hb3
  have kVc0 := Vc.out.c0
  have kVc1 := Vc.out.c1
  go_wp2_with fail
  refine (HG3.out _).mono ?_
  rintro e x4 ⟨rfl, hb4⟩
  clear kVc0 kVc1
  have Va' := Lib.hid (Va.out.on hb4)
  clear Va
  have Va := Va'
  clear Va'
  have Vb' := Lib.hid (Vb.out.on hb4)
  clear Vb
  have Vb := Vb'
  clear Vb'
  have Vc' := Lib.hid (Vc.out.on hb4)
  clear Vc
  have Vc := Vc'
  clear Vc'
  have HB' := Lib.hid (HB.out.trans (hb4.mono HB.out.size))
  clear HB
  have HB := HB'
  clear HB'
  clear hb4
  have kVa0 := Va.out.c0
  have kVa1 := Va.out.c1
  have kVb0 := Vb.out.c0
  have kVb1 := Vb.out.c1
  go_wp2_with fail
  refine (HOP.out _ Va.out.arg Vb.out.arg).mono ?_
  rintro e x5 ⟨m5, A5, l5, c5, ws5, e5, rfl, ha5, hb5, hp5⟩
  clear kVa0 kVa1
  clear kVb0 kVb1
  have Va' := Lib.hid (Va.out.on hb5)
  clear Va
  have Va := Va'
  clear Va'
  have Vb' := Lib.hid (Vb.out.on hb5)
  clear Vb
  have Vb := Vb'
  clear Vb'
  have Vc' := Lib.hid (Vc.out.on hb5)
  clear Vc
  have Vc := Vc'
  clear Vc'
  have HB' := Lib.hid (HB.out.trans (hb5.mono HB.out.size))
  clear HB
  have HB := HB'
  clear HB'
  have hltVa := Va.out.blk.lt
  have hltVb := Vb.out.blk.lt
  have hltVc := Vc.out.blk.lt
  have kVa0 := Va.out.c0
  have kVa1 := Va.out.c1
  have kVb0 := Vb.out.c0
  have kVb1 := Vb.out.c1
  have kVc0 := Vc.out.c0
  have kVc1 := Vc.out.c1
  have Va' := Lib.hid (Va.out.alloc (.cells #[.int .i64 m5, .slice A5 l5 c5] 43))
  clear Va
  have Va := Va'
  clear Va'
  have Vb' := Lib.hid (Vb.out.alloc (.cells #[.int .i64 m5, .slice A5 l5 c5] 43))
  clear Vb
  have Vb := Vb'
  clear Vb'
  have Vc' := Lib.hid (Vc.out.alloc (.cells #[.int .i64 m5, .slice A5 l5 c5] 43))
  clear Vc
  have Vc := Vc'
  clear Vc'
  have HB' := Lib.hid (below_new HB.out (Nat.le_refl _) (.cells #[.int .i64 m5, .slice A5 l5 c5] 43))
  clear HB
  have HB := HB'
  clear HB'
  have V5 := Lib.hid (SetVar.new ha5)
  have P5 := Lib.hid hp5
  clear ha5 hb5 hp5
  go_wp2_with fail
  clear hltVa
  clear hltVb
  clear hltVc
  refine (HIT.out _ Va.out.arg Vb.out.arg Vc.out.arg).mono ?_
  rintro e x6 ⟨m6, A6, l6, c6, ws6, e6, rfl, ha6, hb6, hp6⟩
  clear kVa0 kVa1
  clear kVb0 kVb1
  clear kVc0 kVc1
  have Va' := Lib.hid (Va.out.on hb6)
  clear Va
  have Va := Va'
  clear Va'
  have Vb' := Lib.hid (Vb.out.on hb6)
  clear Vb
  have Vb := Vb'
  clear Vb'
  have Vc' := Lib.hid (Vc.out.on hb6)
  clear Vc
  have Vc := Vc'
  clear Vc'
  have V5' := Lib.hid (V5.out.on hb6)
  clear V5
  have V5 := V5'
  clear V5'
  have HB' := Lib.hid (HB.out.trans (hb6.mono HB.out.size))
  clear HB
  have HB := HB'
  clear HB'
  have hltVa := Va.out.blk.lt
  have kVa0 := Va.out.c0
  have kVa1 := Va.out.c1
  have Va' := Lib.hid (Va.out.alloc (.cells #[.int .i64 m6, .slice A6 l6 c6] 43))
  clear Va
  have Va := Va'
  clear Va'
  have Vb' := Lib.hid (Vb.out.alloc (.cells #[.int .i64 m6, .slice A6 l6 c6] 43))
  clear Vb
  have Vb := Vb'
  clear Vb'
  have Vc' := Lib.hid (Vc.out.alloc (.cells #[.int .i64 m6, .slice A6 l6 c6] 43))
  clear Vc
  have Vc := Vc'
  clear Vc'
  have V5' := Lib.hid (V5.out.alloc (.cells #[.int .i64 m6, .slice A6 l6 c6] 43))
  clear V5
  have V5 := V5'
  clear V5'
  have HB' := Lib.hid (below_new HB.out (Nat.le_refl _) (.cells #[.int .i64 m6, .slice A6 l6 c6] 43))
  clear HB
  have HB := HB'
  clear HB'
  have V6 := Lib.hid (SetVar.new ha6)
  have P6 := Lib.hid hp6
  clear ha6 hb6 hp6
  go_wp2_with fail
  clear hltVa
  rcases hcase with h1 | ⟨h1, h2⟩ | ⟨h1, h2, hne⟩
  · rw [h1] at HR1
    clear h1
    refine (HR1.out _ Va.out.arg).mono ?_
    rintro e x7 ⟨rfl, hb7⟩
    clear kVa0 kVa1
    have Va' := Lib.hid (Va.out.on hb7)
    clear Va
    have Va := Va'
    clear Va'
    have Vb' := Lib.hid (Vb.out.on hb7)
    clear Vb
    have Vb := Vb'
    clear Vb'
    have Vc' := Lib.hid (Vc.out.on hb7)
    clear Vc
    have Vc := Vc'
    clear Vc'
    have V5' := Lib.hid (V5.out.on hb7)
    clear V5
    have V5 := V5'
    clear V5'
    have V6' := Lib.hid (V6.out.on hb7)
    clear V6
    have V6 := V6'
    clear V6'
    have HB' := Lib.hid (HB.out.trans (hb7.mono HB.out.size))
    clear HB
    have HB := HB'
    clear HB'
    clear hb7
    have kV50 := V5.out.c0
    have kV51 := V5.out.c1
    go_wp2_with fail
    refine (HT.out _ _ _ _ _ _ _ V5.out.arg P5.out).mono ?_
    rintro e x8 ⟨rfl, hb8⟩
    clear kV50 kV51
    have Va' := Lib.hid (Va.out.on hb8)
    clear Va
    have Va := Va'
    clear Va'
    have Vb' := Lib.hid (Vb.out.on hb8)
    clear Vb
    have Vb := Vb'
    clear Vb'
    have Vc' := Lib.hid (Vc.out.on hb8)
    clear Vc
    have Vc := Vc'
    clear Vc'
    have V5' := Lib.hid (V5.out.on hb8)
    clear V5
    have V5 := V5'
    clear V5'
    have V6' := Lib.hid (V6.out.on hb8)
    clear V6
    have V6 := V6'
    clear V6'
    have HB' := Lib.hid (HB.out.trans (hb8.mono HB.out.size))
    clear HB
    have HB := HB'
    clear HB'
    clear hb8
    have kV60 := V6.out.c0
    have kV61 := V6.out.c1
    go_wp2_with fail
    refine (HT.out _ _ _ _ _ _ _ V6.out.arg P6.out).mono ?_
    rintro e x9 ⟨rfl, hb9⟩
    clear kV60 kV61
    have Va' := Lib.hid (Va.out.on hb9)
    clear Va
    have Va := Va'
    clear Va'
    have Vb' := Lib.hid (Vb.out.on hb9)
    clear Vb
    have Vb := Vb'
    clear Vb'
    have Vc' := Lib.hid (Vc.out.on hb9)
    clear Vc
    have Vc := Vc'
    clear Vc'
    have V5' := Lib.hid (V5.out.on hb9)
    clear V5
    have V5 := V5'
    clear V5'
    have V6' := Lib.hid (V6.out.on hb9)
    clear V6
    have V6 := V6'
    clear V6'
    have HB' := Lib.hid (HB.out.trans (hb9.mono HB.out.size))
    clear HB
    have HB := HB'
    clear HB'
    clear hb9
    go_wp2_with fail
    go_ret
    exact ⟨rfl, HB.out⟩
  · rw [h1] at HR1; rw [h2] at HR2
    clear h1 h2
    refine (HR1.out _ Va.out.arg).mono ?_
    rintro e x7 ⟨rfl, hb7⟩
    clear kVa0 kVa1
    have Va' := Lib.hid (Va.out.on hb7)
    clear Va
    have Va := Va'
    clear Va'
    have Vb' := Lib.hid (Vb.out.on hb7)
    clear Vb
    have Vb := Vb'
    clear Vb'
    have Vc' := Lib.hid (Vc.out.on hb7)
    clear Vc
    have Vc := Vc'
    clear Vc'
    have V5' := Lib.hid (V5.out.on hb7)
    clear V5
    have V5 := V5'
    clear V5'
    have V6' := Lib.hid (V6.out.on hb7)
    clear V6
    have V6 := V6'
    clear V6'
    have HB' := Lib.hid (HB.out.trans (hb7.mono HB.out.size))
    clear HB
    have HB := HB'
    clear HB'
    clear hb7
    have kVb0 := Vb.out.c0
    have kVb1 := Vb.out.c1
    go_wp2_with fail
    refine (HR2.out _ Vb.out.arg).mono ?_
    rintro e x8 ⟨rfl, hb8⟩
    clear kVb0 kVb1
    have Va' := Lib.hid (Va.out.on hb8)
    clear Va
    have Va := Va'
    clear Va'
    have Vb' := Lib.hid (Vb.out.on hb8)
    clear Vb
    have Vb := Vb'
    clear Vb'
    have Vc' := Lib.hid (Vc.out.on hb8)
    clear Vc
    have Vc := Vc'
    clear Vc'
    have V5' := Lib.hid (V5.out.on hb8)
    clear V5
    have V5 := V5'
    clear V5'
    have V6' := Lib.hid (V6.out.on hb8)
    clear V6
    have V6 := V6'
    clear V6'
    have HB' := Lib.hid (HB.out.trans (hb8.mono HB.out.size))
    clear HB
    have HB := HB'
    clear HB'
    clear hb8
    have kV50 := V5.out.c0
    have kV51 := V5.out.c1
    go_wp2_with fail
    refine (HT.out _ _ _ _ _ _ _ V5.out.arg P5.out).mono ?_
    rintro e x9 ⟨rfl, hb9⟩
    clear kV50 kV51
    have Va' := Lib.hid (Va.out.on hb9)
    clear Va
    have Va := Va'
    clear Va'
    have Vb' := Lib.hid (Vb.out.on hb9)
    clear Vb
    have Vb := Vb'
    clear Vb'
    have Vc' := Lib.hid (Vc.out.on hb9)
    clear Vc
    have Vc := Vc'
    clear Vc'
    have V5' := Lib.hid (V5.out.on hb9)
    clear V5
    have V5 := V5'
    clear V5'
    have V6' := Lib.hid (V6.out.on hb9)
    clear V6
    have V6 := V6'
    clear V6'
    have HB' := Lib.hid (HB.out.trans (hb9.mono HB.out.size))
    clear HB
    have HB := HB'
    clear HB'
    clear hb9
    have kV60 := V6.out.c0
    have kV61 := V6.out.c1
    go_wp2_with fail
    refine (HT.out _ _ _ _ _ _ _ V6.out.arg P6.out).mono ?_
    rintro e x10 ⟨rfl, hb10⟩
    clear kV60 kV61
    have Va' := Lib.hid (Va.out.on hb10)
    clear Va
    have Va := Va'
    clear Va'
    have Vb' := Lib.hid (Vb.out.on hb10)
    clear Vb
    have Vb := Vb'
    clear Vb'
    have Vc' := Lib.hid (Vc.out.on hb10)
    clear Vc
    have Vc := Vc'
    clear Vc'
    have V5' := Lib.hid (V5.out.on hb10)
    clear V5
    have V5 := V5'
    clear V5'
    have V6' := Lib.hid (V6.out.on hb10)
    clear V6
    have V6 := V6'
    clear V6'
    have HB' := Lib.hid (HB.out.trans (hb10.mono HB.out.size))
    clear HB
    have HB := HB'
    clear HB'
    clear hb10
    go_wp2_with fail
    go_ret
    exact ⟨rfl, HB.out⟩
  · rw [h1] at HR1; rw [h2] at HR2
    clear h1 h2
    have hbeq : (m1 == m2) = false := by rw [beq_eq_false_iff_ne]; exact hne
    refine (HR1.out _ Va.out.arg).mono ?_
    rintro e x7 ⟨rfl, hb7⟩
    clear kVa0 kVa1
    have Va' := Lib.hid (Va.out.on hb7)
    clear Va
    have Va := Va'
    clear Va'
    have Vb' := Lib.hid (Vb.out.on hb7)
    clear Vb
    have Vb := Vb'
    clear Vb'
    have Vc' := Lib.hid (Vc.out.on hb7)
    clear Vc
    have Vc := Vc'
    clear Vc'
    have V5' := Lib.hid (V5.out.on hb7)
    clear V5
    have V5 := V5'
    clear V5'
    have V6' := Lib.hid (V6.out.on hb7)
    clear V6
    have V6 := V6'
    clear V6'
    have HB' := Lib.hid (HB.out.trans (hb7.mono HB.out.size))
    clear HB
    have HB := HB'
    clear HB'
    clear hb7
    have kVb0 := Vb.out.c0
    have kVb1 := Vb.out.c1
    go_wp2_with fail
    refine (HR2.out _ Vb.out.arg).mono ?_
    rintro e x8 ⟨rfl, hb8⟩
    clear kVb0 kVb1
    have Va' := Lib.hid (Va.out.on hb8)
    clear Va
    have Va := Va'
    clear Va'
    have Vb' := Lib.hid (Vb.out.on hb8)
    clear Vb
    have Vb := Vb'
    clear Vb'
    have Vc' := Lib.hid (Vc.out.on hb8)
    clear Vc
    have Vc := Vc'
    clear Vc'
    have V5' := Lib.hid (V5.out.on hb8)
    clear V5
    have V5 := V5'
    clear V5'
    have V6' := Lib.hid (V6.out.on hb8)
    clear V6
    have V6 := V6'
    clear V6'
    have HB' := Lib.hid (HB.out.trans (hb8.mono HB.out.size))
    clear HB
    have HB := HB'
    clear HB'
    clear hb8
    have kVa0 := Va.out.c0
    have kVa1 := Va.out.c1
    have kVb0 := Vb.out.c0
    have kVb1 := Vb.out.c1
    have kV50 := V5.out.c0
    have kV51 := V5.out.c1
    go_wp2_with fail
    refine (HT.out _ _ _ _ _ _ _ V5.out.arg P5.out).mono ?_
    rintro e x9 ⟨rfl, hb9⟩
    clear kVa0 kVa1
    clear kVb0 kVb1
    clear kV50 kV51
    have Va' := Lib.hid (Va.out.on hb9)
    clear Va
    have Va := Va'
    clear Va'
    have Vb' := Lib.hid (Vb.out.on hb9)
    clear Vb
    have Vb := Vb'
    clear Vb'
    have Vc' := Lib.hid (Vc.out.on hb9)
    clear Vc
    have Vc := Vc'
    clear Vc'
    have V5' := Lib.hid (V5.out.on hb9)
    clear V5
    have V5 := V5'
    clear V5'
    have V6' := Lib.hid (V6.out.on hb9)
    clear V6
    have V6 := V6'
    clear V6'
    have HB' := Lib.hid (HB.out.trans (hb9.mono HB.out.size))
    clear HB
    have HB := HB'
    clear HB'
    clear hb9
    have kV60 := V6.out.c0
    have kV61 := V6.out.c1
    go_wp2_with fail
    refine (HT.out _ _ _ _ _ _ _ V6.out.arg P6.out).mono ?_
    rintro e x10 ⟨rfl, hb10⟩
    clear kV60 kV61
    have Va' := Lib.hid (Va.out.on hb10)
    clear Va
    have Va := Va'
    clear Va'
    have Vb' := Lib.hid (Vb.out.on hb10)
    clear Vb
    have Vb := Vb'
    clear Vb'
    have Vc' := Lib.hid (Vc.out.on hb10)
    clear Vc
    have Vc := Vc'
    clear Vc'
    have V5' := Lib.hid (V5.out.on hb10)
    clear V5
    have V5 := V5'
    clear V5'
    have V6' := Lib.hid (V6.out.on hb10)
    clear V6
    have V6 := V6'
    clear V6'
    have HB' := Lib.hid (HB.out.trans (hb10.mono HB.out.size))
    clear HB
    have HB := HB'
    clear HB'
    clear hb10
    go_wp2_with fail
    go_ret
    exact ⟨rfl, HB.out⟩

end Go.Proofs.YtfcklfpgjadfmaaDoor
