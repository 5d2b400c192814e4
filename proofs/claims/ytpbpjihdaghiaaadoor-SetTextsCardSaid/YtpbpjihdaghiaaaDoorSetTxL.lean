/- SetTexts: the walk. -/
import Derived.Test.YtpbpjihdaghiaaaDoorSetTx
import Derived.Test.YtpbpjihdaghiaaaDoorSetWr
import Derived.Test.YtpbpjihdaghiaaaDoorSetSa
import Derived.Test.YtpbpjihdaghiaaaDoorSetV
import Derived.Deep.DeepCutAuto
namespace Go.Proofs.YtpbpjihdaghiaaaDoor
open Go.RowKit Go.Sort
set_option linter.unusedSimpArgs false
set_option linter.unusedVariables false

set_option maxRecDepth 100000 in
set_option maxHeartbeats 16000000 in
theorem stxl_g1 (m1 : Int) (m2 : Int) (A1 A2 : Option Addr) (l1 l2 c1 c2 : Nat) (ws1 ws2 : List Nat) (s : ByteArray) (w : World) (h1 : SetArg w m1 A1 l1 c1 ws1) (h2 : SetArg w m2 A2 l2 c2 ws2) (hV : PV w) (hsm : s.size ≤ 9223372036854775807) (hg1 : greatB m1 l1 = true) :
    Calls Tryd.prog 7 #[setA m1 A1 l1 c1, setA m2 A2 l2 c2, .string s] w fun e w' => e = .returned (.bool true) ∧ Below w.heap.size w w' := by
  have HAV := Lib.hid (fun W => alive5_any W)
  have HG1 := Lib.hid (fun W => great_any m1 A1 l1 c1 W)
  have HG2 := Lib.hid (fun W => great_any m2 A2 l2 c2 W)
  rw [hg1] at HG1
  unfold setA at *
  obtain ⟨W0, hW0⟩ : ∃ W0, W0 = ((w.alloc (.cells #[.int .i64 (m1), .slice A1 l1 c1] 24)).alloc (.cells #[.int .i64 m2, .slice A2 l2 c2] 24)) := ⟨_, rfl⟩
  have hb0 : Below w.heap.size w W0 := by rw [hW0]; exact (((Below.refl _ _).alloc (by simp) (.cells #[.int .i64 (m1), .slice A1 l1 c1] 24)).alloc (by simp) (.cells #[.int .i64 m2, .slice A2 l2 c2] 24))
  have hv0 : SetVar W0 (w.heap.size) (m1) A1 l1 c1 ws1 := by
    have := SetVar.new h1
    rw [hW0]; exact (this.alloc _)
  have hv1 : SetVar W0 (w.heap.size + 1) m2 A2 l2 c2 ws2 := by
    have := SetVar.new (h2.alloc (.cells #[.int .i64 (m1), .slice A1 l1 c1] 24))
    simp only [World.size_alloc] at this
    rw [hW0]; exact this
  have HWW := Lib.hid hW0
  have HB := Lib.hid hb0
  have Va := Lib.hid hv0
  have Vb := Lib.hid hv1
  clear hb0 hv0 hv1 h1 h2 hg1
  have PP := Lib.hid (hV.on HB.out)
  clear hV
  go_enter Tryd.func7, Tryd.ntmps7
  go_wp2_with fail
  rw [← HWW.out]
  clear hW0
  go_wp2_with fail
  refine (HAV.out _).mono ?_
  rintro e x1 ⟨rfl, hb1⟩
  have Va' := Lib.hid (Va.out.on hb1)
  clear Va
  have Va := Va'
  clear Va'
  have Vb' := Lib.hid (Vb.out.on hb1)
  clear Vb
  have Vb := Vb'
  clear Vb'
  have PP' := Lib.hid (PP.out.on hb1)
  clear PP
  have PP := PP'
  clear PP'
  have HB' := Lib.hid (HB.out.trans (hb1.mono HB.out.size))
  clear HB
  have HB := HB'
  clear HB'
  clear hb1
  have kVa0 := Va.out.c0
  have kVa1 := Va.out.c1
  go_wp2_with fail
  refine (HG1.out _).mono ?_
  rintro e x2 ⟨rfl, hb2⟩
  clear kVa0 kVa1
  have Va' := Lib.hid (Va.out.on hb2)
  clear Va
  have Va := Va'
  clear Va'
  have Vb' := Lib.hid (Vb.out.on hb2)
  clear Vb
  have Vb := Vb'
  clear Vb'
  have PP' := Lib.hid (PP.out.on hb2)
  clear PP
  have PP := PP'
  clear PP'
  have HB' := Lib.hid (HB.out.trans (hb2.mono HB.out.size))
  clear HB
  have HB := HB'
  clear HB'
  clear hb2
  go_wp2_with fail
  go_ret
  exact ⟨rfl, HB.out⟩
set_option maxRecDepth 100000 in
set_option maxHeartbeats 16000000 in
theorem stxl_g2 (m1 : Int) (m2 : Int) (A1 A2 : Option Addr) (l1 l2 c1 c2 : Nat) (ws1 ws2 : List Nat) (s : ByteArray) (w : World) (h1 : SetArg w m1 A1 l1 c1 ws1) (h2 : SetArg w m2 A2 l2 c2 ws2) (hV : PV w) (hsm : s.size ≤ 9223372036854775807) (hg1 : greatB m1 l1 = false) (hg2 : greatB m2 l2 = true) :
    Calls Tryd.prog 7 #[setA m1 A1 l1 c1, setA m2 A2 l2 c2, .string s] w fun e w' => e = .returned (.bool true) ∧ Below w.heap.size w w' := by
  have HAV := Lib.hid (fun W => alive5_any W)
  have HG1 := Lib.hid (fun W => great_any m1 A1 l1 c1 W)
  have HG2 := Lib.hid (fun W => great_any m2 A2 l2 c2 W)
  rw [hg1] at HG1
  rw [hg2] at HG2
  unfold setA at *
  obtain ⟨W0, hW0⟩ : ∃ W0, W0 = ((w.alloc (.cells #[.int .i64 (m1), .slice A1 l1 c1] 24)).alloc (.cells #[.int .i64 m2, .slice A2 l2 c2] 24)) := ⟨_, rfl⟩
  have hb0 : Below w.heap.size w W0 := by rw [hW0]; exact (((Below.refl _ _).alloc (by simp) (.cells #[.int .i64 (m1), .slice A1 l1 c1] 24)).alloc (by simp) (.cells #[.int .i64 m2, .slice A2 l2 c2] 24))
  have hv0 : SetVar W0 (w.heap.size) (m1) A1 l1 c1 ws1 := by
    have := SetVar.new h1
    rw [hW0]; exact (this.alloc _)
  have hv1 : SetVar W0 (w.heap.size + 1) m2 A2 l2 c2 ws2 := by
    have := SetVar.new (h2.alloc (.cells #[.int .i64 (m1), .slice A1 l1 c1] 24))
    simp only [World.size_alloc] at this
    rw [hW0]; exact this
  have HWW := Lib.hid hW0
  have HB := Lib.hid hb0
  have Va := Lib.hid hv0
  have Vb := Lib.hid hv1
  clear hb0 hv0 hv1 h1 h2 hg1 hg2
  have PP := Lib.hid (hV.on HB.out)
  clear hV
  go_enter Tryd.func7, Tryd.ntmps7
  go_wp2_with fail
  rw [← HWW.out]
  clear hW0
  go_wp2_with fail
  refine (HAV.out _).mono ?_
  rintro e x1 ⟨rfl, hb1⟩
  have Va' := Lib.hid (Va.out.on hb1)
  clear Va
  have Va := Va'
  clear Va'
  have Vb' := Lib.hid (Vb.out.on hb1)
  clear Vb
  have Vb := Vb'
  clear Vb'
  have PP' := Lib.hid (PP.out.on hb1)
  clear PP
  have PP := PP'
  clear PP'
  have HB' := Lib.hid (HB.out.trans (hb1.mono HB.out.size))
  clear HB
  have HB := HB'
  clear HB'
  clear hb1
  have kVa0 := Va.out.c0
  have kVa1 := Va.out.c1
  go_wp2_with fail
  refine (HG1.out _).mono ?_
  rintro e x2 ⟨rfl, hb2⟩
  clear kVa0 kVa1
  have Va' := Lib.hid (Va.out.on hb2)
  clear Va
  have Va := Va'
  clear Va'
  have Vb' := Lib.hid (Vb.out.on hb2)
  clear Vb
  have Vb := Vb'
  clear Vb'
  have PP' := Lib.hid (PP.out.on hb2)
  clear PP
  have PP := PP'
  clear PP'
  have HB' := Lib.hid (HB.out.trans (hb2.mono HB.out.size))
  clear HB
  have HB := HB'
  clear HB'
  clear hb2
  have kVb0 := Vb.out.c0
  have kVb1 := Vb.out.c1
  go_wp2_with fail
  refine (HG2.out _).mono ?_
  rintro e x3 ⟨rfl, hb3⟩
  clear kVb0 kVb1
  have Va' := Lib.hid (Va.out.on hb3)
  clear Va
  have Va := Va'
  clear Va'
  have Vb' := Lib.hid (Vb.out.on hb3)
  clear Vb
  have Vb := Vb'
  clear Vb'
  have PP' := Lib.hid (PP.out.on hb3)
  clear PP
  have PP := PP'
  clear PP'
  have HB' := Lib.hid (HB.out.trans (hb3.mono HB.out.size))
  clear HB
  have HB := HB'
  clear HB'
  clear hb3
  go_wp2_with fail
  go_ret
  exact ⟨rfl, HB.out⟩
set_option maxRecDepth 100000 in
set_option maxHeartbeats 16000000 in
theorem stxl_long (m1 : Int) (m2 : Int) (A1 A2 : Option Addr) (l1 l2 c1 c2 : Nat) (ws1 ws2 : List Nat) (s : ByteArray) (w : World) (h1 : SetArg w m1 A1 l1 c1 ws1) (h2 : SetArg w m2 A2 l2 c2 ws2) (hV : PV w) (hsm : s.size ≤ 9223372036854775807) (hg1 : greatB m1 l1 = false) (hg2 : greatB m2 l2 = false) (hl : 300 < s.size) :
    Calls Tryd.prog 7 #[setA m1 A1 l1 c1, setA m2 A2 l2 c2, .string s] w fun e w' => e = .returned (.bool true) ∧ Below w.heap.size w w' := by
  have HAV := Lib.hid (fun W => alive5_any W)
  have HG1 := Lib.hid (fun W => great_any m1 A1 l1 c1 W)
  have HG2 := Lib.hid (fun W => great_any m2 A2 l2 c2 W)
  rw [hg1] at HG1
  rw [hg2] at HG2
  unfold setA at *
  obtain ⟨W0, hW0⟩ : ∃ W0, W0 = ((w.alloc (.cells #[.int .i64 (m1), .slice A1 l1 c1] 24)).alloc (.cells #[.int .i64 m2, .slice A2 l2 c2] 24)) := ⟨_, rfl⟩
  have hb0 : Below w.heap.size w W0 := by rw [hW0]; exact (((Below.refl _ _).alloc (by simp) (.cells #[.int .i64 (m1), .slice A1 l1 c1] 24)).alloc (by simp) (.cells #[.int .i64 m2, .slice A2 l2 c2] 24))
  have hv0 : SetVar W0 (w.heap.size) (m1) A1 l1 c1 ws1 := by
    have := SetVar.new h1
    rw [hW0]; exact (this.alloc _)
  have hv1 : SetVar W0 (w.heap.size + 1) m2 A2 l2 c2 ws2 := by
    have := SetVar.new (h2.alloc (.cells #[.int .i64 (m1), .slice A1 l1 c1] 24))
    simp only [World.size_alloc] at this
    rw [hW0]; exact this
  have HWW := Lib.hid hW0
  have HB := Lib.hid hb0
  have Va := Lib.hid hv0
  have Vb := Lib.hid hv1
  clear hb0 hv0 hv1 h1 h2 hg1 hg2
  have PP := Lib.hid (hV.on HB.out)
  clear hV
  go_enter Tryd.func7, Tryd.ntmps7
  go_wp2_with fail
  rw [← HWW.out]
  clear hW0
  go_wp2_with fail
  refine (HAV.out _).mono ?_
  rintro e x1 ⟨rfl, hb1⟩
  have Va' := Lib.hid (Va.out.on hb1)
  clear Va
  have Va := Va'
  clear Va'
  have Vb' := Lib.hid (Vb.out.on hb1)
  clear Vb
  have Vb := Vb'
  clear Vb'
  have PP' := Lib.hid (PP.out.on hb1)
  clear PP
  have PP := PP'
  clear PP'
  have HB' := Lib.hid (HB.out.trans (hb1.mono HB.out.size))
  clear HB
  have HB := HB'
  clear HB'
  clear hb1
  have kVa0 := Va.out.c0
  have kVa1 := Va.out.c1
  go_wp2_with fail
  refine (HG1.out _).mono ?_
  rintro e x2 ⟨rfl, hb2⟩
  clear kVa0 kVa1
  have Va' := Lib.hid (Va.out.on hb2)
  clear Va
  have Va := Va'
  clear Va'
  have Vb' := Lib.hid (Vb.out.on hb2)
  clear Vb
  have Vb := Vb'
  clear Vb'
  have PP' := Lib.hid (PP.out.on hb2)
  clear PP
  have PP := PP'
  clear PP'
  have HB' := Lib.hid (HB.out.trans (hb2.mono HB.out.size))
  clear HB
  have HB := HB'
  clear HB'
  clear hb2
  have kVb0 := Vb.out.c0
  have kVb1 := Vb.out.c1
  go_wp2_with fail
  refine (HG2.out _).mono ?_
  rintro e x3 ⟨rfl, hb3⟩
  clear kVb0 kVb1
  have Va' := Lib.hid (Va.out.on hb3)
  clear Va
  have Va := Va'
  clear Va'
  have Vb' := Lib.hid (Vb.out.on hb3)
  clear Vb
  have Vb := Vb'
  clear Vb'
  have PP' := Lib.hid (PP.out.on hb3)
  clear PP
  have PP := PP'
  clear PP'
  have HB' := Lib.hid (HB.out.trans (hb3.mono HB.out.size))
  clear HB
  have HB := HB'
  clear HB'
  clear hb3
  go_wp2_with fail
  go_ret
  exact ⟨rfl, HB.out⟩
set_option maxRecDepth 100000 in
set_option maxHeartbeats 16000000 in
theorem stxl_w_n (m1 : Int) (m2 : Int) (A1 A2 : Option Addr) (l1 l2 c1 c2 : Nat) (ws1 ws2 : List Nat) (s : ByteArray) (w : World) (h1 : SetArg w m1 A1 l1 c1 ws1) (h2 : SetArg w m2 A2 l2 c2 ws2) (hV : PV w) (hsm : s.size ≤ 9223372036854775807) (hg1 : greatB m1 l1 = false) (hg2 : greatB m2 l2 = false) (hl : s.size ≤ 300) (hr : srightB m1 ws1 = false) (hno : ¬ IsText s.data.toList) :
    Calls Tryd.prog 7 #[setA m1 A1 l1 c1, setA m2 A2 l2 c2, .string s] w fun e w' => e = .returned (.bool true) ∧ Below w.heap.size w w' := by
  have HAV := Lib.hid (fun W => alive5_any W)
  have HG1 := Lib.hid (fun W => great_any m1 A1 l1 c1 W)
  have HG2 := Lib.hid (fun W => great_any m2 A2 l2 c2 W)
  rw [hg1] at HG1
  rw [hg2] at HG2
  have HSM := Lib.hid (fun W (h1 : SetArg W m1 A1 l1 c1 ws1) (h2 : SetArg W m2 A2 l2 c2 ws2) => ssame_any m1 m2 A1 A2 l1 l2 c1 c2 _ _ W h1 h2)
  have HSS := Lib.hid (fun W (h1 : SetArg W m1 A1 l1 c1 ws1) (h2 : SetArg W m2 A2 l2 c2 ws2) => rsame_any m1 m2 A1 A2 l1 l2 c1 c2 _ _ W h1 h2)
  have HR1 := Lib.hid (fun W (h1 : SetArg W m1 A1 l1 c1 ws1) => rright_any m1 A1 l1 c1 ws1 W h1)
  rw [hr] at HR1
  have HTX := Lib.hid (fun W (h : SetArg W m1 A1 l1 c1 ws1) => stext_no m1 A1 l1 c1 ws1 W h hr)
  have HPT := Lib.hid (fun W (hV : PV W) => sparse_no s (by omega) W hV hno)
  have HZ := Lib.hid (fun W => rzero_any 0 none 0 0 W true (by simp))
  have HWR := Lib.hid (fun W => (written_any s hl W).mono fun e w' (hh : (∃ b, e = .returned (.bool b) ∧ (b = true → IsText s.data.toList)) ∧ Below W.heap.size W w') => (show e = .returned (.bool false) ∧ Below W.heap.size W w' by obtain ⟨⟨b, rfl, hb⟩, hbl⟩ := hh; cases b; exact ⟨rfl, hbl⟩; exact absurd (hb rfl) hno))
  generalize hqq : decide (m1 = m2 ∧ ws1 = ws2) = q at *
  clear hqq
  have hqn : (q != q) = false := by cases q <;> rfl
  unfold SetErr setA at *
  obtain ⟨W0, hW0⟩ : ∃ W0, W0 = ((w.alloc (.cells #[.int .i64 (m1), .slice A1 l1 c1] 24)).alloc (.cells #[.int .i64 m2, .slice A2 l2 c2] 24)) := ⟨_, rfl⟩
  have hb0 : Below w.heap.size w W0 := by rw [hW0]; exact (((Below.refl _ _).alloc (by simp) (.cells #[.int .i64 (m1), .slice A1 l1 c1] 24)).alloc (by simp) (.cells #[.int .i64 m2, .slice A2 l2 c2] 24))
  have hv0 : SetVar W0 (w.heap.size) (m1) A1 l1 c1 ws1 := by
    have := SetVar.new h1
    rw [hW0]; exact (this.alloc _)
  have hv1 : SetVar W0 (w.heap.size + 1) m2 A2 l2 c2 ws2 := by
    have := SetVar.new (h2.alloc (.cells #[.int .i64 (m1), .slice A1 l1 c1] 24))
    simp only [World.size_alloc] at this
    rw [hW0]; exact this
  have HWW := Lib.hid hW0
  have HB := Lib.hid hb0
  have Va := Lib.hid hv0
  have Vb := Lib.hid hv1
  clear hb0 hv0 hv1 h1 h2 
  have PP := Lib.hid (hV.on HB.out)
  clear hV
  go_enter Tryd.func7, Tryd.ntmps7
  go_wp2_with fail
  rw [← HWW.out]
  clear hW0
  go_wp2_with fail
  refine (HAV.out _).mono ?_
  rintro e x1 ⟨rfl, hb1⟩
  have Va' := Lib.hid (Va.out.on hb1)
  clear Va
  have Va := Va'
  clear Va'
  have Vb' := Lib.hid (Vb.out.on hb1)
  clear Vb
  have Vb := Vb'
  clear Vb'
  have PP' := Lib.hid (PP.out.on hb1)
  clear PP
  have PP := PP'
  clear PP'
  have HB' := Lib.hid (HB.out.trans (hb1.mono HB.out.size))
  clear HB
  have HB := HB'
  clear HB'
  clear hb1
  have kVa0 := Va.out.c0
  have kVa1 := Va.out.c1
  go_wp2_with fail
  refine (HG1.out _).mono ?_
  rintro e x2 ⟨rfl, hb2⟩
  clear kVa0 kVa1
  have Va' := Lib.hid (Va.out.on hb2)
  clear Va
  have Va := Va'
  clear Va'
  have Vb' := Lib.hid (Vb.out.on hb2)
  clear Vb
  have Vb := Vb'
  clear Vb'
  have PP' := Lib.hid (PP.out.on hb2)
  clear PP
  have PP := PP'
  clear PP'
  have HB' := Lib.hid (HB.out.trans (hb2.mono HB.out.size))
  clear HB
  have HB := HB'
  clear HB'
  clear hb2
  have kVb0 := Vb.out.c0
  have kVb1 := Vb.out.c1
  go_wp2_with fail
  refine (HG2.out _).mono ?_
  rintro e x3 ⟨rfl, hb3⟩
  clear kVb0 kVb1
  have Va' := Lib.hid (Va.out.on hb3)
  clear Va
  have Va := Va'
  clear Va'
  have Vb' := Lib.hid (Vb.out.on hb3)
  clear Vb
  have Vb := Vb'
  clear Vb'
  have PP' := Lib.hid (PP.out.on hb3)
  clear PP
  have PP := PP'
  clear PP'
  have HB' := Lib.hid (HB.out.trans (hb3.mono HB.out.size))
  clear HB
  have HB := HB'
  clear HB'
  clear hb3
  have kVa0 := Va.out.c0
  have kVa1 := Va.out.c1
  have kVb0 := Vb.out.c0
  have kVb1 := Vb.out.c1
  go_wp2_with fail
  clear kVa0 kVa1 kVb0 kVb1
  have FACTS : Hid (∀ W', Below x3.heap.size x3 W' → W'.cell? ⟨w.heap.size, 0, none⟩ = some (.int .i64 m1) ∧ W'.cell? ⟨w.heap.size, 1, none⟩ = some (.slice A1 l1 c1) ∧ W'.cell? ⟨w.heap.size + 1, 0, none⟩ = some (.int .i64 m2) ∧ W'.cell? ⟨w.heap.size + 1, 1, none⟩ = some (.slice A2 l2 c2)) := Lib.hid fun W' hW => ⟨(Va.out.on hW).c0, (Va.out.on hW).c1, (Vb.out.on hW).c0, (Vb.out.on hW).c1⟩
  go_region_held3 (fun w' => w'.cell? ⟨w.heap.size, 0, none⟩ = some (.int .i64 m1) ∧ w'.cell? ⟨w.heap.size, 1, none⟩ = some (.slice A1 l1 c1) ∧ w'.cell? ⟨w.heap.size + 1, 0, none⟩ = some (.int .i64 m2) ∧ w'.cell? ⟨w.heap.size + 1, 1, none⟩ = some (.slice A2 l2 c2)) ((refine FACTS.out _ ?_; (with_reducible (first | exact Below.refl _ _ | exact (Below.refl _ _).drew | exact hbKa | exact hbKa.drew | exact hbKc | exact hbKc.drew)))) (first
        | (go_at_call 16; refine (HSM.out _ (Va.out.arg.on ?_) (Vb.out.arg.on ?_)).mono ?_; (with_reducible (first | exact Below.refl _ _ | exact (Below.refl _ _).drew | exact hbKa | exact hbKa.drew | exact hbKc | exact hbKc.drew)); (with_reducible (first | exact Below.refl _ _ | exact (Below.refl _ _).drew | exact hbKa | exact hbKa.drew | exact hbKc | exact hbKc.drew)); rintro e wa ⟨rfl, hba⟩; have hbKa : Below x3.heap.size x3 wa := (by first | exact (Below.refl _ _).drew.trans hba | exact (Below.refl _ _).trans hba | exact hbKc.trans (hba.mono hbKc.size) | exact hbKc.drew.trans (hba.mono hbKc.size)))
        | (go_at_call 32; refine (HSS.out _ (Va.out.arg.on ?_) (Vb.out.arg.on ?_)).mono ?_; (with_reducible (first | exact Below.refl _ _ | exact (Below.refl _ _).drew | exact hbKa | exact hbKa.drew | exact hbKc | exact hbKc.drew)); (with_reducible (first | exact Below.refl _ _ | exact (Below.refl _ _).drew | exact hbKa | exact hbKa.drew | exact hbKc | exact hbKc.drew)); rintro e wc ⟨rfl, hbc⟩; have hbKc : Below x3.heap.size x3 wc := (by first | exact (Below.refl _ _).drew.trans hbc | exact (Below.refl _ _).trans hbc | exact hbKa.trans (hbc.mono hbKa.size) | exact hbKa.drew.trans (hbc.mono hbKa.size)))
        | fail)
  all_goals
    first
      | (have hl9 : Below wa.heap.size wa wc := hbc; clear hl9 hba hbc hbKa; have hbz := hbKc; clear hbKc; obtain ⟨wz, hwz⟩ : ∃ wz, wz = wc := ⟨wc, rfl⟩; subst hwz)
      | (have hl9 : Below wc.heap.size wc wa := hba; clear hl9 hba hbc hbKc; have hbz := hbKa; clear hbKa; obtain ⟨wz, hwz⟩ : ∃ wz, wz = wa := ⟨wa, rfl⟩; subst hwz)
      | fail
    have Va' := Lib.hid (Va.out.on hbz)
    clear Va
    have Va := Va'
    clear Va'
    have Vb' := Lib.hid (Vb.out.on hbz)
    clear Vb
    have Vb := Vb'
    clear Vb'
    have PP' := Lib.hid (PP.out.on hbz)
    clear PP
    have PP := PP'
    clear PP'
    have HB' := Lib.hid (HB.out.trans (hbz.mono HB.out.size))
    clear HB
    have HB := HB'
    clear HB'
    clear hbz
    have kVa0 := Va.out.c0
    have kVa1 := Va.out.c1
    go_wp2_with fail
    refine (HTX.out _ Va.out.arg).mono ?_
    rintro e x4 ⟨rfl, hb4⟩
    clear kVa0 kVa1
    have Va' := Lib.hid (Va.out.on hb4)
    clear Va
    have Va := Va'
    clear Va'
    have Vb' := Lib.hid (Vb.out.on hb4)
    clear Vb
    have Vb := Vb'
    clear Vb'
    have PP' := Lib.hid (PP.out.on hb4)
    clear PP
    have PP := PP'
    clear PP'
    have HB' := Lib.hid (HB.out.trans (hb4.mono HB.out.size))
    clear HB
    have HB := HB'
    clear HB'
    clear hb4
    have kVa0 := Va.out.c0
    have kVa1 := Va.out.c1
    go_wp2_with fail
    refine (HR1.out _ Va.out.arg).mono ?_
    rintro e x5 ⟨rfl, hb5⟩
    clear kVa0 kVa1
    have Va' := Lib.hid (Va.out.on hb5)
    clear Va
    have Va := Va'
    clear Va'
    have Vb' := Lib.hid (Vb.out.on hb5)
    clear Vb
    have Vb := Vb'
    clear Vb'
    have PP' := Lib.hid (PP.out.on hb5)
    clear PP
    have PP := PP'
    clear PP'
    have HB' := Lib.hid (HB.out.trans (hb5.mono HB.out.size))
    clear HB
    have HB := HB'
    clear HB'
    clear hb5
    go_wp2_with fail
    refine (HPT.out _ PP.out).mono ?_
    rintro e xq ⟨rfl, hbq⟩
    have Va' := Lib.hid (Va.out.on hbq)
    clear Va
    have Va := Va'
    clear Va'
    have Vb' := Lib.hid (Vb.out.on hbq)
    clear Vb
    have Vb := Vb'
    clear Vb'
    have PP' := Lib.hid (PP.out.on hbq)
    clear PP
    have PP := PP'
    clear PP'
    have HB' := Lib.hid (HB.out.trans (hbq.mono HB.out.size))
    clear HB
    have HB := HB'
    clear HB'
    clear hbq
    have Va' := Lib.hid (Va.out.on ((Below.refl _ _).alloc (Nat.le_refl _) (.cells #[.int .i64 0, .slice none 0 0] 24)))
    clear Va
    have Va := Va'
    clear Va'
    have Vb' := Lib.hid (Vb.out.on ((Below.refl _ _).alloc (Nat.le_refl _) (.cells #[.int .i64 0, .slice none 0 0] 24)))
    clear Vb
    have Vb := Vb'
    clear Vb'
    have PP' := Lib.hid (PP.out.on ((Below.refl _ _).alloc (Nat.le_refl _) (.cells #[.int .i64 0, .slice none 0 0] 24)))
    clear PP
    have PP := PP'
    clear PP'
    have HB' := Lib.hid (HB.out.trans (((Below.refl _ _).alloc (Nat.le_refl _) (.cells #[.int .i64 0, .slice none 0 0] 24)).mono HB.out.size))
    clear HB
    have HB := HB'
    clear HB'
    go_wp2_with fail
    refine (HZ.out _).mono ?_
    rintro e x6 ⟨rfl, hb6⟩
    have Va' := Lib.hid (Va.out.on hb6)
    clear Va
    have Va := Va'
    clear Va'
    have Vb' := Lib.hid (Vb.out.on hb6)
    clear Vb
    have Vb := Vb'
    clear Vb'
    have PP' := Lib.hid (PP.out.on hb6)
    clear PP
    have PP := PP'
    clear PP'
    have HB' := Lib.hid (HB.out.trans (hb6.mono HB.out.size))
    clear HB
    have HB := HB'
    clear HB'
    clear hb6
    go_wp2_with fail
    refine (HWR.out _).mono ?_
    rintro e x7 ⟨rfl, hb7⟩
    have Va' := Lib.hid (Va.out.on hb7)
    clear Va
    have Va := Va'
    clear Va'
    have Vb' := Lib.hid (Vb.out.on hb7)
    clear Vb
    have Vb := Vb'
    clear Vb'
    have PP' := Lib.hid (PP.out.on hb7)
    clear PP
    have PP := PP'
    clear PP'
    have HB' := Lib.hid (HB.out.trans (hb7.mono HB.out.size))
    clear HB
    have HB := HB'
    clear HB'
    clear hb7
    go_wp2_with fail
    go_ret
    exact ⟨rfl, HB.out⟩
set_option maxRecDepth 100000 in
set_option maxHeartbeats 16000000 in
theorem stxl_w_y (m1 : Int) (m2 : Int) (A1 A2 : Option Addr) (l1 l2 c1 c2 : Nat) (ws1 ws2 : List Nat) (s : ByteArray) (w : World) (h1 : SetArg w m1 A1 l1 c1 ws1) (h2 : SetArg w m2 A2 l2 c2 ws2) (hV : PV w) (hsm : s.size ≤ 9223372036854775807) (hg1 : greatB m1 l1 = false) (hg2 : greatB m2 l2 = false) (hl : s.size ≤ 300) (hr : srightB m1 ws1 = false) (k : Nat) (ws3 : List Nat) (ok3 : SOk k ws3) (e3 : textS k ws3 = s.data.toList) :
    Calls Tryd.prog 7 #[setA m1 A1 l1 c1, setA m2 A2 l2 c2, .string s] w fun e w' => e = .returned (.bool true) ∧ Below w.heap.size w w' := by
  have HAV := Lib.hid (fun W => alive5_any W)
  have HG1 := Lib.hid (fun W => great_any m1 A1 l1 c1 W)
  have HG2 := Lib.hid (fun W => great_any m2 A2 l2 c2 W)
  rw [hg1] at HG1
  rw [hg2] at HG2
  have HSM := Lib.hid (fun W (h1 : SetArg W m1 A1 l1 c1 ws1) (h2 : SetArg W m2 A2 l2 c2 ws2) => ssame_any m1 m2 A1 A2 l1 l2 c1 c2 _ _ W h1 h2)
  have HSS := Lib.hid (fun W (h1 : SetArg W m1 A1 l1 c1 ws1) (h2 : SetArg W m2 A2 l2 c2 ws2) => rsame_any m1 m2 A1 A2 l1 l2 c1 c2 _ _ W h1 h2)
  have HR1 := Lib.hid (fun W (h1 : SetArg W m1 A1 l1 c1 ws1) => rright_any m1 A1 l1 c1 ws1 W h1)
  rw [hr] at HR1
  have HTX := Lib.hid (fun W (h : SetArg W m1 A1 l1 c1 ws1) => stext_no m1 A1 l1 c1 ws1 W h hr)
  have HPT := Lib.hid (fun W (hV : PV W) => sparse_yes s (by omega) W hV k ws3 ok3 e3)
  have hk16 := ok3.n16
  have ht3 := tabS_length k ws3
  have hp3 := ok3.pack_tab
  have ok4 := SOk.pack hk16 ht3
  have HR3 := Lib.hid (fun W A l c (h : SetArg W k A l c (packT (tabS k ws3))) => rright_any k A l c _ W h)
  rw [(sright_iff ok4.lt).2 ⟨by omega, by simpa using ok4⟩] at HR3
  have HTB3 := Lib.hid (fun W A l c (h : SetArg W k A l c (packT (tabS k ws3))) => rtable_tab k A l c _ W h ok4)
  rw [tab_pack ht3] at HTB3
  have HTT3 := Lib.hid (fun W B c (h : TabArg W B (2 ^ k) c (tabS k ws3)) => rtext_any k hk16 B c (tabS k ws3) W h)
  rw [hp3, e3, show txt s.data.toList = .string s from congrArg Value.string (bytes_eq (s := s) rfl).symm] at HTT3
  have hbs : (s.toList == s.toList) = true := by simp
  generalize hqq : decide (m1 = m2 ∧ ws1 = ws2) = q at *
  clear hqq
  have hqn : (q != q) = false := by cases q <;> rfl
  unfold TabAns setA at *
  clear ok4 hp3 e3 ok3
  generalize tabS k ws3 = t3 at *
  clear ht3
  obtain ⟨W0, hW0⟩ : ∃ W0, W0 = ((w.alloc (.cells #[.int .i64 (m1), .slice A1 l1 c1] 24)).alloc (.cells #[.int .i64 m2, .slice A2 l2 c2] 24)) := ⟨_, rfl⟩
  have hb0 : Below w.heap.size w W0 := by rw [hW0]; exact (((Below.refl _ _).alloc (by simp) (.cells #[.int .i64 (m1), .slice A1 l1 c1] 24)).alloc (by simp) (.cells #[.int .i64 m2, .slice A2 l2 c2] 24))
  have hv0 : SetVar W0 (w.heap.size) (m1) A1 l1 c1 ws1 := by
    have := SetVar.new h1
    rw [hW0]; exact (this.alloc _)
  have hv1 : SetVar W0 (w.heap.size + 1) m2 A2 l2 c2 ws2 := by
    have := SetVar.new (h2.alloc (.cells #[.int .i64 (m1), .slice A1 l1 c1] 24))
    simp only [World.size_alloc] at this
    rw [hW0]; exact this
  have HWW := Lib.hid hW0
  have HB := Lib.hid hb0
  have Va := Lib.hid hv0
  have Vb := Lib.hid hv1
  clear hb0 hv0 hv1 h1 h2 
  have PP := Lib.hid (hV.on HB.out)
  clear hV
  go_enter Tryd.func7, Tryd.ntmps7
  go_wp2_with fail
  rw [← HWW.out]
  clear hW0
  go_wp2_with fail
  refine (HAV.out _).mono ?_
  rintro e x1 ⟨rfl, hb1⟩
  have Va' := Lib.hid (Va.out.on hb1)
  clear Va
  have Va := Va'
  clear Va'
  have Vb' := Lib.hid (Vb.out.on hb1)
  clear Vb
  have Vb := Vb'
  clear Vb'
  have PP' := Lib.hid (PP.out.on hb1)
  clear PP
  have PP := PP'
  clear PP'
  have HB' := Lib.hid (HB.out.trans (hb1.mono HB.out.size))
  clear HB
  have HB := HB'
  clear HB'
  clear hb1
  have kVa0 := Va.out.c0
  have kVa1 := Va.out.c1
  go_wp2_with fail
  refine (HG1.out _).mono ?_
  rintro e x2 ⟨rfl, hb2⟩
  clear kVa0 kVa1
  have Va' := Lib.hid (Va.out.on hb2)
  clear Va
  have Va := Va'
  clear Va'
  have Vb' := Lib.hid (Vb.out.on hb2)
  clear Vb
  have Vb := Vb'
  clear Vb'
  have PP' := Lib.hid (PP.out.on hb2)
  clear PP
  have PP := PP'
  clear PP'
  have HB' := Lib.hid (HB.out.trans (hb2.mono HB.out.size))
  clear HB
  have HB := HB'
  clear HB'
  clear hb2
  have kVb0 := Vb.out.c0
  have kVb1 := Vb.out.c1
  go_wp2_with fail
  refine (HG2.out _).mono ?_
  rintro e x3 ⟨rfl, hb3⟩
  clear kVb0 kVb1
  have Va' := Lib.hid (Va.out.on hb3)
  clear Va
  have Va := Va'
  clear Va'
  have Vb' := Lib.hid (Vb.out.on hb3)
  clear Vb
  have Vb := Vb'
  clear Vb'
  have PP' := Lib.hid (PP.out.on hb3)
  clear PP
  have PP := PP'
  clear PP'
  have HB' := Lib.hid (HB.out.trans (hb3.mono HB.out.size))
  clear HB
  have HB := HB'
  clear HB'
  clear hb3
  have kVa0 := Va.out.c0
  have kVa1 := Va.out.c1
  have kVb0 := Vb.out.c0
  have kVb1 := Vb.out.c1
  go_wp2_with fail
  clear kVa0 kVa1 kVb0 kVb1
  have FACTS : Hid (∀ W', Below x3.heap.size x3 W' → W'.cell? ⟨w.heap.size, 0, none⟩ = some (.int .i64 m1) ∧ W'.cell? ⟨w.heap.size, 1, none⟩ = some (.slice A1 l1 c1) ∧ W'.cell? ⟨w.heap.size + 1, 0, none⟩ = some (.int .i64 m2) ∧ W'.cell? ⟨w.heap.size + 1, 1, none⟩ = some (.slice A2 l2 c2)) := Lib.hid fun W' hW => ⟨(Va.out.on hW).c0, (Va.out.on hW).c1, (Vb.out.on hW).c0, (Vb.out.on hW).c1⟩
  go_region_held3 (fun w' => w'.cell? ⟨w.heap.size, 0, none⟩ = some (.int .i64 m1) ∧ w'.cell? ⟨w.heap.size, 1, none⟩ = some (.slice A1 l1 c1) ∧ w'.cell? ⟨w.heap.size + 1, 0, none⟩ = some (.int .i64 m2) ∧ w'.cell? ⟨w.heap.size + 1, 1, none⟩ = some (.slice A2 l2 c2)) ((refine FACTS.out _ ?_; (with_reducible (first | exact Below.refl _ _ | exact (Below.refl _ _).drew | exact hbKa | exact hbKa.drew | exact hbKc | exact hbKc.drew)))) (first
        | (go_at_call 16; refine (HSM.out _ (Va.out.arg.on ?_) (Vb.out.arg.on ?_)).mono ?_; (with_reducible (first | exact Below.refl _ _ | exact (Below.refl _ _).drew | exact hbKa | exact hbKa.drew | exact hbKc | exact hbKc.drew)); (with_reducible (first | exact Below.refl _ _ | exact (Below.refl _ _).drew | exact hbKa | exact hbKa.drew | exact hbKc | exact hbKc.drew)); rintro e wa ⟨rfl, hba⟩; have hbKa : Below x3.heap.size x3 wa := (by first | exact (Below.refl _ _).drew.trans hba | exact (Below.refl _ _).trans hba | exact hbKc.trans (hba.mono hbKc.size) | exact hbKc.drew.trans (hba.mono hbKc.size)))
        | (go_at_call 32; refine (HSS.out _ (Va.out.arg.on ?_) (Vb.out.arg.on ?_)).mono ?_; (with_reducible (first | exact Below.refl _ _ | exact (Below.refl _ _).drew | exact hbKa | exact hbKa.drew | exact hbKc | exact hbKc.drew)); (with_reducible (first | exact Below.refl _ _ | exact (Below.refl _ _).drew | exact hbKa | exact hbKa.drew | exact hbKc | exact hbKc.drew)); rintro e wc ⟨rfl, hbc⟩; have hbKc : Below x3.heap.size x3 wc := (by first | exact (Below.refl _ _).drew.trans hbc | exact (Below.refl _ _).trans hbc | exact hbKa.trans (hbc.mono hbKa.size) | exact hbKa.drew.trans (hbc.mono hbKa.size)))
        | fail)
  all_goals
    first
      | (have hl9 : Below wa.heap.size wa wc := hbc; clear hl9 hba hbc hbKa; have hbz := hbKc; clear hbKc; obtain ⟨wz, hwz⟩ : ∃ wz, wz = wc := ⟨wc, rfl⟩; subst hwz)
      | (have hl9 : Below wc.heap.size wc wa := hba; clear hl9 hba hbc hbKc; have hbz := hbKa; clear hbKa; obtain ⟨wz, hwz⟩ : ∃ wz, wz = wa := ⟨wa, rfl⟩; subst hwz)
      | fail
    have Va' := Lib.hid (Va.out.on hbz)
    clear Va
    have Va := Va'
    clear Va'
    have Vb' := Lib.hid (Vb.out.on hbz)
    clear Vb
    have Vb := Vb'
    clear Vb'
    have PP' := Lib.hid (PP.out.on hbz)
    clear PP
    have PP := PP'
    clear PP'
    have HB' := Lib.hid (HB.out.trans (hbz.mono HB.out.size))
    clear HB
    have HB := HB'
    clear HB'
    clear hbz
    have kVa0 := Va.out.c0
    have kVa1 := Va.out.c1
    go_wp2_with fail
    refine (HTX.out _ Va.out.arg).mono ?_
    rintro e x4 ⟨rfl, hb4⟩
    clear kVa0 kVa1
    have Va' := Lib.hid (Va.out.on hb4)
    clear Va
    have Va := Va'
    clear Va'
    have Vb' := Lib.hid (Vb.out.on hb4)
    clear Vb
    have Vb := Vb'
    clear Vb'
    have PP' := Lib.hid (PP.out.on hb4)
    clear PP
    have PP := PP'
    clear PP'
    have HB' := Lib.hid (HB.out.trans (hb4.mono HB.out.size))
    clear HB
    have HB := HB'
    clear HB'
    clear hb4
    have kVa0 := Va.out.c0
    have kVa1 := Va.out.c1
    go_wp2_with fail
    refine (HR1.out _ Va.out.arg).mono ?_
    rintro e x5 ⟨rfl, hb5⟩
    clear kVa0 kVa1
    have Va' := Lib.hid (Va.out.on hb5)
    clear Va
    have Va := Va'
    clear Va'
    have Vb' := Lib.hid (Vb.out.on hb5)
    clear Vb
    have Vb := Vb'
    clear Vb'
    have PP' := Lib.hid (PP.out.on hb5)
    clear PP
    have PP := PP'
    clear PP'
    have HB' := Lib.hid (HB.out.trans (hb5.mono HB.out.size))
    clear HB
    have HB := HB'
    clear HB'
    clear hb5
    go_wp2_with fail
    refine (HPT.out _ PP.out).mono ?_
    rintro e xq ⟨Aq, lq, cq, rfl, haq, hbq⟩
    have Va' := Lib.hid (Va.out.on hbq)
    clear Va
    have Va := Va'
    clear Va'
    have Vb' := Lib.hid (Vb.out.on hbq)
    clear Vb
    have Vb := Vb'
    clear Vb'
    have PP' := Lib.hid (PP.out.on hbq)
    clear PP
    have PP := PP'
    clear PP'
    have HB' := Lib.hid (HB.out.trans (hbq.mono HB.out.size))
    clear HB
    have HB := HB'
    clear HB'
    have Va' := Lib.hid (Va.out.on ((Below.refl _ _).alloc (Nat.le_refl _) (.cells #[.int .i64 (k : Nat), .slice Aq lq cq] 24)))
    clear Va
    have Va := Va'
    clear Va'
    have Vb' := Lib.hid (Vb.out.on ((Below.refl _ _).alloc (Nat.le_refl _) (.cells #[.int .i64 (k : Nat), .slice Aq lq cq] 24)))
    clear Vb
    have Vb := Vb'
    clear Vb'
    have PP' := Lib.hid (PP.out.on ((Below.refl _ _).alloc (Nat.le_refl _) (.cells #[.int .i64 (k : Nat), .slice Aq lq cq] 24)))
    clear PP
    have PP := PP'
    clear PP'
    have HB' := Lib.hid (HB.out.trans (((Below.refl _ _).alloc (Nat.le_refl _) (.cells #[.int .i64 (k : Nat), .slice Aq lq cq] 24)).mono HB.out.size))
    clear HB
    have HB := HB'
    clear HB'
    have Vq := Lib.hid (SetVar.new haq)
    clear haq hbq
    go_wp2_with fail
    refine (HR3.out _ _ _ _ Vq.out.arg).mono ?_
    rintro e x6 ⟨rfl, hb6⟩
    have Va' := Lib.hid (Va.out.on hb6)
    clear Va
    have Va := Va'
    clear Va'
    have Vb' := Lib.hid (Vb.out.on hb6)
    clear Vb
    have Vb := Vb'
    clear Vb'
    have PP' := Lib.hid (PP.out.on hb6)
    clear PP
    have PP := PP'
    clear PP'
    have Vq' := Lib.hid (Vq.out.on hb6)
    clear Vq
    have Vq := Vq'
    clear Vq'
    have HB' := Lib.hid (HB.out.trans (hb6.mono HB.out.size))
    clear HB
    have HB := HB'
    clear HB'
    clear hb6
    have kVq0 := Vq.out.c0
    have kVq1 := Vq.out.c1
    have hk1 : (k : Int) ≤ 16 := by omega
    by_cases h10 : 10 < k
    · have hk2 : (10 : Int) < (k : Int) := by omega
      go_wp2_with fail
      go_ret
      exact ⟨rfl, HB.out⟩
    · have hk2 : ¬ (10 : Int) < (k : Int) := by omega
      go_wp2_with fail
      refine (HTB3.out _ _ _ _ Vq.out.arg).mono ?_
      rintro e xu ⟨Bu, du, rfl, hu, hbu⟩
      clear kVq0 kVq1
      have Va' := Lib.hid (Va.out.on hbu)
      clear Va
      have Va := Va'
      clear Va'
      have Vb' := Lib.hid (Vb.out.on hbu)
      clear Vb
      have Vb := Vb'
      clear Vb'
      have PP' := Lib.hid (PP.out.on hbu)
      clear PP
      have PP := PP'
      clear PP'
      have Vq' := Lib.hid (Vq.out.on hbu)
      clear Vq
      have Vq := Vq'
      clear Vq'
      have HB' := Lib.hid (HB.out.trans (hbu.mono HB.out.size))
      clear HB
      have HB := HB'
      clear HB'
      have TB := Lib.hid hu
      clear hbu hu
      go_wp2_with fail
      refine (HTT3.out _ _ _ TB.out).mono ?_
      rintro e x7 ⟨rfl, hb7⟩
      have Va' := Lib.hid (Va.out.on hb7)
      clear Va
      have Va := Va'
      clear Va'
      have Vb' := Lib.hid (Vb.out.on hb7)
      clear Vb
      have Vb := Vb'
      clear Vb'
      have PP' := Lib.hid (PP.out.on hb7)
      clear PP
      have PP := PP'
      clear PP'
      have Vq' := Lib.hid (Vq.out.on hb7)
      clear Vq
      have Vq := Vq'
      clear Vq'
      have TB' := Lib.hid (TB.out.on hb7)
      clear TB
      have TB := TB'
      clear TB'
      have HB' := Lib.hid (HB.out.trans (hb7.mono HB.out.size))
      clear HB
      have HB := HB'
      clear HB'
      clear hb7
      go_wp2_with fail
      go_ret
      exact ⟨rfl, HB.out⟩
set_option maxRecDepth 100000 in
set_option maxHeartbeats 16000000 in
theorem stxl_r_n (n : Nat) (m2 : Int) (A1 A2 : Option Addr) (l1 l2 c1 c2 : Nat) (ws1 ws2 : List Nat) (s : ByteArray) (w : World) (h1 : SetArg w (n : Nat) A1 l1 c1 ws1) (h2 : SetArg w m2 A2 l2 c2 ws2) (hV : PV w) (hsm : s.size ≤ 9223372036854775807) (hg1 : greatB (n : Nat) l1 = false) (hg2 : greatB m2 l2 = false) (hl : s.size ≤ 300) (ok1 : SOk n ws1) (hno : ¬ IsText s.data.toList) :
    Calls Tryd.prog 7 #[setA (n : Nat) A1 l1 c1, setA m2 A2 l2 c2, .string s] w fun e w' => e = .returned (.bool true) ∧ Below w.heap.size w w' := by
  have HAV := Lib.hid (fun W => alive5_any W)
  have HG1 := Lib.hid (fun W => great_any (n : Nat) A1 l1 c1 W)
  have HG2 := Lib.hid (fun W => great_any m2 A2 l2 c2 W)
  rw [hg1] at HG1
  rw [hg2] at HG2
  have hn16 := ok1.n16
  have hr : srightB (n : Nat) ws1 = true := (sright_iff ok1.lt).2 ⟨by omega, by simpa using ok1⟩
  have HSM := Lib.hid (fun W (h1 : SetArg W (n : Nat) A1 l1 c1 ws1) (h2 : SetArg W m2 A2 l2 c2 ws2) => ssame_any (n : Nat) m2 A1 A2 l1 l2 c1 c2 _ _ W h1 h2)
  have HSS := Lib.hid (fun W (h1 : SetArg W (n : Nat) A1 l1 c1 ws1) (h2 : SetArg W m2 A2 l2 c2 ws2) => rsame_any (n : Nat) m2 A1 A2 l1 l2 c1 c2 _ _ W h1 h2)
  have HR1 := Lib.hid (fun W (h1 : SetArg W (n : Nat) A1 l1 c1 ws1) => rright_any (n : Nat) A1 l1 c1 ws1 W h1)
  rw [hr] at HR1
  obtain ⟨xs, hxs⟩ : ∃ x : ByteArray, x = ⟨(textS n ws1).toArray⟩ := ⟨_, rfl⟩
  have hxl : xs.data.toList = textS n ws1 := by rw [hxs]
  have hxz : xs.size < 4294967281 := by rw [hxs, bytes_size]; have := text_size hn16 ws1; omega
  have HTX := Lib.hid (fun W (h : SetArg W (n : Nat) A1 l1 c1 ws1) => stext_any n A1 l1 c1 ws1 W h ok1)
  have HPX := Lib.hid (fun W (hV : PV W) => sparse_text n ws1 ok1 xs hxl hxz W hV)
  have HTB := Lib.hid (fun W (h : SetArg W (n : Nat) A1 l1 c1 ws1) => rtable_tab n A1 l1 c1 ws1 W h ok1)
  have HTT := Lib.hid (fun W B c (h : TabArg W B (2 ^ n) c (tabS n ws1)) => rtext_any n hn16 B c (tabS n ws1) W h)
  rw [ok1.pack_tab] at HTT
  unfold txt at HTX HTT
  rw [← hxs] at HTX HTT
  have HSB := Lib.hid (fun W A l c (h : SetArg W n A l c (packT (tabS n ws1))) (h1 : SetArg W (n : Nat) A1 l1 c1 ws1) => rsame_any n n A A1 l l1 c c1 ws1 ws1 W (ok1.pack_tab ▸ h) h1)
  rw [decide_eq_true ⟨rfl, rfl⟩] at HSB
  have hbx : (xs.toList == xs.toList) = true := by simp
  have HPT := Lib.hid (fun W (hV : PV W) => sparse_no s (by omega) W hV hno)
  have HZ := Lib.hid (fun W => rzero_any 0 none 0 0 W true (by simp))
  have HWR := Lib.hid (fun W => (written_any s hl W).mono fun e w' (hh : (∃ b, e = .returned (.bool b) ∧ (b = true → IsText s.data.toList)) ∧ Below W.heap.size W w') => (show e = .returned (.bool false) ∧ Below W.heap.size W w' by obtain ⟨⟨b, rfl, hb⟩, hbl⟩ := hh; cases b; exact ⟨rfl, hbl⟩; exact absurd (hb rfl) hno))
  generalize hqq : decide (((n : Nat) : Int) = m2 ∧ ws1 = ws2) = q at *
  clear hqq
  have hqn : (q != q) = false := by cases q <;> rfl
  unfold TabAns SetErr setA at *
  clear hxs hxl hxz
  generalize tabS n ws1 = t1 at *
  obtain ⟨W0, hW0⟩ : ∃ W0, W0 = ((w.alloc (.cells #[.int .i64 ((n : Nat)), .slice A1 l1 c1] 24)).alloc (.cells #[.int .i64 m2, .slice A2 l2 c2] 24)) := ⟨_, rfl⟩
  have hb0 : Below w.heap.size w W0 := by rw [hW0]; exact (((Below.refl _ _).alloc (by simp) (.cells #[.int .i64 ((n : Nat)), .slice A1 l1 c1] 24)).alloc (by simp) (.cells #[.int .i64 m2, .slice A2 l2 c2] 24))
  have hv0 : SetVar W0 (w.heap.size) ((n : Nat)) A1 l1 c1 ws1 := by
    have := SetVar.new h1
    rw [hW0]; exact (this.alloc _)
  have hv1 : SetVar W0 (w.heap.size + 1) m2 A2 l2 c2 ws2 := by
    have := SetVar.new (h2.alloc (.cells #[.int .i64 ((n : Nat)), .slice A1 l1 c1] 24))
    simp only [World.size_alloc] at this
    rw [hW0]; exact this
  have HWW := Lib.hid hW0
  have HB := Lib.hid hb0
  have Va := Lib.hid hv0
  have Vb := Lib.hid hv1
  clear hb0 hv0 hv1 h1 h2 
  have PP := Lib.hid (hV.on HB.out)
  clear hV
  go_enter Tryd.func7, Tryd.ntmps7
  go_wp2_with fail
  rw [← HWW.out]
  clear hW0
  go_wp2_with fail
  refine (HAV.out _).mono ?_
  rintro e x1 ⟨rfl, hb1⟩
  have Va' := Lib.hid (Va.out.on hb1)
  clear Va
  have Va := Va'
  clear Va'
  have Vb' := Lib.hid (Vb.out.on hb1)
  clear Vb
  have Vb := Vb'
  clear Vb'
  have PP' := Lib.hid (PP.out.on hb1)
  clear PP
  have PP := PP'
  clear PP'
  have HB' := Lib.hid (HB.out.trans (hb1.mono HB.out.size))
  clear HB
  have HB := HB'
  clear HB'
  clear hb1
  have kVa0 := Va.out.c0
  have kVa1 := Va.out.c1
  go_wp2_with fail
  refine (HG1.out _).mono ?_
  rintro e x2 ⟨rfl, hb2⟩
  clear kVa0 kVa1
  have Va' := Lib.hid (Va.out.on hb2)
  clear Va
  have Va := Va'
  clear Va'
  have Vb' := Lib.hid (Vb.out.on hb2)
  clear Vb
  have Vb := Vb'
  clear Vb'
  have PP' := Lib.hid (PP.out.on hb2)
  clear PP
  have PP := PP'
  clear PP'
  have HB' := Lib.hid (HB.out.trans (hb2.mono HB.out.size))
  clear HB
  have HB := HB'
  clear HB'
  clear hb2
  have kVb0 := Vb.out.c0
  have kVb1 := Vb.out.c1
  go_wp2_with fail
  refine (HG2.out _).mono ?_
  rintro e x3 ⟨rfl, hb3⟩
  clear kVb0 kVb1
  have Va' := Lib.hid (Va.out.on hb3)
  clear Va
  have Va := Va'
  clear Va'
  have Vb' := Lib.hid (Vb.out.on hb3)
  clear Vb
  have Vb := Vb'
  clear Vb'
  have PP' := Lib.hid (PP.out.on hb3)
  clear PP
  have PP := PP'
  clear PP'
  have HB' := Lib.hid (HB.out.trans (hb3.mono HB.out.size))
  clear HB
  have HB := HB'
  clear HB'
  clear hb3
  have kVa0 := Va.out.c0
  have kVa1 := Va.out.c1
  have kVb0 := Vb.out.c0
  have kVb1 := Vb.out.c1
  go_wp2_with fail
  clear kVa0 kVa1 kVb0 kVb1
  have FACTS : Hid (∀ W', Below x3.heap.size x3 W' → W'.cell? ⟨w.heap.size, 0, none⟩ = some (.int .i64 (n : Nat)) ∧ W'.cell? ⟨w.heap.size, 1, none⟩ = some (.slice A1 l1 c1) ∧ W'.cell? ⟨w.heap.size + 1, 0, none⟩ = some (.int .i64 m2) ∧ W'.cell? ⟨w.heap.size + 1, 1, none⟩ = some (.slice A2 l2 c2)) := Lib.hid fun W' hW => ⟨(Va.out.on hW).c0, (Va.out.on hW).c1, (Vb.out.on hW).c0, (Vb.out.on hW).c1⟩
  go_region_held3 (fun w' => w'.cell? ⟨w.heap.size, 0, none⟩ = some (.int .i64 (n : Nat)) ∧ w'.cell? ⟨w.heap.size, 1, none⟩ = some (.slice A1 l1 c1) ∧ w'.cell? ⟨w.heap.size + 1, 0, none⟩ = some (.int .i64 m2) ∧ w'.cell? ⟨w.heap.size + 1, 1, none⟩ = some (.slice A2 l2 c2)) ((refine FACTS.out _ ?_; (with_reducible (first | exact Below.refl _ _ | exact (Below.refl _ _).drew | exact hbKa | exact hbKa.drew | exact hbKc | exact hbKc.drew)))) (first
        | (go_at_call 16; refine (HSM.out _ (Va.out.arg.on ?_) (Vb.out.arg.on ?_)).mono ?_; (with_reducible (first | exact Below.refl _ _ | exact (Below.refl _ _).drew | exact hbKa | exact hbKa.drew | exact hbKc | exact hbKc.drew)); (with_reducible (first | exact Below.refl _ _ | exact (Below.refl _ _).drew | exact hbKa | exact hbKa.drew | exact hbKc | exact hbKc.drew)); rintro e wa ⟨rfl, hba⟩; have hbKa : Below x3.heap.size x3 wa := (by first | exact (Below.refl _ _).drew.trans hba | exact (Below.refl _ _).trans hba | exact hbKc.trans (hba.mono hbKc.size) | exact hbKc.drew.trans (hba.mono hbKc.size)))
        | (go_at_call 32; refine (HSS.out _ (Va.out.arg.on ?_) (Vb.out.arg.on ?_)).mono ?_; (with_reducible (first | exact Below.refl _ _ | exact (Below.refl _ _).drew | exact hbKa | exact hbKa.drew | exact hbKc | exact hbKc.drew)); (with_reducible (first | exact Below.refl _ _ | exact (Below.refl _ _).drew | exact hbKa | exact hbKa.drew | exact hbKc | exact hbKc.drew)); rintro e wc ⟨rfl, hbc⟩; have hbKc : Below x3.heap.size x3 wc := (by first | exact (Below.refl _ _).drew.trans hbc | exact (Below.refl _ _).trans hbc | exact hbKa.trans (hbc.mono hbKa.size) | exact hbKa.drew.trans (hbc.mono hbKa.size)))
        | fail)
  all_goals
    first
      | (have hl9 : Below wa.heap.size wa wc := hbc; clear hl9 hba hbc hbKa; have hbz := hbKc; clear hbKc; obtain ⟨wz, hwz⟩ : ∃ wz, wz = wc := ⟨wc, rfl⟩; subst hwz)
      | (have hl9 : Below wc.heap.size wc wa := hba; clear hl9 hba hbc hbKc; have hbz := hbKa; clear hbKa; obtain ⟨wz, hwz⟩ : ∃ wz, wz = wa := ⟨wa, rfl⟩; subst hwz)
      | fail
    have Va' := Lib.hid (Va.out.on hbz)
    clear Va
    have Va := Va'
    clear Va'
    have Vb' := Lib.hid (Vb.out.on hbz)
    clear Vb
    have Vb := Vb'
    clear Vb'
    have PP' := Lib.hid (PP.out.on hbz)
    clear PP
    have PP := PP'
    clear PP'
    have HB' := Lib.hid (HB.out.trans (hbz.mono HB.out.size))
    clear HB
    have HB := HB'
    clear HB'
    clear hbz
    have kVa0 := Va.out.c0
    have kVa1 := Va.out.c1
    go_wp2_with fail
    refine (HTX.out _ Va.out.arg).mono ?_
    rintro e x4 ⟨rfl, hb4⟩
    clear kVa0 kVa1
    have Va' := Lib.hid (Va.out.on hb4)
    clear Va
    have Va := Va'
    clear Va'
    have Vb' := Lib.hid (Vb.out.on hb4)
    clear Vb
    have Vb := Vb'
    clear Vb'
    have PP' := Lib.hid (PP.out.on hb4)
    clear PP
    have PP := PP'
    clear PP'
    have HB' := Lib.hid (HB.out.trans (hb4.mono HB.out.size))
    clear HB
    have HB := HB'
    clear HB'
    clear hb4
    have kVa0 := Va.out.c0
    have kVa1 := Va.out.c1
    go_wp2_with fail
    refine (HR1.out _ Va.out.arg).mono ?_
    rintro e x5 ⟨rfl, hb5⟩
    clear kVa0 kVa1
    have Va' := Lib.hid (Va.out.on hb5)
    clear Va
    have Va := Va'
    clear Va'
    have Vb' := Lib.hid (Vb.out.on hb5)
    clear Vb
    have Vb := Vb'
    clear Vb'
    have PP' := Lib.hid (PP.out.on hb5)
    clear PP
    have PP := PP'
    clear PP'
    have HB' := Lib.hid (HB.out.trans (hb5.mono HB.out.size))
    clear HB
    have HB := HB'
    clear HB'
    clear hb5
    have kVa0 := Va.out.c0
    have kVa1 := Va.out.c1
    clear kVa0 kVa1
    go_wp2_with fail
    refine (HPX.out _ PP.out).mono ?_
    rintro e xp ⟨Ap, lp, cp, rfl, hap, hbp⟩
    have Va' := Lib.hid (Va.out.on hbp)
    clear Va
    have Va := Va'
    clear Va'
    have Vb' := Lib.hid (Vb.out.on hbp)
    clear Vb
    have Vb := Vb'
    clear Vb'
    have PP' := Lib.hid (PP.out.on hbp)
    clear PP
    have PP := PP'
    clear PP'
    have HB' := Lib.hid (HB.out.trans (hbp.mono HB.out.size))
    clear HB
    have HB := HB'
    clear HB'
    have hltVa := Va.out.blk.lt
    have kVa0 := Va.out.c0
    have kVa1 := Va.out.c1
    have Va' := Lib.hid (Va.out.on ((Below.refl _ _).alloc (Nat.le_refl _) (.cells #[.int .i64 (n : Nat), .slice Ap lp cp] 24)))
    clear Va
    have Va := Va'
    clear Va'
    have Vb' := Lib.hid (Vb.out.on ((Below.refl _ _).alloc (Nat.le_refl _) (.cells #[.int .i64 (n : Nat), .slice Ap lp cp] 24)))
    clear Vb
    have Vb := Vb'
    clear Vb'
    have PP' := Lib.hid (PP.out.on ((Below.refl _ _).alloc (Nat.le_refl _) (.cells #[.int .i64 (n : Nat), .slice Ap lp cp] 24)))
    clear PP
    have PP := PP'
    clear PP'
    have HB' := Lib.hid (HB.out.trans (((Below.refl _ _).alloc (Nat.le_refl _) (.cells #[.int .i64 (n : Nat), .slice Ap lp cp] 24)).mono HB.out.size))
    clear HB
    have HB := HB'
    clear HB'
    have Vp := Lib.hid (SetVar.new hap)
    clear hap hbp
    go_wp2_with fail
    clear hltVa
    refine (HTB.out _ Va.out.arg).mono ?_
    rintro e xt ⟨Bt, dt, rfl, ht, hbt⟩
    clear kVa0 kVa1
    have Va' := Lib.hid (Va.out.on hbt)
    clear Va
    have Va := Va'
    clear Va'
    have Vb' := Lib.hid (Vb.out.on hbt)
    clear Vb
    have Vb := Vb'
    clear Vb'
    have PP' := Lib.hid (PP.out.on hbt)
    clear PP
    have PP := PP'
    clear PP'
    have Vp' := Lib.hid (Vp.out.on hbt)
    clear Vp
    have Vp := Vp'
    clear Vp'
    have HB' := Lib.hid (HB.out.trans (hbt.mono HB.out.size))
    clear HB
    have HB := HB'
    clear HB'
    have TA := Lib.hid ht
    clear hbt ht
    have kVa0 := Va.out.c0
    have kVa1 := Va.out.c1
    have kVp0 := Vp.out.c0
    have kVp1 := Vp.out.c1
    go_wp2_with fail
    refine (HTT.out _ _ _ TA.out).mono ?_
    rintro e x6 ⟨rfl, hb6⟩
    clear kVa0 kVa1 kVp0 kVp1
    have Va' := Lib.hid (Va.out.on hb6)
    clear Va
    have Va := Va'
    clear Va'
    have Vb' := Lib.hid (Vb.out.on hb6)
    clear Vb
    have Vb := Vb'
    clear Vb'
    have PP' := Lib.hid (PP.out.on hb6)
    clear PP
    have PP := PP'
    clear PP'
    have Vp' := Lib.hid (Vp.out.on hb6)
    clear Vp
    have Vp := Vp'
    clear Vp'
    have TA' := Lib.hid (TA.out.on hb6)
    clear TA
    have TA := TA'
    clear TA'
    have HB' := Lib.hid (HB.out.trans (hb6.mono HB.out.size))
    clear HB
    have HB := HB'
    clear HB'
    clear hb6
    have kVa0 := Va.out.c0
    have kVa1 := Va.out.c1
    have kVp0 := Vp.out.c0
    have kVp1 := Vp.out.c1
    go_wp2_with fail
    refine (HSB.out _ _ _ _ Vp.out.arg Va.out.arg).mono ?_
    rintro e x7 ⟨rfl, hb7⟩
    clear kVa0 kVa1 kVp0 kVp1
    have Va' := Lib.hid (Va.out.on hb7)
    clear Va
    have Va := Va'
    clear Va'
    have Vb' := Lib.hid (Vb.out.on hb7)
    clear Vb
    have Vb := Vb'
    clear Vb'
    have PP' := Lib.hid (PP.out.on hb7)
    clear PP
    have PP := PP'
    clear PP'
    have Vp' := Lib.hid (Vp.out.on hb7)
    clear Vp
    have Vp := Vp'
    clear Vp'
    have TA' := Lib.hid (TA.out.on hb7)
    clear TA
    have TA := TA'
    clear TA'
    have HB' := Lib.hid (HB.out.trans (hb7.mono HB.out.size))
    clear HB
    have HB := HB'
    clear HB'
    clear hb7
    go_wp2_with fail
    refine (HPT.out _ PP.out).mono ?_
    rintro e xq ⟨rfl, hbq⟩
    have Va' := Lib.hid (Va.out.on hbq)
    clear Va
    have Va := Va'
    clear Va'
    have Vb' := Lib.hid (Vb.out.on hbq)
    clear Vb
    have Vb := Vb'
    clear Vb'
    have PP' := Lib.hid (PP.out.on hbq)
    clear PP
    have PP := PP'
    clear PP'
    have Vp' := Lib.hid (Vp.out.on hbq)
    clear Vp
    have Vp := Vp'
    clear Vp'
    have TA' := Lib.hid (TA.out.on hbq)
    clear TA
    have TA := TA'
    clear TA'
    have HB' := Lib.hid (HB.out.trans (hbq.mono HB.out.size))
    clear HB
    have HB := HB'
    clear HB'
    clear hbq
    have Va' := Lib.hid (Va.out.on ((Below.refl _ _).alloc (Nat.le_refl _) (.cells #[.int .i64 0, .slice none 0 0] 24)))
    clear Va
    have Va := Va'
    clear Va'
    have Vb' := Lib.hid (Vb.out.on ((Below.refl _ _).alloc (Nat.le_refl _) (.cells #[.int .i64 0, .slice none 0 0] 24)))
    clear Vb
    have Vb := Vb'
    clear Vb'
    have PP' := Lib.hid (PP.out.on ((Below.refl _ _).alloc (Nat.le_refl _) (.cells #[.int .i64 0, .slice none 0 0] 24)))
    clear PP
    have PP := PP'
    clear PP'
    have Vp' := Lib.hid (Vp.out.on ((Below.refl _ _).alloc (Nat.le_refl _) (.cells #[.int .i64 0, .slice none 0 0] 24)))
    clear Vp
    have Vp := Vp'
    clear Vp'
    have TA' := Lib.hid (TA.out.on ((Below.refl _ _).alloc (Nat.le_refl _) (.cells #[.int .i64 0, .slice none 0 0] 24)))
    clear TA
    have TA := TA'
    clear TA'
    have HB' := Lib.hid (HB.out.trans (((Below.refl _ _).alloc (Nat.le_refl _) (.cells #[.int .i64 0, .slice none 0 0] 24)).mono HB.out.size))
    clear HB
    have HB := HB'
    clear HB'
    go_wp2_with fail
    refine (HZ.out _).mono ?_
    rintro e x8 ⟨rfl, hb8⟩
    have Va' := Lib.hid (Va.out.on hb8)
    clear Va
    have Va := Va'
    clear Va'
    have Vb' := Lib.hid (Vb.out.on hb8)
    clear Vb
    have Vb := Vb'
    clear Vb'
    have PP' := Lib.hid (PP.out.on hb8)
    clear PP
    have PP := PP'
    clear PP'
    have Vp' := Lib.hid (Vp.out.on hb8)
    clear Vp
    have Vp := Vp'
    clear Vp'
    have TA' := Lib.hid (TA.out.on hb8)
    clear TA
    have TA := TA'
    clear TA'
    have HB' := Lib.hid (HB.out.trans (hb8.mono HB.out.size))
    clear HB
    have HB := HB'
    clear HB'
    clear hb8
    go_wp2_with fail
    refine (HWR.out _).mono ?_
    rintro e x9 ⟨rfl, hb9⟩
    have Va' := Lib.hid (Va.out.on hb9)
    clear Va
    have Va := Va'
    clear Va'
    have Vb' := Lib.hid (Vb.out.on hb9)
    clear Vb
    have Vb := Vb'
    clear Vb'
    have PP' := Lib.hid (PP.out.on hb9)
    clear PP
    have PP := PP'
    clear PP'
    have Vp' := Lib.hid (Vp.out.on hb9)
    clear Vp
    have Vp := Vp'
    clear Vp'
    have TA' := Lib.hid (TA.out.on hb9)
    clear TA
    have TA := TA'
    clear TA'
    have HB' := Lib.hid (HB.out.trans (hb9.mono HB.out.size))
    clear HB
    have HB := HB'
    clear HB'
    clear hb9
    go_wp2_with fail
    go_ret
    exact ⟨rfl, HB.out⟩
set_option maxRecDepth 100000 in
set_option maxHeartbeats 16000000 in
theorem stxl_r_y (n : Nat) (m2 : Int) (A1 A2 : Option Addr) (l1 l2 c1 c2 : Nat) (ws1 ws2 : List Nat) (s : ByteArray) (w : World) (h1 : SetArg w (n : Nat) A1 l1 c1 ws1) (h2 : SetArg w m2 A2 l2 c2 ws2) (hV : PV w) (hsm : s.size ≤ 9223372036854775807) (hg1 : greatB (n : Nat) l1 = false) (hg2 : greatB m2 l2 = false) (hl : s.size ≤ 300) (ok1 : SOk n ws1) (k : Nat) (ws3 : List Nat) (ok3 : SOk k ws3) (e3 : textS k ws3 = s.data.toList) :
    Calls Tryd.prog 7 #[setA (n : Nat) A1 l1 c1, setA m2 A2 l2 c2, .string s] w fun e w' => e = .returned (.bool true) ∧ Below w.heap.size w w' := by
  have HAV := Lib.hid (fun W => alive5_any W)
  have HG1 := Lib.hid (fun W => great_any (n : Nat) A1 l1 c1 W)
  have HG2 := Lib.hid (fun W => great_any m2 A2 l2 c2 W)
  rw [hg1] at HG1
  rw [hg2] at HG2
  have hn16 := ok1.n16
  have hr : srightB (n : Nat) ws1 = true := (sright_iff ok1.lt).2 ⟨by omega, by simpa using ok1⟩
  have HSM := Lib.hid (fun W (h1 : SetArg W (n : Nat) A1 l1 c1 ws1) (h2 : SetArg W m2 A2 l2 c2 ws2) => ssame_any (n : Nat) m2 A1 A2 l1 l2 c1 c2 _ _ W h1 h2)
  have HSS := Lib.hid (fun W (h1 : SetArg W (n : Nat) A1 l1 c1 ws1) (h2 : SetArg W m2 A2 l2 c2 ws2) => rsame_any (n : Nat) m2 A1 A2 l1 l2 c1 c2 _ _ W h1 h2)
  have HR1 := Lib.hid (fun W (h1 : SetArg W (n : Nat) A1 l1 c1 ws1) => rright_any (n : Nat) A1 l1 c1 ws1 W h1)
  rw [hr] at HR1
  obtain ⟨xs, hxs⟩ : ∃ x : ByteArray, x = ⟨(textS n ws1).toArray⟩ := ⟨_, rfl⟩
  have hxl : xs.data.toList = textS n ws1 := by rw [hxs]
  have hxz : xs.size < 4294967281 := by rw [hxs, bytes_size]; have := text_size hn16 ws1; omega
  have HTX := Lib.hid (fun W (h : SetArg W (n : Nat) A1 l1 c1 ws1) => stext_any n A1 l1 c1 ws1 W h ok1)
  have HPX := Lib.hid (fun W (hV : PV W) => sparse_text n ws1 ok1 xs hxl hxz W hV)
  have HTB := Lib.hid (fun W (h : SetArg W (n : Nat) A1 l1 c1 ws1) => rtable_tab n A1 l1 c1 ws1 W h ok1)
  have HTT := Lib.hid (fun W B c (h : TabArg W B (2 ^ n) c (tabS n ws1)) => rtext_any n hn16 B c (tabS n ws1) W h)
  rw [ok1.pack_tab] at HTT
  unfold txt at HTX HTT
  rw [← hxs] at HTX HTT
  have HSB := Lib.hid (fun W A l c (h : SetArg W n A l c (packT (tabS n ws1))) (h1 : SetArg W (n : Nat) A1 l1 c1 ws1) => rsame_any n n A A1 l l1 c c1 ws1 ws1 W (ok1.pack_tab ▸ h) h1)
  rw [decide_eq_true ⟨rfl, rfl⟩] at HSB
  have hbx : (xs.toList == xs.toList) = true := by simp
  have HPT := Lib.hid (fun W (hV : PV W) => sparse_yes s (by omega) W hV k ws3 ok3 e3)
  have hk16 := ok3.n16
  have ht3 := tabS_length k ws3
  have hp3 := ok3.pack_tab
  have ok4 := SOk.pack hk16 ht3
  have HR3 := Lib.hid (fun W A l c (h : SetArg W k A l c (packT (tabS k ws3))) => rright_any k A l c _ W h)
  rw [(sright_iff ok4.lt).2 ⟨by omega, by simpa using ok4⟩] at HR3
  have HTB3 := Lib.hid (fun W A l c (h : SetArg W k A l c (packT (tabS k ws3))) => rtable_tab k A l c _ W h ok4)
  rw [tab_pack ht3] at HTB3
  have HTT3 := Lib.hid (fun W B c (h : TabArg W B (2 ^ k) c (tabS k ws3)) => rtext_any k hk16 B c (tabS k ws3) W h)
  rw [hp3, e3, show txt s.data.toList = .string s from congrArg Value.string (bytes_eq (s := s) rfl).symm] at HTT3
  have hbs : (s.toList == s.toList) = true := by simp
  generalize hqq : decide (((n : Nat) : Int) = m2 ∧ ws1 = ws2) = q at *
  clear hqq
  have hqn : (q != q) = false := by cases q <;> rfl
  unfold TabAns setA at *
  clear hxs hxl hxz
  clear ok4 hp3 e3 ok3
  generalize tabS k ws3 = t3 at *
  clear ht3
  generalize tabS n ws1 = t1 at *
  obtain ⟨W0, hW0⟩ : ∃ W0, W0 = ((w.alloc (.cells #[.int .i64 ((n : Nat)), .slice A1 l1 c1] 24)).alloc (.cells #[.int .i64 m2, .slice A2 l2 c2] 24)) := ⟨_, rfl⟩
  have hb0 : Below w.heap.size w W0 := by rw [hW0]; exact (((Below.refl _ _).alloc (by simp) (.cells #[.int .i64 ((n : Nat)), .slice A1 l1 c1] 24)).alloc (by simp) (.cells #[.int .i64 m2, .slice A2 l2 c2] 24))
  have hv0 : SetVar W0 (w.heap.size) ((n : Nat)) A1 l1 c1 ws1 := by
    have := SetVar.new h1
    rw [hW0]; exact (this.alloc _)
  have hv1 : SetVar W0 (w.heap.size + 1) m2 A2 l2 c2 ws2 := by
    have := SetVar.new (h2.alloc (.cells #[.int .i64 ((n : Nat)), .slice A1 l1 c1] 24))
    simp only [World.size_alloc] at this
    rw [hW0]; exact this
  have HWW := Lib.hid hW0
  have HB := Lib.hid hb0
  have Va := Lib.hid hv0
  have Vb := Lib.hid hv1
  clear hb0 hv0 hv1 h1 h2 
  have PP := Lib.hid (hV.on HB.out)
  clear hV
  go_enter Tryd.func7, Tryd.ntmps7
  go_wp2_with fail
  rw [← HWW.out]
  clear hW0
  go_wp2_with fail
  refine (HAV.out _).mono ?_
  rintro e x1 ⟨rfl, hb1⟩
  have Va' := Lib.hid (Va.out.on hb1)
  clear Va
  have Va := Va'
  clear Va'
  have Vb' := Lib.hid (Vb.out.on hb1)
  clear Vb
  have Vb := Vb'
  clear Vb'
  have PP' := Lib.hid (PP.out.on hb1)
  clear PP
  have PP := PP'
  clear PP'
  have HB' := Lib.hid (HB.out.trans (hb1.mono HB.out.size))
  clear HB
  have HB := HB'
  clear HB'
  clear hb1
  have kVa0 := Va.out.c0
  have kVa1 := Va.out.c1
  go_wp2_with fail
  refine (HG1.out _).mono ?_
  rintro e x2 ⟨rfl, hb2⟩
  clear kVa0 kVa1
  have Va' := Lib.hid (Va.out.on hb2)
  clear Va
  have Va := Va'
  clear Va'
  have Vb' := Lib.hid (Vb.out.on hb2)
  clear Vb
  have Vb := Vb'
  clear Vb'
  have PP' := Lib.hid (PP.out.on hb2)
  clear PP
  have PP := PP'
  clear PP'
  have HB' := Lib.hid (HB.out.trans (hb2.mono HB.out.size))
  clear HB
  have HB := HB'
  clear HB'
  clear hb2
  have kVb0 := Vb.out.c0
  have kVb1 := Vb.out.c1
  go_wp2_with fail
  refine (HG2.out _).mono ?_
  rintro e x3 ⟨rfl, hb3⟩
  clear kVb0 kVb1
  have Va' := Lib.hid (Va.out.on hb3)
  clear Va
  have Va := Va'
  clear Va'
  have Vb' := Lib.hid (Vb.out.on hb3)
  clear Vb
  have Vb := Vb'
  clear Vb'
  have PP' := Lib.hid (PP.out.on hb3)
  clear PP
  have PP := PP'
  clear PP'
  have HB' := Lib.hid (HB.out.trans (hb3.mono HB.out.size))
  clear HB
  have HB := HB'
  clear HB'
  clear hb3
  have kVa0 := Va.out.c0
  have kVa1 := Va.out.c1
  have kVb0 := Vb.out.c0
  have kVb1 := Vb.out.c1
  go_wp2_with fail
  clear kVa0 kVa1 kVb0 kVb1
  have FACTS : Hid (∀ W', Below x3.heap.size x3 W' → W'.cell? ⟨w.heap.size, 0, none⟩ = some (.int .i64 (n : Nat)) ∧ W'.cell? ⟨w.heap.size, 1, none⟩ = some (.slice A1 l1 c1) ∧ W'.cell? ⟨w.heap.size + 1, 0, none⟩ = some (.int .i64 m2) ∧ W'.cell? ⟨w.heap.size + 1, 1, none⟩ = some (.slice A2 l2 c2)) := Lib.hid fun W' hW => ⟨(Va.out.on hW).c0, (Va.out.on hW).c1, (Vb.out.on hW).c0, (Vb.out.on hW).c1⟩
  go_region_held3 (fun w' => w'.cell? ⟨w.heap.size, 0, none⟩ = some (.int .i64 (n : Nat)) ∧ w'.cell? ⟨w.heap.size, 1, none⟩ = some (.slice A1 l1 c1) ∧ w'.cell? ⟨w.heap.size + 1, 0, none⟩ = some (.int .i64 m2) ∧ w'.cell? ⟨w.heap.size + 1, 1, none⟩ = some (.slice A2 l2 c2)) ((refine FACTS.out _ ?_; (with_reducible (first | exact Below.refl _ _ | exact (Below.refl _ _).drew | exact hbKa | exact hbKa.drew | exact hbKc | exact hbKc.drew)))) (first
        | (go_at_call 16; refine (HSM.out _ (Va.out.arg.on ?_) (Vb.out.arg.on ?_)).mono ?_; (with_reducible (first | exact Below.refl _ _ | exact (Below.refl _ _).drew | exact hbKa | exact hbKa.drew | exact hbKc | exact hbKc.drew)); (with_reducible (first | exact Below.refl _ _ | exact (Below.refl _ _).drew | exact hbKa | exact hbKa.drew | exact hbKc | exact hbKc.drew)); rintro e wa ⟨rfl, hba⟩; have hbKa : Below x3.heap.size x3 wa := (by first | exact (Below.refl _ _).drew.trans hba | exact (Below.refl _ _).trans hba | exact hbKc.trans (hba.mono hbKc.size) | exact hbKc.drew.trans (hba.mono hbKc.size)))
        | (go_at_call 32; refine (HSS.out _ (Va.out.arg.on ?_) (Vb.out.arg.on ?_)).mono ?_; (with_reducible (first | exact Below.refl _ _ | exact (Below.refl _ _).drew | exact hbKa | exact hbKa.drew | exact hbKc | exact hbKc.drew)); (with_reducible (first | exact Below.refl _ _ | exact (Below.refl _ _).drew | exact hbKa | exact hbKa.drew | exact hbKc | exact hbKc.drew)); rintro e wc ⟨rfl, hbc⟩; have hbKc : Below x3.heap.size x3 wc := (by first | exact (Below.refl _ _).drew.trans hbc | exact (Below.refl _ _).trans hbc | exact hbKa.trans (hbc.mono hbKa.size) | exact hbKa.drew.trans (hbc.mono hbKa.size)))
        | fail)
  all_goals
    first
      | (have hl9 : Below wa.heap.size wa wc := hbc; clear hl9 hba hbc hbKa; have hbz := hbKc; clear hbKc; obtain ⟨wz, hwz⟩ : ∃ wz, wz = wc := ⟨wc, rfl⟩; subst hwz)
      | (have hl9 : Below wc.heap.size wc wa := hba; clear hl9 hba hbc hbKc; have hbz := hbKa; clear hbKa; obtain ⟨wz, hwz⟩ : ∃ wz, wz = wa := ⟨wa, rfl⟩; subst hwz)
      | fail
    have Va' := Lib.hid (Va.out.on hbz)
    clear Va
    have Va := Va'
    clear Va'
    have Vb' := Lib.hid (Vb.out.on hbz)
    clear Vb
    have Vb := Vb'
    clear Vb'
    have PP' := Lib.hid (PP.out.on hbz)
    clear PP
    have PP := PP'
    clear PP'
    have HB' := Lib.hid (HB.out.trans (hbz.mono HB.out.size))
    clear HB
    have HB := HB'
    clear HB'
    clear hbz
    have kVa0 := Va.out.c0
    have kVa1 := Va.out.c1
    go_wp2_with fail
    refine (HTX.out _ Va.out.arg).mono ?_
    rintro e x4 ⟨rfl, hb4⟩
    clear kVa0 kVa1
    have Va' := Lib.hid (Va.out.on hb4)
    clear Va
    have Va := Va'
    clear Va'
    have Vb' := Lib.hid (Vb.out.on hb4)
    clear Vb
    have Vb := Vb'
    clear Vb'
    have PP' := Lib.hid (PP.out.on hb4)
    clear PP
    have PP := PP'
    clear PP'
    have HB' := Lib.hid (HB.out.trans (hb4.mono HB.out.size))
    clear HB
    have HB := HB'
    clear HB'
    clear hb4
    have kVa0 := Va.out.c0
    have kVa1 := Va.out.c1
    go_wp2_with fail
    refine (HR1.out _ Va.out.arg).mono ?_
    rintro e x5 ⟨rfl, hb5⟩
    clear kVa0 kVa1
    have Va' := Lib.hid (Va.out.on hb5)
    clear Va
    have Va := Va'
    clear Va'
    have Vb' := Lib.hid (Vb.out.on hb5)
    clear Vb
    have Vb := Vb'
    clear Vb'
    have PP' := Lib.hid (PP.out.on hb5)
    clear PP
    have PP := PP'
    clear PP'
    have HB' := Lib.hid (HB.out.trans (hb5.mono HB.out.size))
    clear HB
    have HB := HB'
    clear HB'
    clear hb5
    have kVa0 := Va.out.c0
    have kVa1 := Va.out.c1
    clear kVa0 kVa1
    go_wp2_with fail
    refine (HPX.out _ PP.out).mono ?_
    rintro e xp ⟨Ap, lp, cp, rfl, hap, hbp⟩
    have Va' := Lib.hid (Va.out.on hbp)
    clear Va
    have Va := Va'
    clear Va'
    have Vb' := Lib.hid (Vb.out.on hbp)
    clear Vb
    have Vb := Vb'
    clear Vb'
    have PP' := Lib.hid (PP.out.on hbp)
    clear PP
    have PP := PP'
    clear PP'
    have HB' := Lib.hid (HB.out.trans (hbp.mono HB.out.size))
    clear HB
    have HB := HB'
    clear HB'
    have hltVa := Va.out.blk.lt
    have kVa0 := Va.out.c0
    have kVa1 := Va.out.c1
    have Va' := Lib.hid (Va.out.on ((Below.refl _ _).alloc (Nat.le_refl _) (.cells #[.int .i64 (n : Nat), .slice Ap lp cp] 24)))
    clear Va
    have Va := Va'
    clear Va'
    have Vb' := Lib.hid (Vb.out.on ((Below.refl _ _).alloc (Nat.le_refl _) (.cells #[.int .i64 (n : Nat), .slice Ap lp cp] 24)))
    clear Vb
    have Vb := Vb'
    clear Vb'
    have PP' := Lib.hid (PP.out.on ((Below.refl _ _).alloc (Nat.le_refl _) (.cells #[.int .i64 (n : Nat), .slice Ap lp cp] 24)))
    clear PP
    have PP := PP'
    clear PP'
    have HB' := Lib.hid (HB.out.trans (((Below.refl _ _).alloc (Nat.le_refl _) (.cells #[.int .i64 (n : Nat), .slice Ap lp cp] 24)).mono HB.out.size))
    clear HB
    have HB := HB'
    clear HB'
    have Vp := Lib.hid (SetVar.new hap)
    clear hap hbp
    go_wp2_with fail
    clear hltVa
    refine (HTB.out _ Va.out.arg).mono ?_
    rintro e xt ⟨Bt, dt, rfl, ht, hbt⟩
    clear kVa0 kVa1
    have Va' := Lib.hid (Va.out.on hbt)
    clear Va
    have Va := Va'
    clear Va'
    have Vb' := Lib.hid (Vb.out.on hbt)
    clear Vb
    have Vb := Vb'
    clear Vb'
    have PP' := Lib.hid (PP.out.on hbt)
    clear PP
    have PP := PP'
    clear PP'
    have Vp' := Lib.hid (Vp.out.on hbt)
    clear Vp
    have Vp := Vp'
    clear Vp'
    have HB' := Lib.hid (HB.out.trans (hbt.mono HB.out.size))
    clear HB
    have HB := HB'
    clear HB'
    have TA := Lib.hid ht
    clear hbt ht
    have kVa0 := Va.out.c0
    have kVa1 := Va.out.c1
    have kVp0 := Vp.out.c0
    have kVp1 := Vp.out.c1
    go_wp2_with fail
    refine (HTT.out _ _ _ TA.out).mono ?_
    rintro e x6 ⟨rfl, hb6⟩
    clear kVa0 kVa1 kVp0 kVp1
    have Va' := Lib.hid (Va.out.on hb6)
    clear Va
    have Va := Va'
    clear Va'
    have Vb' := Lib.hid (Vb.out.on hb6)
    clear Vb
    have Vb := Vb'
    clear Vb'
    have PP' := Lib.hid (PP.out.on hb6)
    clear PP
    have PP := PP'
    clear PP'
    have Vp' := Lib.hid (Vp.out.on hb6)
    clear Vp
    have Vp := Vp'
    clear Vp'
    have TA' := Lib.hid (TA.out.on hb6)
    clear TA
    have TA := TA'
    clear TA'
    have HB' := Lib.hid (HB.out.trans (hb6.mono HB.out.size))
    clear HB
    have HB := HB'
    clear HB'
    clear hb6
    have kVa0 := Va.out.c0
    have kVa1 := Va.out.c1
    have kVp0 := Vp.out.c0
    have kVp1 := Vp.out.c1
    go_wp2_with fail
    refine (HSB.out _ _ _ _ Vp.out.arg Va.out.arg).mono ?_
    rintro e x7 ⟨rfl, hb7⟩
    clear kVa0 kVa1 kVp0 kVp1
    have Va' := Lib.hid (Va.out.on hb7)
    clear Va
    have Va := Va'
    clear Va'
    have Vb' := Lib.hid (Vb.out.on hb7)
    clear Vb
    have Vb := Vb'
    clear Vb'
    have PP' := Lib.hid (PP.out.on hb7)
    clear PP
    have PP := PP'
    clear PP'
    have Vp' := Lib.hid (Vp.out.on hb7)
    clear Vp
    have Vp := Vp'
    clear Vp'
    have TA' := Lib.hid (TA.out.on hb7)
    clear TA
    have TA := TA'
    clear TA'
    have HB' := Lib.hid (HB.out.trans (hb7.mono HB.out.size))
    clear HB
    have HB := HB'
    clear HB'
    clear hb7
    go_wp2_with fail
    refine (HPT.out _ PP.out).mono ?_
    rintro e xq ⟨Aq, lq, cq, rfl, haq, hbq⟩
    have Va' := Lib.hid (Va.out.on hbq)
    clear Va
    have Va := Va'
    clear Va'
    have Vb' := Lib.hid (Vb.out.on hbq)
    clear Vb
    have Vb := Vb'
    clear Vb'
    have PP' := Lib.hid (PP.out.on hbq)
    clear PP
    have PP := PP'
    clear PP'
    have Vp' := Lib.hid (Vp.out.on hbq)
    clear Vp
    have Vp := Vp'
    clear Vp'
    have TA' := Lib.hid (TA.out.on hbq)
    clear TA
    have TA := TA'
    clear TA'
    have HB' := Lib.hid (HB.out.trans (hbq.mono HB.out.size))
    clear HB
    have HB := HB'
    clear HB'
    have Va' := Lib.hid (Va.out.on ((Below.refl _ _).alloc (Nat.le_refl _) (.cells #[.int .i64 (k : Nat), .slice Aq lq cq] 24)))
    clear Va
    have Va := Va'
    clear Va'
    have Vb' := Lib.hid (Vb.out.on ((Below.refl _ _).alloc (Nat.le_refl _) (.cells #[.int .i64 (k : Nat), .slice Aq lq cq] 24)))
    clear Vb
    have Vb := Vb'
    clear Vb'
    have PP' := Lib.hid (PP.out.on ((Below.refl _ _).alloc (Nat.le_refl _) (.cells #[.int .i64 (k : Nat), .slice Aq lq cq] 24)))
    clear PP
    have PP := PP'
    clear PP'
    have Vp' := Lib.hid (Vp.out.on ((Below.refl _ _).alloc (Nat.le_refl _) (.cells #[.int .i64 (k : Nat), .slice Aq lq cq] 24)))
    clear Vp
    have Vp := Vp'
    clear Vp'
    have TA' := Lib.hid (TA.out.on ((Below.refl _ _).alloc (Nat.le_refl _) (.cells #[.int .i64 (k : Nat), .slice Aq lq cq] 24)))
    clear TA
    have TA := TA'
    clear TA'
    have HB' := Lib.hid (HB.out.trans (((Below.refl _ _).alloc (Nat.le_refl _) (.cells #[.int .i64 (k : Nat), .slice Aq lq cq] 24)).mono HB.out.size))
    clear HB
    have HB := HB'
    clear HB'
    have Vq := Lib.hid (SetVar.new haq)
    clear haq hbq
    go_wp2_with fail
    refine (HR3.out _ _ _ _ Vq.out.arg).mono ?_
    rintro e x8 ⟨rfl, hb8⟩
    have Va' := Lib.hid (Va.out.on hb8)
    clear Va
    have Va := Va'
    clear Va'
    have Vb' := Lib.hid (Vb.out.on hb8)
    clear Vb
    have Vb := Vb'
    clear Vb'
    have PP' := Lib.hid (PP.out.on hb8)
    clear PP
    have PP := PP'
    clear PP'
    have Vp' := Lib.hid (Vp.out.on hb8)
    clear Vp
    have Vp := Vp'
    clear Vp'
    have TA' := Lib.hid (TA.out.on hb8)
    clear TA
    have TA := TA'
    clear TA'
    have Vq' := Lib.hid (Vq.out.on hb8)
    clear Vq
    have Vq := Vq'
    clear Vq'
    have HB' := Lib.hid (HB.out.trans (hb8.mono HB.out.size))
    clear HB
    have HB := HB'
    clear HB'
    clear hb8
    have kVq0 := Vq.out.c0
    have kVq1 := Vq.out.c1
    have hk1 : (k : Int) ≤ 16 := by omega
    by_cases h10 : 10 < k
    · have hk2 : (10 : Int) < (k : Int) := by omega
      go_wp2_with fail
      go_ret
      exact ⟨rfl, HB.out⟩
    · have hk2 : ¬ (10 : Int) < (k : Int) := by omega
      go_wp2_with fail
      refine (HTB3.out _ _ _ _ Vq.out.arg).mono ?_
      rintro e xu ⟨Bu, du, rfl, hu, hbu⟩
      clear kVq0 kVq1
      have Va' := Lib.hid (Va.out.on hbu)
      clear Va
      have Va := Va'
      clear Va'
      have Vb' := Lib.hid (Vb.out.on hbu)
      clear Vb
      have Vb := Vb'
      clear Vb'
      have PP' := Lib.hid (PP.out.on hbu)
      clear PP
      have PP := PP'
      clear PP'
      have Vp' := Lib.hid (Vp.out.on hbu)
      clear Vp
      have Vp := Vp'
      clear Vp'
      have TA' := Lib.hid (TA.out.on hbu)
      clear TA
      have TA := TA'
      clear TA'
      have Vq' := Lib.hid (Vq.out.on hbu)
      clear Vq
      have Vq := Vq'
      clear Vq'
      have HB' := Lib.hid (HB.out.trans (hbu.mono HB.out.size))
      clear HB
      have HB := HB'
      clear HB'
      have TB := Lib.hid hu
      clear hbu hu
      go_wp2_with fail
      refine (HTT3.out _ _ _ TB.out).mono ?_
      rintro e x9 ⟨rfl, hb9⟩
      have Va' := Lib.hid (Va.out.on hb9)
      clear Va
      have Va := Va'
      clear Va'
      have Vb' := Lib.hid (Vb.out.on hb9)
      clear Vb
      have Vb := Vb'
      clear Vb'
      have PP' := Lib.hid (PP.out.on hb9)
      clear PP
      have PP := PP'
      clear PP'
      have Vp' := Lib.hid (Vp.out.on hb9)
      clear Vp
      have Vp := Vp'
      clear Vp'
      have TA' := Lib.hid (TA.out.on hb9)
      clear TA
      have TA := TA'
      clear TA'
      have Vq' := Lib.hid (Vq.out.on hb9)
      clear Vq
      have Vq := Vq'
      clear Vq'
      have TB' := Lib.hid (TB.out.on hb9)
      clear TB
      have TB := TB'
      clear TB'
      have HB' := Lib.hid (HB.out.trans (hb9.mono HB.out.size))
      clear HB
      have HB := HB'
      clear HB'
      clear hb9
      go_wp2_with fail
      go_ret
      exact ⟨rfl, HB.out⟩
theorem stexts_walk (m1 : Int) (A1 : Option Addr) (l1 c1 : Nat) (ws1 : List Nat) (m2 : Int) (A2 : Option Addr) (l2 c2 : Nat) (ws2 : List Nat) (s : ByteArray) (w : World) (h1 : SetArg w m1 A1 l1 c1 ws1) (h2 : SetArg w m2 A2 l2 c2 ws2) (hsm : s.size ≤ maxLen) (hV : PV w) :
    Calls Tryd.prog 7 #[.agg #[.int .i64 m1, .slice A1 l1 c1], .agg #[.int .i64 m2, .slice A2 l2 c2], .string s] w fun e w' => e = .returned (.bool true) ∧ Below w.heap.size w w' := by
  have hsm' : s.size ≤ 9223372036854775807 := by unfold maxLen at hsm; omega
  cases hg1 : greatB m1 l1
  case true => exact stxl_g1 m1 m2 A1 A2 l1 l2 c1 c2 ws1 ws2 s w h1 h2 hV hsm' hg1
  cases hg2 : greatB m2 l2
  case true => exact stxl_g2 m1 m2 A1 A2 l1 l2 c1 c2 ws1 ws2 s w h1 h2 hV hsm' hg1 hg2
  by_cases hl : 300 < s.size
  · exact stxl_long m1 m2 A1 A2 l1 l2 c1 c2 ws1 ws2 s w h1 h2 hV hsm' hg1 hg2 hl
  cases hr : srightB m1 ws1
  case false =>
    by_cases ht : IsText s.data.toList
    · obtain ⟨k, ws3, ok3, e3⟩ := ht
      exact stxl_w_y m1 m2 A1 A2 l1 l2 c1 c2 ws1 ws2 s w h1 h2 hV hsm' hg1 hg2 (by omega) hr k ws3 ok3 e3
    · exact stxl_w_n m1 m2 A1 A2 l1 l2 c1 c2 ws1 ws2 s w h1 h2 hV hsm' hg1 hg2 (by omega) hr ht
  case true =>
    obtain ⟨n, rfl, ok⟩ := sright_nat h1.lt hr
    by_cases ht : IsText s.data.toList
    · obtain ⟨k, ws3, ok3, e3⟩ := ht
      exact stxl_r_y n m2 A1 A2 l1 l2 c1 c2 ws1 ws2 s w h1 h2 hV hsm' hg1 hg2 (by omega) ok k ws3 ok3 e3
    · exact stxl_r_n n m2 A1 A2 l1 l2 c1 c2 ws1 ws2 s w h1 h2 hV hsm' hg1 hg2 (by omega) ok ht
end Go.Proofs.YtpbpjihdaghiaaaDoor
