/- SetRenames: the walk. -/
import Derived.Test.YtpbpjihdaghiaaaDoorSetRn
import Derived.Test.YtpbpjihdaghiaaaDoorSetRr
import Derived.Test.YtpbpjihdaghiaaaDoorSetRuP
import Derived.Test.YtpbpjihdaghiaaaDoorSetSa
import Derived.Test.YtpbpjihdaghiaaaDoorMb
import Derived.Deep.DeepCutAuto
namespace Go.Proofs.YtpbpjihdaghiaaaDoor
open Go.RowKit Go.Sort
set_option linter.unusedSimpArgs false
set_option linter.unusedVariables false

theorem srename_bad (m : Int) (A P : Option Addr) (len c k d : Nat) (ws : List Nat) (zs : List Int) (w : World) (h : SetArg w m A len c ws) (hp : IntsArg w P k d zs) (hD : DB w) (hno : ¬ RenGood m ws zs) :
    Calls Tryd.prog 10 #[setA m A len c, .slice P k d] w (SetAns w 0 1 []) := by
  refine (srename_any m A P len c k d ws zs w h hp hD).mono ?_
  rintro e w' (⟨h1, _⟩ | ⟨_, h2⟩)
  · exact absurd h1 hno
  · exact h2.ans (by omega) (by omega) 0 []
theorem srename_ok (n : Nat) (A P : Option Addr) (len c d : Nat) (t : List Bool) (zs : List Int) (w : World) (hn : n ≤ 16) (ht : t.length = 2 ^ n) (h : SetArg w n A len c (packT t)) (hp : IntsArg w P n d zs) (hD : DB w) (hz : IsPerm zs) :
    Calls Tryd.prog 10 #[setA n A len c, .slice P n d] w (TabAns w n (renT zs t n)) := by
  have ok := SOk.pack hn ht
  have hg : RenGood (n : Int) (packT t) zs := ⟨(sright_iff ok.lt).2 ⟨by omega, by simpa using ok⟩, by rw [hp.hlen], hz⟩
  refine (srename_any n A P len c n d (packT t) zs w h hp hD).mono ?_
  rintro e w' (⟨_, h2⟩ | ⟨h1, _⟩)
  · rw [hp.hlen, tab_pack ht] at h2
    exact (h2.ans (SOk.pack hn (renT_length zs t n)) (renT_length zs t n) (fun x _ => bitAt_pack _ x)).tab
  · exact absurd hg h1
theorem tab_ans {n : Nat} {t : List Bool} {len : Nat} (hn : n ≤ 16) (ht : t.length = 2 ^ n) : Ans n 0 t n len (packT t) 0 := .inl ⟨rfl, rfl, hn, rfl, ht, rfl⟩
/-- the way back, so far -/
def BackTo (zs bs : List Int) (k : Nat) : Prop := bs.length = zs.length ∧ ∀ v, v < k → bs[pn zs v]?.getD 0 = (v : Int)
theorem BackTo.step {zs bs : List Int} {k : Nat} (h : BackTo zs bs k) (hp : IsPerm zs) (hk : k < zs.length) : BackTo zs (bs.set (pn zs k) (k : Int)) (k + 1) := by
  refine ⟨by rw [List.length_set]; exact h.1, fun v hv => ?_⟩
  have hl : pn zs k < bs.length := by rw [h.1]; exact hp.pn_lt hk
  rcases Nat.lt_succ_iff_lt_or_eq.1 hv with h1 | rfl
  · rw [List.getElem?_set_ne (fun e => by have := hp.pn_inj hk (by omega) e; omega)]
    exact h.2 v h1
  · rw [List.getElem?_set_self hl]; rfl
set_option maxRecDepth 100000 in
set_option maxHeartbeats 16000000 in
theorem srnl_great (m1 : Int) (A1 P : Option Addr) (l1 c1 k d : Nat) (ws1 : List Nat) (zs : List Int) (w : World) (h1 : SetArg w m1 A1 l1 c1 ws1) (hp : IntsArg w P k d zs) (hD : DB w) (hg1 : greatB m1 l1 = true) :
    Calls Tryd.prog 3 #[setA m1 A1 l1 c1, .slice P k d] w fun e w' => e = .returned (.bool true) ∧ Below w.heap.size w w' := by
  have HAV := Lib.hid (fun W => alive5_any W)
  have HG1 := Lib.hid (fun W => great_any m1 A1 l1 c1 W)
  have hkx : k ≤ 9223372036854775807 := by have := Nat.le_trans hp.hcap hp.hmax; unfold maxLen at this; omega
  rw [hg1] at HG1
  unfold setA at *
  obtain ⟨W0, hW0⟩ : ∃ W0, W0 = (w.alloc (.cells #[.int .i64 (m1), .slice A1 l1 c1] 24)) := ⟨_, rfl⟩
  have hb0 : Below w.heap.size w W0 := by rw [hW0]; exact ((Below.refl _ _).alloc (by simp) (.cells #[.int .i64 (m1), .slice A1 l1 c1] 24))
  have hv0 : SetVar W0 (w.heap.size) (m1) A1 l1 c1 ws1 := by
    have := SetVar.new h1
    rw [hW0]; exact this
  have HWW := Lib.hid hW0
  have HB := Lib.hid hb0
  have Va := Lib.hid hv0
  clear hb0 hv0 h1 hg1
  have DD := Lib.hid (hD.on HB.out)
  have PA := Lib.hid (hp.on HB.out)
  clear hD hp
  go_enter Tryd.func3, Tryd.ntmps3
  go_wp2_with fail
  rw [← HWW.out]
  clear hW0
  go_wp2_with fail
  refine (HAV.out _).mono ?_
  rintro e x1 ⟨rfl, hb1⟩
  have Va' := Lib.hid (Va.out.on hb1)
  clear Va
  have Va := Va'
  clear Va'
  have DD' := Lib.hid (DD.out.on hb1)
  clear DD
  have DD := DD'
  clear DD'
  have PA' := Lib.hid (PA.out.on hb1)
  clear PA
  have PA := PA'
  clear PA'
  have HB' := Lib.hid (HB.out.trans (hb1.mono HB.out.size))
  clear HB
  have HB := HB'
  clear HB'
  clear hb1
  have kVa0 := Va.out.c0
  have kVa1 := Va.out.c1
  go_wp2_with fail
  refine (HG1.out _).mono ?_
  rintro e x2 ⟨rfl, hb2⟩
  clear kVa0 kVa1
  have Va' := Lib.hid (Va.out.on hb2)
  clear Va
  have Va := Va'
  clear Va'
  have DD' := Lib.hid (DD.out.on hb2)
  clear DD
  have DD := DD'
  clear DD'
  have PA' := Lib.hid (PA.out.on hb2)
  clear PA
  have PA := PA'
  clear PA'
  have HB' := Lib.hid (HB.out.trans (hb2.mono HB.out.size))
  clear HB
  have HB := HB'
  clear HB'
  clear hb2
  go_wp2_with fail
  go_ret
  exact ⟨rfl, HB.out⟩
set_option maxRecDepth 100000 in
set_option maxHeartbeats 16000000 in
theorem srnl_long (m1 : Int) (A1 P : Option Addr) (l1 c1 k d : Nat) (ws1 : List Nat) (zs : List Int) (w : World) (h1 : SetArg w m1 A1 l1 c1 ws1) (hp : IntsArg w P k d zs) (hD : DB w) (hg1 : greatB m1 l1 = false) (hk : 20 < k) :
    Calls Tryd.prog 3 #[setA m1 A1 l1 c1, .slice P k d] w fun e w' => e = .returned (.bool true) ∧ Below w.heap.size w w' := by
  have HAV := Lib.hid (fun W => alive5_any W)
  have HG1 := Lib.hid (fun W => great_any m1 A1 l1 c1 W)
  have hkx : k ≤ 9223372036854775807 := by have := Nat.le_trans hp.hcap hp.hmax; unfold maxLen at this; omega
  rw [hg1] at HG1
  unfold setA at *
  obtain ⟨W0, hW0⟩ : ∃ W0, W0 = (w.alloc (.cells #[.int .i64 (m1), .slice A1 l1 c1] 24)) := ⟨_, rfl⟩
  have hb0 : Below w.heap.size w W0 := by rw [hW0]; exact ((Below.refl _ _).alloc (by simp) (.cells #[.int .i64 (m1), .slice A1 l1 c1] 24))
  have hv0 : SetVar W0 (w.heap.size) (m1) A1 l1 c1 ws1 := by
    have := SetVar.new h1
    rw [hW0]; exact this
  have HWW := Lib.hid hW0
  have HB := Lib.hid hb0
  have Va := Lib.hid hv0
  clear hb0 hv0 h1 hg1
  have DD := Lib.hid (hD.on HB.out)
  have PA := Lib.hid (hp.on HB.out)
  clear hD hp
  go_enter Tryd.func3, Tryd.ntmps3
  go_wp2_with fail
  rw [← HWW.out]
  clear hW0
  go_wp2_with fail
  refine (HAV.out _).mono ?_
  rintro e x1 ⟨rfl, hb1⟩
  have Va' := Lib.hid (Va.out.on hb1)
  clear Va
  have Va := Va'
  clear Va'
  have DD' := Lib.hid (DD.out.on hb1)
  clear DD
  have DD := DD'
  clear DD'
  have PA' := Lib.hid (PA.out.on hb1)
  clear PA
  have PA := PA'
  clear PA'
  have HB' := Lib.hid (HB.out.trans (hb1.mono HB.out.size))
  clear HB
  have HB := HB'
  clear HB'
  clear hb1
  have kVa0 := Va.out.c0
  have kVa1 := Va.out.c1
  go_wp2_with fail
  refine (HG1.out _).mono ?_
  rintro e x2 ⟨rfl, hb2⟩
  clear kVa0 kVa1
  have Va' := Lib.hid (Va.out.on hb2)
  clear Va
  have Va := Va'
  clear Va'
  have DD' := Lib.hid (DD.out.on hb2)
  clear DD
  have DD := DD'
  clear DD'
  have PA' := Lib.hid (PA.out.on hb2)
  clear PA
  have PA := PA'
  clear PA'
  have HB' := Lib.hid (HB.out.trans (hb2.mono HB.out.size))
  clear HB
  have HB := HB'
  clear HB'
  clear hb2
  go_wp2_with fail
  go_ret
  exact ⟨rfl, HB.out⟩
set_option maxRecDepth 100000 in
set_option maxHeartbeats 16000000 in
theorem srnl_no_r (m1 : Int) (A1 P : Option Addr) (l1 c1 k d : Nat) (ws1 : List Nat) (zs : List Int) (w : World) (h1 : SetArg w m1 A1 l1 c1 ws1) (hp : IntsArg w P k d zs) (hD : DB w) (hg1 : greatB m1 l1 = false) (hk : k ≤ 20) (hr : srightB m1 ws1 = false) :
    Calls Tryd.prog 3 #[setA m1 A1 l1 c1, .slice P k d] w fun e w' => e = .returned (.bool true) ∧ Below w.heap.size w w' := by
  have HAV := Lib.hid (fun W => alive5_any W)
  have HG1 := Lib.hid (fun W => great_any m1 A1 l1 c1 W)
  have hkx : k ≤ 9223372036854775807 := by have := Nat.le_trans hp.hcap hp.hmax; unfold maxLen at this; omega
  have hno : ¬ RenGood m1 ws1 zs := by
    intro h; rw [h.1] at hr; cases hr
  rw [hg1] at HG1
  have HE := Lib.hid (fun W (h : SetArg W m1 A1 l1 c1 ws1) (hp : IntsArg W P k d zs) (hD : DB W) => srename_bad m1 A1 P l1 c1 k d ws1 zs W h hp hD hno)
  have HR1 := Lib.hid (fun W (h1 : SetArg W m1 A1 l1 c1 ws1) => rright_any m1 A1 l1 c1 ws1 W h1)
  rw [hr] at HR1
  have HT1 := Lib.hid (fun W m A len c ws er (h1 : SetArg W m A len c ws) (h2 : Ans 0 1 [] m len ws er) => told_ans (B := none) (l2 := 0) (c2 := 0) h1 h2 (by intro h; cases h))
  unfold SetAns setA at *
  obtain ⟨W0, hW0⟩ : ∃ W0, W0 = (w.alloc (.cells #[.int .i64 (m1), .slice A1 l1 c1] 24)) := ⟨_, rfl⟩
  have hb0 : Below w.heap.size w W0 := by rw [hW0]; exact ((Below.refl _ _).alloc (by simp) (.cells #[.int .i64 (m1), .slice A1 l1 c1] 24))
  have hv0 : SetVar W0 (w.heap.size) (m1) A1 l1 c1 ws1 := by
    have := SetVar.new h1
    rw [hW0]; exact this
  have HWW := Lib.hid hW0
  have HB := Lib.hid hb0
  have Va := Lib.hid hv0
  clear hb0 hv0 h1 hg1 hr hno
  have DD := Lib.hid (hD.on HB.out)
  have PA := Lib.hid (hp.on HB.out)
  clear hD hp
  go_enter Tryd.func3, Tryd.ntmps3
  go_wp2_with fail
  rw [← HWW.out]
  clear hW0
  go_wp2_with fail
  refine (HAV.out _).mono ?_
  rintro e x1 ⟨rfl, hb1⟩
  have Va' := Lib.hid (Va.out.on hb1)
  clear Va
  have Va := Va'
  clear Va'
  have DD' := Lib.hid (DD.out.on hb1)
  clear DD
  have DD := DD'
  clear DD'
  have PA' := Lib.hid (PA.out.on hb1)
  clear PA
  have PA := PA'
  clear PA'
  have HB' := Lib.hid (HB.out.trans (hb1.mono HB.out.size))
  clear HB
  have HB := HB'
  clear HB'
  clear hb1
  have kVa0 := Va.out.c0
  have kVa1 := Va.out.c1
  go_wp2_with fail
  refine (HG1.out _).mono ?_
  rintro e x2 ⟨rfl, hb2⟩
  clear kVa0 kVa1
  have Va' := Lib.hid (Va.out.on hb2)
  clear Va
  have Va := Va'
  clear Va'
  have DD' := Lib.hid (DD.out.on hb2)
  clear DD
  have DD := DD'
  clear DD'
  have PA' := Lib.hid (PA.out.on hb2)
  clear PA
  have PA := PA'
  clear PA'
  have HB' := Lib.hid (HB.out.trans (hb2.mono HB.out.size))
  clear HB
  have HB := HB'
  clear HB'
  clear hb2
  have kVa0 := Va.out.c0
  have kVa1 := Va.out.c1
  go_wp2_with fail
  refine (HE.out _ Va.out.arg PA.out DD.out).mono ?_
  rintro e x3 ⟨m3, A3, l3, c3, ws3, e3, rfl, ha3, hb3, hp3⟩
  clear kVa0 kVa1
  have Va' := Lib.hid (Va.out.on hb3)
  clear Va
  have Va := Va'
  clear Va'
  have DD' := Lib.hid (DD.out.on hb3)
  clear DD
  have DD := DD'
  clear DD'
  have PA' := Lib.hid (PA.out.on hb3)
  clear PA
  have PA := PA'
  clear PA'
  have HB' := Lib.hid (HB.out.trans (hb3.mono HB.out.size))
  clear HB
  have HB := HB'
  clear HB'
  have hltVa := Va.out.blk.lt
  have kVa0 := Va.out.c0
  have kVa1 := Va.out.c1
  have Va' := Lib.hid (Va.out.on ((Below.refl _ _).alloc (Nat.le_refl _) (.cells #[.int .i64 m3, .slice A3 l3 c3] 24)))
  clear Va
  have Va := Va'
  clear Va'
  have DD' := Lib.hid (DD.out.on ((Below.refl _ _).alloc (Nat.le_refl _) (.cells #[.int .i64 m3, .slice A3 l3 c3] 24)))
  clear DD
  have DD := DD'
  clear DD'
  have PA' := Lib.hid (PA.out.on ((Below.refl _ _).alloc (Nat.le_refl _) (.cells #[.int .i64 m3, .slice A3 l3 c3] 24)))
  clear PA
  have PA := PA'
  clear PA'
  have HB' := Lib.hid (HB.out.trans (((Below.refl _ _).alloc (Nat.le_refl _) (.cells #[.int .i64 m3, .slice A3 l3 c3] 24)).mono HB.out.size))
  clear HB
  have HB := HB'
  clear HB'
  have V3 := Lib.hid (SetVar.new ha3)
  have P3 := Lib.hid hp3
  clear ha3 hb3 hp3
  go_wp2_with fail
  clear hltVa
  refine (HR1.out _ Va.out.arg).mono ?_
  rintro e x4 ⟨rfl, hb4⟩
  clear kVa0 kVa1
  have Va' := Lib.hid (Va.out.on hb4)
  clear Va
  have Va := Va'
  clear Va'
  have DD' := Lib.hid (DD.out.on hb4)
  clear DD
  have DD := DD'
  clear DD'
  have PA' := Lib.hid (PA.out.on hb4)
  clear PA
  have PA := PA'
  clear PA'
  have V3' := Lib.hid (V3.out.on hb4)
  clear V3
  have V3 := V3'
  clear V3'
  have HB' := Lib.hid (HB.out.trans (hb4.mono HB.out.size))
  clear HB
  have HB := HB'
  clear HB'
  clear hb4
  have kV30 := V3.out.c0
  have kV31 := V3.out.c1
  go_wp2_with fail
  refine (HT1.out _ _ _ _ _ _ _ V3.out.arg P3.out).mono ?_
  rintro e x5 ⟨rfl, hb5⟩
  clear kV30 kV31
  have Va' := Lib.hid (Va.out.on hb5)
  clear Va
  have Va := Va'
  clear Va'
  have DD' := Lib.hid (DD.out.on hb5)
  clear DD
  have DD := DD'
  clear DD'
  have PA' := Lib.hid (PA.out.on hb5)
  clear PA
  have PA := PA'
  clear PA'
  have V3' := Lib.hid (V3.out.on hb5)
  clear V3
  have V3 := V3'
  clear V3'
  have HB' := Lib.hid (HB.out.trans (hb5.mono HB.out.size))
  clear HB
  have HB := HB'
  clear HB'
  clear hb5
  go_wp2_with fail
  go_ret
  exact ⟨rfl, HB.out⟩
set_option maxRecDepth 100000 in
set_option maxHeartbeats 16000000 in
theorem srnl_no_p (m1 : Int) (A1 P : Option Addr) (l1 c1 k d : Nat) (ws1 : List Nat) (zs : List Int) (w : World) (h1 : SetArg w m1 A1 l1 c1 ws1) (hp : IntsArg w P k d zs) (hD : DB w) (hg1 : greatB m1 l1 = false) (hk : k ≤ 20) (hr : srightB m1 ws1 = true) (hz : ¬ IsPerm zs) :
    Calls Tryd.prog 3 #[setA m1 A1 l1 c1, .slice P k d] w fun e w' => e = .returned (.bool true) ∧ Below w.heap.size w w' := by
  have HAV := Lib.hid (fun W => alive5_any W)
  have HG1 := Lib.hid (fun W => great_any m1 A1 l1 c1 W)
  have hkx : k ≤ 9223372036854775807 := by have := Nat.le_trans hp.hcap hp.hmax; unfold maxLen at this; omega
  have hno : ¬ RenGood m1 ws1 zs := by
    exact fun h => hz h.2.2
  rw [hg1] at HG1
  have HE := Lib.hid (fun W (h : SetArg W m1 A1 l1 c1 ws1) (hp : IntsArg W P k d zs) (hD : DB W) => srename_bad m1 A1 P l1 c1 k d ws1 zs W h hp hD hno)
  have HR1 := Lib.hid (fun W (h1 : SetArg W m1 A1 l1 c1 ws1) => rright_any m1 A1 l1 c1 ws1 W h1)
  rw [hr] at HR1
  have HT1 := Lib.hid (fun W m A len c ws er (h1 : SetArg W m A len c ws) (h2 : Ans 0 1 [] m len ws er) => told_ans (B := none) (l2 := 0) (c2 := 0) h1 h2 (by intro h; cases h))
  have HR2 := Lib.hid (fun W (hp : IntsArg W P k d zs) => refRight_any P k d zs W hp.hlen hkx hp.row)
  rw [decide_eq_false hz] at HR2
  unfold SetAns setA at *
  obtain ⟨W0, hW0⟩ : ∃ W0, W0 = (w.alloc (.cells #[.int .i64 (m1), .slice A1 l1 c1] 24)) := ⟨_, rfl⟩
  have hb0 : Below w.heap.size w W0 := by rw [hW0]; exact ((Below.refl _ _).alloc (by simp) (.cells #[.int .i64 (m1), .slice A1 l1 c1] 24))
  have hv0 : SetVar W0 (w.heap.size) (m1) A1 l1 c1 ws1 := by
    have := SetVar.new h1
    rw [hW0]; exact this
  have HWW := Lib.hid hW0
  have HB := Lib.hid hb0
  have Va := Lib.hid hv0
  clear hb0 hv0 h1 hg1 hr hno hz
  have DD := Lib.hid (hD.on HB.out)
  have PA := Lib.hid (hp.on HB.out)
  clear hD hp
  go_enter Tryd.func3, Tryd.ntmps3
  go_wp2_with fail
  rw [← HWW.out]
  clear hW0
  go_wp2_with fail
  refine (HAV.out _).mono ?_
  rintro e x1 ⟨rfl, hb1⟩
  have Va' := Lib.hid (Va.out.on hb1)
  clear Va
  have Va := Va'
  clear Va'
  have DD' := Lib.hid (DD.out.on hb1)
  clear DD
  have DD := DD'
  clear DD'
  have PA' := Lib.hid (PA.out.on hb1)
  clear PA
  have PA := PA'
  clear PA'
  have HB' := Lib.hid (HB.out.trans (hb1.mono HB.out.size))
  clear HB
  have HB := HB'
  clear HB'
  clear hb1
  have kVa0 := Va.out.c0
  have kVa1 := Va.out.c1
  go_wp2_with fail
  refine (HG1.out _).mono ?_
  rintro e x2 ⟨rfl, hb2⟩
  clear kVa0 kVa1
  have Va' := Lib.hid (Va.out.on hb2)
  clear Va
  have Va := Va'
  clear Va'
  have DD' := Lib.hid (DD.out.on hb2)
  clear DD
  have DD := DD'
  clear DD'
  have PA' := Lib.hid (PA.out.on hb2)
  clear PA
  have PA := PA'
  clear PA'
  have HB' := Lib.hid (HB.out.trans (hb2.mono HB.out.size))
  clear HB
  have HB := HB'
  clear HB'
  clear hb2
  have kVa0 := Va.out.c0
  have kVa1 := Va.out.c1
  go_wp2_with fail
  refine (HE.out _ Va.out.arg PA.out DD.out).mono ?_
  rintro e x3 ⟨m3, A3, l3, c3, ws3, e3, rfl, ha3, hb3, hp3⟩
  clear kVa0 kVa1
  have Va' := Lib.hid (Va.out.on hb3)
  clear Va
  have Va := Va'
  clear Va'
  have DD' := Lib.hid (DD.out.on hb3)
  clear DD
  have DD := DD'
  clear DD'
  have PA' := Lib.hid (PA.out.on hb3)
  clear PA
  have PA := PA'
  clear PA'
  have HB' := Lib.hid (HB.out.trans (hb3.mono HB.out.size))
  clear HB
  have HB := HB'
  clear HB'
  have hltVa := Va.out.blk.lt
  have kVa0 := Va.out.c0
  have kVa1 := Va.out.c1
  have Va' := Lib.hid (Va.out.on ((Below.refl _ _).alloc (Nat.le_refl _) (.cells #[.int .i64 m3, .slice A3 l3 c3] 24)))
  clear Va
  have Va := Va'
  clear Va'
  have DD' := Lib.hid (DD.out.on ((Below.refl _ _).alloc (Nat.le_refl _) (.cells #[.int .i64 m3, .slice A3 l3 c3] 24)))
  clear DD
  have DD := DD'
  clear DD'
  have PA' := Lib.hid (PA.out.on ((Below.refl _ _).alloc (Nat.le_refl _) (.cells #[.int .i64 m3, .slice A3 l3 c3] 24)))
  clear PA
  have PA := PA'
  clear PA'
  have HB' := Lib.hid (HB.out.trans (((Below.refl _ _).alloc (Nat.le_refl _) (.cells #[.int .i64 m3, .slice A3 l3 c3] 24)).mono HB.out.size))
  clear HB
  have HB := HB'
  clear HB'
  have V3 := Lib.hid (SetVar.new ha3)
  have P3 := Lib.hid hp3
  clear ha3 hb3 hp3
  go_wp2_with fail
  clear hltVa
  refine (HR1.out _ Va.out.arg).mono ?_
  rintro e x4 ⟨rfl, hb4⟩
  clear kVa0 kVa1
  have Va' := Lib.hid (Va.out.on hb4)
  clear Va
  have Va := Va'
  clear Va'
  have DD' := Lib.hid (DD.out.on hb4)
  clear DD
  have DD := DD'
  clear DD'
  have PA' := Lib.hid (PA.out.on hb4)
  clear PA
  have PA := PA'
  clear PA'
  have V3' := Lib.hid (V3.out.on hb4)
  clear V3
  have V3 := V3'
  clear V3'
  have HB' := Lib.hid (HB.out.trans (hb4.mono HB.out.size))
  clear HB
  have HB := HB'
  clear HB'
  clear hb4
  have kV30 := V3.out.c0
  have kV31 := V3.out.c1
  go_wp2_with fail
  refine (HR2.out _ PA.out).mono ?_
  rintro e w' ⟨rfl, rfl⟩
  go_wp2_with fail
  refine (HT1.out _ _ _ _ _ _ _ V3.out.arg P3.out).mono ?_
  rintro e x5 ⟨rfl, hb5⟩
  clear kV30 kV31
  have Va' := Lib.hid (Va.out.on hb5)
  clear Va
  have Va := Va'
  clear Va'
  have DD' := Lib.hid (DD.out.on hb5)
  clear DD
  have DD := DD'
  clear DD'
  have PA' := Lib.hid (PA.out.on hb5)
  clear PA
  have PA := PA'
  clear PA'
  have V3' := Lib.hid (V3.out.on hb5)
  clear V3
  have V3 := V3'
  clear V3'
  have HB' := Lib.hid (HB.out.trans (hb5.mono HB.out.size))
  clear HB
  have HB := HB'
  clear HB'
  clear hb5
  go_wp2_with fail
  go_ret
  exact ⟨rfl, HB.out⟩
set_option maxRecDepth 100000 in
set_option maxHeartbeats 16000000 in
theorem srnl_no_l (m1 : Int) (A1 P : Option Addr) (l1 c1 k d : Nat) (ws1 : List Nat) (zs : List Int) (w : World) (h1 : SetArg w m1 A1 l1 c1 ws1) (hp : IntsArg w P k d zs) (hD : DB w) (hg1 : greatB m1 l1 = false) (hk : k ≤ 20) (hr : srightB m1 ws1 = true) (hz : IsPerm zs) (hl : (k : Int) ≠ m1) :
    Calls Tryd.prog 3 #[setA m1 A1 l1 c1, .slice P k d] w fun e w' => e = .returned (.bool true) ∧ Below w.heap.size w w' := by
  have HAV := Lib.hid (fun W => alive5_any W)
  have HG1 := Lib.hid (fun W => great_any m1 A1 l1 c1 W)
  have hkx : k ≤ 9223372036854775807 := by have := Nat.le_trans hp.hcap hp.hmax; unfold maxLen at this; omega
  have hno : ¬ RenGood m1 ws1 zs := by
    exact fun h => hl (by rw [h.2.1, hp.hlen])
  rw [hg1] at HG1
  have HE := Lib.hid (fun W (h : SetArg W m1 A1 l1 c1 ws1) (hp : IntsArg W P k d zs) (hD : DB W) => srename_bad m1 A1 P l1 c1 k d ws1 zs W h hp hD hno)
  have HR1 := Lib.hid (fun W (h1 : SetArg W m1 A1 l1 c1 ws1) => rright_any m1 A1 l1 c1 ws1 W h1)
  rw [hr] at HR1
  have HT1 := Lib.hid (fun W m A len c ws er (h1 : SetArg W m A len c ws) (h2 : Ans 0 1 [] m len ws er) => told_ans (B := none) (l2 := 0) (c2 := 0) h1 h2 (by intro h; cases h))
  have HR2 := Lib.hid (fun W (hp : IntsArg W P k d zs) => refRight_any P k d zs W hp.hlen hkx hp.row)
  rw [decide_eq_true hz] at HR2
  have hb : ((k : Int) != m1) = true := by rw [bne_iff_ne]; exact hl
  clear hl
  unfold SetAns setA at *
  obtain ⟨W0, hW0⟩ : ∃ W0, W0 = (w.alloc (.cells #[.int .i64 (m1), .slice A1 l1 c1] 24)) := ⟨_, rfl⟩
  have hb0 : Below w.heap.size w W0 := by rw [hW0]; exact ((Below.refl _ _).alloc (by simp) (.cells #[.int .i64 (m1), .slice A1 l1 c1] 24))
  have hv0 : SetVar W0 (w.heap.size) (m1) A1 l1 c1 ws1 := by
    have := SetVar.new h1
    rw [hW0]; exact this
  have HWW := Lib.hid hW0
  have HB := Lib.hid hb0
  have Va := Lib.hid hv0
  clear hb0 hv0 h1 hg1 hr hno hz
  have DD := Lib.hid (hD.on HB.out)
  have PA := Lib.hid (hp.on HB.out)
  clear hD hp
  go_enter Tryd.func3, Tryd.ntmps3
  go_wp2_with fail
  rw [← HWW.out]
  clear hW0
  go_wp2_with fail
  refine (HAV.out _).mono ?_
  rintro e x1 ⟨rfl, hb1⟩
  have Va' := Lib.hid (Va.out.on hb1)
  clear Va
  have Va := Va'
  clear Va'
  have DD' := Lib.hid (DD.out.on hb1)
  clear DD
  have DD := DD'
  clear DD'
  have PA' := Lib.hid (PA.out.on hb1)
  clear PA
  have PA := PA'
  clear PA'
  have HB' := Lib.hid (HB.out.trans (hb1.mono HB.out.size))
  clear HB
  have HB := HB'
  clear HB'
  clear hb1
  have kVa0 := Va.out.c0
  have kVa1 := Va.out.c1
  go_wp2_with fail
  refine (HG1.out _).mono ?_
  rintro e x2 ⟨rfl, hb2⟩
  clear kVa0 kVa1
  have Va' := Lib.hid (Va.out.on hb2)
  clear Va
  have Va := Va'
  clear Va'
  have DD' := Lib.hid (DD.out.on hb2)
  clear DD
  have DD := DD'
  clear DD'
  have PA' := Lib.hid (PA.out.on hb2)
  clear PA
  have PA := PA'
  clear PA'
  have HB' := Lib.hid (HB.out.trans (hb2.mono HB.out.size))
  clear HB
  have HB := HB'
  clear HB'
  clear hb2
  have kVa0 := Va.out.c0
  have kVa1 := Va.out.c1
  go_wp2_with fail
  refine (HE.out _ Va.out.arg PA.out DD.out).mono ?_
  rintro e x3 ⟨m3, A3, l3, c3, ws3, e3, rfl, ha3, hb3, hp3⟩
  clear kVa0 kVa1
  have Va' := Lib.hid (Va.out.on hb3)
  clear Va
  have Va := Va'
  clear Va'
  have DD' := Lib.hid (DD.out.on hb3)
  clear DD
  have DD := DD'
  clear DD'
  have PA' := Lib.hid (PA.out.on hb3)
  clear PA
  have PA := PA'
  clear PA'
  have HB' := Lib.hid (HB.out.trans (hb3.mono HB.out.size))
  clear HB
  have HB := HB'
  clear HB'
  have hltVa := Va.out.blk.lt
  have kVa0 := Va.out.c0
  have kVa1 := Va.out.c1
  have Va' := Lib.hid (Va.out.on ((Below.refl _ _).alloc (Nat.le_refl _) (.cells #[.int .i64 m3, .slice A3 l3 c3] 24)))
  clear Va
  have Va := Va'
  clear Va'
  have DD' := Lib.hid (DD.out.on ((Below.refl _ _).alloc (Nat.le_refl _) (.cells #[.int .i64 m3, .slice A3 l3 c3] 24)))
  clear DD
  have DD := DD'
  clear DD'
  have PA' := Lib.hid (PA.out.on ((Below.refl _ _).alloc (Nat.le_refl _) (.cells #[.int .i64 m3, .slice A3 l3 c3] 24)))
  clear PA
  have PA := PA'
  clear PA'
  have HB' := Lib.hid (HB.out.trans (((Below.refl _ _).alloc (Nat.le_refl _) (.cells #[.int .i64 m3, .slice A3 l3 c3] 24)).mono HB.out.size))
  clear HB
  have HB := HB'
  clear HB'
  have V3 := Lib.hid (SetVar.new ha3)
  have P3 := Lib.hid hp3
  clear ha3 hb3 hp3
  go_wp2_with fail
  clear hltVa
  refine (HR1.out _ Va.out.arg).mono ?_
  rintro e x4 ⟨rfl, hb4⟩
  clear kVa0 kVa1
  have Va' := Lib.hid (Va.out.on hb4)
  clear Va
  have Va := Va'
  clear Va'
  have DD' := Lib.hid (DD.out.on hb4)
  clear DD
  have DD := DD'
  clear DD'
  have PA' := Lib.hid (PA.out.on hb4)
  clear PA
  have PA := PA'
  clear PA'
  have V3' := Lib.hid (V3.out.on hb4)
  clear V3
  have V3 := V3'
  clear V3'
  have HB' := Lib.hid (HB.out.trans (hb4.mono HB.out.size))
  clear HB
  have HB := HB'
  clear HB'
  clear hb4
  have kVa0 := Va.out.c0
  have kVa1 := Va.out.c1
  have kV30 := V3.out.c0
  have kV31 := V3.out.c1
  go_wp2_with fail
  refine (HR2.out _ PA.out).mono ?_
  rintro e w' ⟨rfl, rfl⟩
  go_wp2_with fail
  refine (HT1.out _ _ _ _ _ _ _ V3.out.arg P3.out).mono ?_
  rintro e x5 ⟨rfl, hb5⟩
  clear kVa0 kVa1 kV30 kV31
  have Va' := Lib.hid (Va.out.on hb5)
  clear Va
  have Va := Va'
  clear Va'
  have DD' := Lib.hid (DD.out.on hb5)
  clear DD
  have DD := DD'
  clear DD'
  have PA' := Lib.hid (PA.out.on hb5)
  clear PA
  have PA := PA'
  clear PA'
  have V3' := Lib.hid (V3.out.on hb5)
  clear V3
  have V3 := V3'
  clear V3'
  have HB' := Lib.hid (HB.out.trans (hb5.mono HB.out.size))
  clear HB
  have HB := HB'
  clear HB'
  clear hb5
  go_wp2_with fail
  go_ret
  exact ⟨rfl, HB.out⟩
set_option maxRecDepth 100000 in
set_option maxHeartbeats 16000000 in
theorem srnl_ok (n : Nat) (A1 P : Option Addr) (l1 c1 d : Nat) (ws1 : List Nat) (zs : List Int) (w : World) (h1 : SetArg w (n : Nat) A1 l1 c1 ws1) (hp : IntsArg w P n d zs) (hD : DB w) (t : List Bool) (hws : ws1 = packT t) (ht : t.length = 2 ^ n) (hg1 : greatB (n : Nat) l1 = false) (hn : n ≤ 16) (hz : IsPerm zs) :
    Calls Tryd.prog 3 #[setA (n : Nat) A1 l1 c1, .slice P n d] w fun e w' => e = .returned (.bool true) ∧ Below w.heap.size w w' := by
  have HAV := Lib.hid (fun W => alive5_any W)
  have HG1 := Lib.hid (fun W => great_any (n : Nat) A1 l1 c1 W)
  have hkx : n ≤ 9223372036854775807 := by have := Nat.le_trans hp.hcap hp.hmax; unfold maxLen at this; omega
  subst hws
  obtain ⟨i0, hi, hz0, hz1, hz2⟩ := info_parts info_int
  have ok := SOk.pack hn ht
  have hr : srightB (n : Nat) (packT t) = true := (sright_iff ok.lt).2 ⟨by omega, by simpa using ok⟩
  rw [hg1] at HG1
  have HE := Lib.hid (fun W (h : SetArg W n A1 l1 c1 (packT t)) (hp : IntsArg W P n d zs) (hD : DB W) => srename_ok n A1 P l1 c1 d t zs W hn ht h hp hD hz)
  have hlz := hp.hlen
  have HR1 := Lib.hid (fun W (h1 : SetArg W n A1 l1 c1 (packT t)) => rright_any n A1 l1 c1 _ W h1)
  rw [hr] at HR1
  have HR2 := Lib.hid (fun W (hp : IntsArg W P n d zs) => refRight_any P n d zs W hp.hlen hkx hp.row)
  rw [decide_eq_true hz] at HR2
  have HTB := Lib.hid (fun W (h : SetArg W n A1 l1 c1 (packT t)) => rtable_tab n A1 l1 c1 _ W h ok)
  rw [tab_pack ht] at HTB
  have HRN := Lib.hid (fun W B c (h : TabArg W B (2 ^ n) c t) (hr : RowF (Value.int .i64) 0 W W.heap.size P zs) => rrename_tab n zs hz hlz B P c d t W h hr)
  have HB2 := Lib.hid (fun bs (hb : BackOf zs bs) W A l c B d' (h : SetArg W n A l c (packT (renT zs t n))) (hp : IntsArg W B n d' bs) (hD : DB W) => (srename_ok n A B l c d' (renT zs t n) bs W hn (renT_length zs t n) h hp hD (hb.perm hz)).mono fun e w' (hh : TabAns W n (renT bs (renT zs t n) n) e w') => (show TabAns W n t e w' by rw [renT_back hb hz hlz ht] at hh; exact hh))
  have HT0 := Lib.hid (fun W A l c B c2 (h1 : SetArg W n A l c (packT (renT zs t n))) (h3 : TabArg W B (2 ^ n) c2 (renT zs t n)) => told_ans (B := B) (l2 := 2 ^ n) (c2 := c2) h1 (tab_ans hn (renT_length zs t n)) (fun _ => ⟨by rw [renT_length], h3.row⟩))
  have HSM := Lib.hid (fun W A l c A' l' c' (h : SetArg W n A l c (packT t)) (h' : SetArg W n A' l' c' (packT t)) => ssame_any n n A A' l l' c c' _ _ W h h')
  rw [decide_eq_true ⟨rfl, rfl⟩] at HSM
  have HZ := Lib.hid (hz)
  have HL := Lib.hid (hlz)
  have HTL := Lib.hid (renT_length zs t n)
  have HBP := Lib.hid (fun (bs : List Int) (hb : BackOf zs bs) => hb.perm hz)
  have hb : ((n : Int) != (n : Int)) = false := by simp
  generalize renT zs t n = t1 at *
  unfold TabAns setA at *
  generalize 2 ^ n = N at *
  obtain ⟨W0, hW0⟩ : ∃ W0, W0 = (w.alloc (.cells #[.int .i64 ((n : Nat)), .slice A1 l1 c1] 24)) := ⟨_, rfl⟩
  have hb0 : Below w.heap.size w W0 := by rw [hW0]; exact ((Below.refl _ _).alloc (by simp) (.cells #[.int .i64 ((n : Nat)), .slice A1 l1 c1] 24))
  have hv0 : SetVar W0 (w.heap.size) ((n : Nat)) A1 l1 c1 (packT t) := by
    have := SetVar.new h1
    rw [hW0]; exact this
  have HWW := Lib.hid hW0
  have HB := Lib.hid hb0
  have Va := Lib.hid hv0
  clear hb0 hv0 h1 hg1 hr ok hz
  have DD := Lib.hid (hD.on HB.out)
  have PA := Lib.hid (hp.on HB.out)
  clear hD hp
  go_enter Tryd.func3, Tryd.ntmps3
  go_wp2_with fail
  rw [← HWW.out]
  clear hW0
  go_wp2_with fail
  refine (HAV.out _).mono ?_
  rintro e x1 ⟨rfl, hb1⟩
  have Va' := Lib.hid (Va.out.on hb1)
  clear Va
  have Va := Va'
  clear Va'
  have DD' := Lib.hid (DD.out.on hb1)
  clear DD
  have DD := DD'
  clear DD'
  have PA' := Lib.hid (PA.out.on hb1)
  clear PA
  have PA := PA'
  clear PA'
  have HB' := Lib.hid (HB.out.trans (hb1.mono HB.out.size))
  clear HB
  have HB := HB'
  clear HB'
  clear hb1
  have kVa0 := Va.out.c0
  have kVa1 := Va.out.c1
  go_wp2_with fail
  refine (HG1.out _).mono ?_
  rintro e x2 ⟨rfl, hb2⟩
  clear kVa0 kVa1
  have Va' := Lib.hid (Va.out.on hb2)
  clear Va
  have Va := Va'
  clear Va'
  have DD' := Lib.hid (DD.out.on hb2)
  clear DD
  have DD := DD'
  clear DD'
  have PA' := Lib.hid (PA.out.on hb2)
  clear PA
  have PA := PA'
  clear PA'
  have HB' := Lib.hid (HB.out.trans (hb2.mono HB.out.size))
  clear HB
  have HB := HB'
  clear HB'
  clear hb2
  have kVa0 := Va.out.c0
  have kVa1 := Va.out.c1
  go_wp2_with fail
  refine (HE.out _ Va.out.arg PA.out DD.out).mono ?_
  rintro e xp ⟨Ap, lp, cp, rfl, hap, hbp⟩
  clear kVa0 kVa1
  have Va' := Lib.hid (Va.out.on hbp)
  clear Va
  have Va := Va'
  clear Va'
  have DD' := Lib.hid (DD.out.on hbp)
  clear DD
  have DD := DD'
  clear DD'
  have PA' := Lib.hid (PA.out.on hbp)
  clear PA
  have PA := PA'
  clear PA'
  have HB' := Lib.hid (HB.out.trans (hbp.mono HB.out.size))
  clear HB
  have HB := HB'
  clear HB'
  have hltVa := Va.out.blk.lt
  have kVa0 := Va.out.c0
  have kVa1 := Va.out.c1
  have Va' := Lib.hid (Va.out.on ((Below.refl _ _).alloc (Nat.le_refl _) (.cells #[.int .i64 (n : Nat), .slice Ap lp cp] 24)))
  clear Va
  have Va := Va'
  clear Va'
  have DD' := Lib.hid (DD.out.on ((Below.refl _ _).alloc (Nat.le_refl _) (.cells #[.int .i64 (n : Nat), .slice Ap lp cp] 24)))
  clear DD
  have DD := DD'
  clear DD'
  have PA' := Lib.hid (PA.out.on ((Below.refl _ _).alloc (Nat.le_refl _) (.cells #[.int .i64 (n : Nat), .slice Ap lp cp] 24)))
  clear PA
  have PA := PA'
  clear PA'
  have HB' := Lib.hid (HB.out.trans (((Below.refl _ _).alloc (Nat.le_refl _) (.cells #[.int .i64 (n : Nat), .slice Ap lp cp] 24)).mono HB.out.size))
  clear HB
  have HB := HB'
  clear HB'
  have Vp := Lib.hid (SetVar.new hap)
  clear hap hbp
  go_wp2_with fail
  clear hltVa
  refine (HR1.out _ Va.out.arg).mono ?_
  rintro e x3 ⟨rfl, hb3⟩
  clear kVa0 kVa1
  have Va' := Lib.hid (Va.out.on hb3)
  clear Va
  have Va := Va'
  clear Va'
  have DD' := Lib.hid (DD.out.on hb3)
  clear DD
  have DD := DD'
  clear DD'
  have PA' := Lib.hid (PA.out.on hb3)
  clear PA
  have PA := PA'
  clear PA'
  have Vp' := Lib.hid (Vp.out.on hb3)
  clear Vp
  have Vp := Vp'
  clear Vp'
  have HB' := Lib.hid (HB.out.trans (hb3.mono HB.out.size))
  clear HB
  have HB := HB'
  clear HB'
  clear hb3
  have kVa0 := Va.out.c0
  have kVa1 := Va.out.c1
  go_wp2_with fail
  refine (HR2.out _ PA.out).mono ?_
  rintro e w' ⟨rfl, rfl⟩
  go_wp2_with (at_make; refine wp_make (f := Value.int .i64) (z := (0 : Int)) Tryd.underlying25 hi hz0 hz1 hz2 rfl _ rfl _ _ rfl (n : Int) n rfl rfl rfl (by omega) (by unfold maxLen; omega) ?_; intro w1 hown1 hb1 hs1)
  clear kVa0 kVa1
  have HO1 := Lib.hid hown1
  have HBM := Lib.hid hb1
  clear hown1 hb1 hs1
  go_loopw [8] (fun i wr => ∃ (k : Nat) (bs : List Int), k ≤ n ∧ i = .int .i64 k ∧ BackTo zs bs k ∧ OwnF (Value.int .i64) 3 wr x3.heap.size (.slice (some ⟨x3.heap.size, 0, none⟩) n n) bs ∧ Below x3.heap.size x3 wr) (fun i _ => n - (intOf i).toNat)
  case atStart => exact ⟨0, List.replicate n 0, Nat.zero_le _, rfl, ⟨by rw [List.length_replicate, HL.out], fun v hv => by omega⟩, HO1.out, HBM.out⟩
  case round =>
    obtain ⟨k, bs, hk, rfl, hbt, hown, hbw⟩ := hrel
    have HBT := Lib.hid hbt
    have HO := Lib.hid hown
    have HW := Lib.hid hbw
    clear hbt hown hbw
    by_cases hlt : k < n
    · obtain ⟨b, off, rfl, hb0, hc⟩ := PA.out.row (by rw [HL.out]; omega)
      have hx0 : wr.cell? ⟨b, off + k, none⟩ = some (.int .i64 (zs[k]?.getD 0)) := (HW.out.cell (p := ⟨b, off + k, none⟩) hb0).trans (hc k (by rw [HL.out]; exact hlt))
      rw [HZ.out.pn_int (by rw [HL.out]; exact hlt)] at hx0
      have hpl := HZ.out.pn_lt (v := k) (by rw [HL.out]; exact hlt)
      rw [HL.out] at hpl
      have HST := Lib.hid (HBT.out.step HZ.out (by rw [HL.out]; exact hlt))
      have hat := HO.out.at_ (pn zs k) (by rw [HBT.out.1, HL.out]; exact hpl)
      rw [List.getElem?_eq_getElem (by rw [HBT.out.1, HL.out]; exact hpl)] at hat
      have kc := hat.1
      have kz := hat.2
      clear hc hat
      generalize pn zs k = q at *
      go_wp2_with fail
      go_roundw
      case rel => exact ⟨k + 1, bs.set q (k : Int), by omega, by go_num, HST.out, HO.out.set_ q (k : Int), HW.out.setCell (p := ⟨x3.heap.size, q, none⟩) (Nat.le_refl _) _⟩
      case measure => simp [intOf]; omega
    · obtain rfl : k = n := by omega
      have hbk : BackOf zs bs := ⟨HBT.out.1, fun v hv => HBT.out.2 v (by rw [HL.out] at hv; exact hv)⟩
      have HBK := Lib.hid hbk
      have hpb := HBP.out bs hbk
      have PB : Hid (IntsArg wr (some ⟨x3.heap.size, 0, none⟩) k k bs) := Lib.hid ⟨by rw [hbk.1, HL.out], Nat.le_refl _, by unfold maxLen; omega, HO.out.rows, fun x hx => by have := hpb.2.2 x hx; have := hpb.1; exact WalkArith.wf_i64 (by omega)⟩
      have hbw := HW.out
      clear HW HBM HO1 HO HBT hbk hpb
      have Va' := Lib.hid (Va.out.on hbw)
      clear Va
      have Va := Va'
      clear Va'
      have DD' := Lib.hid (DD.out.on hbw)
      clear DD
      have DD := DD'
      clear DD'
      have PA' := Lib.hid (PA.out.on hbw)
      clear PA
      have PA := PA'
      clear PA'
      have Vp' := Lib.hid (Vp.out.on hbw)
      clear Vp
      have Vp := Vp'
      clear Vp'
      have HB' := Lib.hid (HB.out.trans (hbw.mono HB.out.size))
      clear HB
      have HB := HB'
      clear HB'
      clear hbw
      have kVp0 := Vp.out.c0
      have kVp1 := Vp.out.c1
      go_wp2_with fail
      refine (HB2.out bs HBK.out _ _ _ _ _ _ Vp.out.arg PB.out DD.out).mono ?_
      rintro e xq ⟨Aq, lq, cq, rfl, haq, hbq⟩
      clear kVp0 kVp1
      have Va' := Lib.hid (Va.out.on hbq)
      clear Va
      have Va := Va'
      clear Va'
      have DD' := Lib.hid (DD.out.on hbq)
      clear DD
      have DD := DD'
      clear DD'
      have PA' := Lib.hid (PA.out.on hbq)
      clear PA
      have PA := PA'
      clear PA'
      have Vp' := Lib.hid (Vp.out.on hbq)
      clear Vp
      have Vp := Vp'
      clear Vp'
      have PB' := Lib.hid (PB.out.on hbq)
      clear PB
      have PB := PB'
      clear PB'
      have HB' := Lib.hid (HB.out.trans (hbq.mono HB.out.size))
      clear HB
      have HB := HB'
      clear HB'
      have Va' := Lib.hid (Va.out.on ((Below.refl _ _).alloc (Nat.le_refl _) (.cells #[.int .i64 (k : Nat), .slice Aq lq cq] 24)))
      clear Va
      have Va := Va'
      clear Va'
      have DD' := Lib.hid (DD.out.on ((Below.refl _ _).alloc (Nat.le_refl _) (.cells #[.int .i64 (k : Nat), .slice Aq lq cq] 24)))
      clear DD
      have DD := DD'
      clear DD'
      have PA' := Lib.hid (PA.out.on ((Below.refl _ _).alloc (Nat.le_refl _) (.cells #[.int .i64 (k : Nat), .slice Aq lq cq] 24)))
      clear PA
      have PA := PA'
      clear PA'
      have Vp' := Lib.hid (Vp.out.on ((Below.refl _ _).alloc (Nat.le_refl _) (.cells #[.int .i64 (k : Nat), .slice Aq lq cq] 24)))
      clear Vp
      have Vp := Vp'
      clear Vp'
      have PB' := Lib.hid (PB.out.on ((Below.refl _ _).alloc (Nat.le_refl _) (.cells #[.int .i64 (k : Nat), .slice Aq lq cq] 24)))
      clear PB
      have PB := PB'
      clear PB'
      have HB' := Lib.hid (HB.out.trans (((Below.refl _ _).alloc (Nat.le_refl _) (.cells #[.int .i64 (k : Nat), .slice Aq lq cq] 24)).mono HB.out.size))
      clear HB
      have HB := HB'
      clear HB'
      have Vq := Lib.hid (SetVar.new haq)
      clear haq hbq
      go_wp2_with fail
      have FACTS : Hid (∀ W', Below (xq.alloc (.cells #[.int .i64 (k : Nat), .slice Aq lq cq] 24)).heap.size (xq.alloc (.cells #[.int .i64 (k : Nat), .slice Aq lq cq] 24)) W' → W'.cell? ⟨xp.heap.size, 0, none⟩ = some (.int .i64 (k : Nat)) ∧ W'.cell? ⟨xp.heap.size, 1, none⟩ = some (.slice Ap lp cp) ∧ W'.cell? ⟨w.heap.size, 0, none⟩ = some (.int .i64 ((k : Nat))) ∧ W'.cell? ⟨w.heap.size, 1, none⟩ = some (.slice A1 l1 c1) ∧ W'.cell? ⟨xq.heap.size, 0, none⟩ = some (.int .i64 (k : Nat)) ∧ W'.cell? ⟨xq.heap.size, 1, none⟩ = some (.slice Aq lq cq)) := Lib.hid fun W' hW => ⟨(Vp.out.on hW).c0, (Vp.out.on hW).c1, (Va.out.on hW).c0, (Va.out.on hW).c1, (Vq.out.on hW).c0, (Vq.out.on hW).c1⟩
      go_region_held3 (fun w' => w'.cell? ⟨xp.heap.size, 0, none⟩ = some (.int .i64 (k : Nat)) ∧ w'.cell? ⟨xp.heap.size, 1, none⟩ = some (.slice Ap lp cp) ∧ w'.cell? ⟨w.heap.size, 0, none⟩ = some (.int .i64 ((k : Nat))) ∧ w'.cell? ⟨w.heap.size, 1, none⟩ = some (.slice A1 l1 c1) ∧ w'.cell? ⟨xq.heap.size, 0, none⟩ = some (.int .i64 (k : Nat)) ∧ w'.cell? ⟨xq.heap.size, 1, none⟩ = some (.slice Aq lq cq)) ((refine FACTS.out _ ?_; (with_reducible (first | exact Below.refl _ _ | exact (Below.refl _ _).drew | exact hbKt | exact hbKt.drew | exact hbKn | exact hbKn.drew | exact hbKs | exact hbKs.drew | exact hbKu | exact hbKu.drew)))) (first
            | (go_at_call 15; refine (HTB.out _ (Va.out.arg.on ?_)).mono ?_; (with_reducible (first | exact Below.refl _ _ | exact (Below.refl _ _).drew | exact hbKt | exact hbKt.drew | exact hbKn | exact hbKn.drew | exact hbKs | exact hbKs.drew | exact hbKu | exact hbKu.drew)); rintro e wt ⟨Bt, dt, rfl, tt, hbt⟩; have hbKt : Below (xq.alloc (.cells #[.int .i64 (k : Nat), .slice Aq lq cq] 24)).heap.size (xq.alloc (.cells #[.int .i64 (k : Nat), .slice Aq lq cq] 24)) wt := (by first | exact (Below.refl _ _).drew.trans hbt | exact (Below.refl _ _).trans hbt | exact hbKn.trans (hbt.mono hbKn.size) | exact hbKn.drew.trans (hbt.mono hbKn.size) | exact hbKs.trans (hbt.mono hbKs.size) | exact hbKs.drew.trans (hbt.mono hbKs.size) | exact hbKu.trans (hbt.mono hbKu.size) | exact hbKu.drew.trans (hbt.mono hbKu.size)))
            | (go_at_call 14; refine (HRN.out _ _ _ tt (PA.out.on hbKt).row).mono ?_; skip; rintro e wn ⟨Bn, dn, rfl, tn, hbn⟩; have hbKn : Below (xq.alloc (.cells #[.int .i64 (k : Nat), .slice Aq lq cq] 24)).heap.size (xq.alloc (.cells #[.int .i64 (k : Nat), .slice Aq lq cq] 24)) wn := (by first | exact (Below.refl _ _).drew.trans hbn | exact (Below.refl _ _).trans hbn | exact hbKt.trans (hbn.mono hbKt.size) | exact hbKt.drew.trans (hbn.mono hbKt.size) | exact hbKs.trans (hbn.mono hbKs.size) | exact hbKs.drew.trans (hbn.mono hbKs.size) | exact hbKu.trans (hbn.mono hbKu.size) | exact hbKu.drew.trans (hbn.mono hbKu.size)))
            | (go_at_call 13; refine (HT0.out _ _ _ _ _ _ (Vp.out.arg.on hbKn) tn).mono ?_; skip; rintro e ws ⟨rfl, hbs⟩; have hbKs : Below (xq.alloc (.cells #[.int .i64 (k : Nat), .slice Aq lq cq] 24)).heap.size (xq.alloc (.cells #[.int .i64 (k : Nat), .slice Aq lq cq] 24)) ws := (by first | exact (Below.refl _ _).drew.trans hbs | exact (Below.refl _ _).trans hbs | exact hbKt.trans (hbs.mono hbKt.size) | exact hbKt.drew.trans (hbs.mono hbKt.size) | exact hbKn.trans (hbs.mono hbKn.size) | exact hbKn.drew.trans (hbs.mono hbKn.size) | exact hbKu.trans (hbs.mono hbKu.size) | exact hbKu.drew.trans (hbs.mono hbKu.size)))
            | (go_at_call 16; refine (HSM.out _ _ _ _ _ _ _ (Vq.out.arg.on hbKs) (Va.out.arg.on hbKs)).mono ?_; skip; rintro e wu ⟨rfl, hbu⟩; have hbKu : Below (xq.alloc (.cells #[.int .i64 (k : Nat), .slice Aq lq cq] 24)).heap.size (xq.alloc (.cells #[.int .i64 (k : Nat), .slice Aq lq cq] 24)) wu := (by first | exact (Below.refl _ _).drew.trans hbu | exact (Below.refl _ _).trans hbu | exact hbKt.trans (hbu.mono hbKt.size) | exact hbKt.drew.trans (hbu.mono hbKt.size) | exact hbKn.trans (hbu.mono hbKn.size) | exact hbKn.drew.trans (hbu.mono hbKn.size) | exact hbKs.trans (hbu.mono hbKs.size) | exact hbKs.drew.trans (hbu.mono hbKs.size)))
            | fail)
      all_goals
        go_wp2_with fail
        go_ret
        exact ⟨rfl, HB.out.trans (hbKu.mono HB.out.size)⟩
theorem srenames_walk (m1 : Int) (A1 : Option Addr) (l1 c1 : Nat) (ws1 : List Nat) (P : Option Addr) (k d : Nat) (zs : List Int) (w : World) (h1 : SetArg w m1 A1 l1 c1 ws1) (hp : IntsArg w P k d zs) (hD : DB w) :
    Calls Tryd.prog 3 #[.agg #[.int .i64 m1, .slice A1 l1 c1], .slice P k d] w fun e w' => e = .returned (.bool true) ∧ Below w.heap.size w w' := by
  cases hg1 : greatB m1 l1
  case true => exact srnl_great m1 A1 P l1 c1 k d ws1 zs w h1 hp hD hg1
  by_cases hk : 20 < k
  · exact srnl_long m1 A1 P l1 c1 k d ws1 zs w h1 hp hD hg1 hk
  cases hr : srightB m1 ws1
  case false => exact srnl_no_r m1 A1 P l1 c1 k d ws1 zs w h1 hp hD hg1 (by omega) hr
  by_cases hz : IsPerm zs
  · by_cases hl : (k : Int) = m1
    · subst hl
      obtain ⟨n, hn, ok⟩ := sright_nat h1.lt hr
      obtain rfl : n = k := by omega
      exact srnl_ok n A1 P l1 c1 d ws1 zs w h1 hp hD (tabS n ws1) ok.pack_tab.symm (tabS_length n ws1) hg1 ok.n16 hz
    · exact srnl_no_l m1 A1 P l1 c1 k d ws1 zs w h1 hp hD hg1 (by omega) hr hz hl
  · exact srnl_no_p m1 A1 P l1 c1 k d ws1 zs w h1 hp hD hg1 (by omega) hr hz
end Go.Proofs.YtpbpjihdaghiaaaDoor
