/- SetRight: the walk. -/
import Derived.Test.YtpbpjihdaghiaaaDoorMl
import Derived.Deep.DeepCutAuto
namespace Go.Proofs.YtpbpjihdaghiaaaDoor
open Go.RowKit Go.Sort
set_option linter.unusedSimpArgs false
set_option linter.unusedVariables false

theorem memX_tab {n : Nat} {ws : List Nat} (ok : SOk n ws) : memX (n : Int) ws = memT (tabS n ws) (2 ^ n) := by
  unfold memX memT
  rw [if_pos ((sright_iff ok.lt).2 ⟨by omega, by simpa using ok⟩), restL_set ok]
  apply List.filter_congr
  intro x hx
  rw [tat_tab (List.mem_range.1 hx)]
theorem countB_tab {n : Nat} {ws : List Nat} (ok : SOk n ws) : countB (n : Int) ws = (memT (tabS n ws) (2 ^ n)).length := by
  rw [← memX_tab ok]
  unfold countB memX
  rw [if_pos ((sright_iff ok.lt).2 ⟨by omega, by simpa using ok⟩), if_pos ((sright_iff ok.lt).2 ⟨by omega, by simpa using ok⟩), restL_set ok, members_count ok]
  rfl
theorem suppI_tab {n : Nat} {ws : List Nat} (ok : SOk n ws) : suppI (n : Int) ws = supN (tabS n ws) n := by
  unfold suppI
  rw [if_pos ((sright_iff ok.lt).2 ⟨by omega, by simpa using ok⟩), Int.toNat_natCast]
theorem hasB_in {n y : Nat} {ws : List Nat} (ok : SOk n ws) (hy : y < 2 ^ n) : hasB (n : Int) ws (y : Int) = tat (tabS n ws) y := by
  unfold hasB
  rw [(sright_iff ok.lt).2 ⟨by omega, by simpa using ok⟩, Int.toNat_natCast, decide_eq_true ⟨by omega, by omega⟩, Int.toNat_natCast, tat_tab hy]
  rfl
theorem hasB_out {n : Nat} {x : Int} {ws : List Nat} (hx : x < 0 ∨ (2 ^ n : Nat) ≤ x) : hasB (n : Int) ws x = false := by
  unfold hasB
  rw [Int.toNat_natCast, decide_eq_false (p := 0 ≤ x ∧ x < (2 ^ n : Nat)) (by omega)]
  simp
set_option maxRecDepth 100000 in
set_option maxHeartbeats 8000000 in
theorem srg_great (m1 x : Int) (A1 : Option Addr) (l1 c1 : Nat) (ws1 : List Nat) (w : World) (h1 : SetArg w m1 A1 l1 c1 ws1) (hD : DB w) (hg1 : greatB m1 l1 = true) :
    Calls Tryd.prog 6 #[setA m1 A1 l1 c1, .int .i64 x] w fun e w' => e = .returned (.bool true) ∧ Below w.heap.size w w' := by
  have HAV := Lib.hid (fun W => alive5_any W)
  have HG1 := Lib.hid (fun W => great_any m1 A1 l1 c1 W)
  rw [hg1] at HG1
  unfold setA at *
  obtain ⟨W0, hW0⟩ : ∃ W0, W0 = (w.alloc (.cells #[.int .i64 (m1), .slice A1 l1 c1] 24)) := ⟨_, rfl⟩
  have hb0 : Below w.heap.size w W0 := by rw [hW0]; exact ((Below.refl _ _).alloc (by simp) (.cells #[.int .i64 (m1), .slice A1 l1 c1] 24))
  have hv0 : SetVar W0 (w.heap.size) (m1) A1 l1 c1 ws1 := by
    have := SetVar.new h1
    rw [hW0]; exact this
  have HWW := Lib.hid hW0
  have HB := Lib.hid hb0
  have Va := Lib.hid hv0
  clear hb0 hv0 h1 hg1
  have DD := Lib.hid (hD.on HB.out)
  clear hD
  go_enter Tryd.func6, Tryd.ntmps6
  go_wp2_with fail
  rw [← HWW.out]
  clear hW0
  go_wp2_with fail
  refine (HAV.out _).mono ?_
  rintro e x1 ⟨rfl, hb1⟩
  have Va' := Lib.hid (Va.out.on hb1)
  clear Va
  have Va := Va'
  clear Va'
  have DD' := Lib.hid (DD.out.on hb1)
  clear DD
  have DD := DD'
  clear DD'
  have HB' := Lib.hid (HB.out.trans (hb1.mono HB.out.size))
  clear HB
  have HB := HB'
  clear HB'
  clear hb1
  have kVa0 := Va.out.c0
  have kVa1 := Va.out.c1
  go_wp2_with fail
  refine (HG1.out _).mono ?_
  rintro e x2 ⟨rfl, hb2⟩
  clear kVa0 kVa1
  have Va' := Lib.hid (Va.out.on hb2)
  clear Va
  have Va := Va'
  clear Va'
  have DD' := Lib.hid (DD.out.on hb2)
  clear DD
  have DD := DD'
  clear DD'
  have HB' := Lib.hid (HB.out.trans (hb2.mono HB.out.size))
  clear HB
  have HB := HB'
  clear HB'
  clear hb2
  go_wp2_with fail
  go_ret
  exact ⟨rfl, HB.out⟩
set_option maxRecDepth 100000 in
set_option maxHeartbeats 8000000 in
theorem srg_no (m1 x : Int) (A1 : Option Addr) (l1 c1 : Nat) (ws1 : List Nat) (w : World) (h1 : SetArg w m1 A1 l1 c1 ws1) (hD : DB w) (hg1 : greatB m1 l1 = false) (hr : srightB m1 ws1 = false) :
    Calls Tryd.prog 6 #[setA m1 A1 l1 c1, .int .i64 x] w fun e w' => e = .returned (.bool true) ∧ Below w.heap.size w w' := by
  have HAV := Lib.hid (fun W => alive5_any W)
  have HG1 := Lib.hid (fun W => great_any m1 A1 l1 c1 W)
  have hg2 : l1 ≤ 8 ∧ (m1 : Int) ≤ 8 := by unfold greatB at hg1; have := of_decide_eq_false hg1; omega
  rw [hg1] at HG1
  have HM := Lib.hid (fun W (h1 : SetArg W m1 A1 l1 c1 ws1) => smembers_any m1 A1 l1 c1 ws1 W h1 (by omega))
  have HH := Lib.hid (fun W (h1 : SetArg W m1 A1 l1 c1 ws1) => shas_any m1 x A1 l1 c1 ws1 W h1)
  have HC := Lib.hid (fun W (h1 : SetArg W m1 A1 l1 c1 ws1) => scount_any m1 A1 l1 c1 ws1 W h1)
  have HU := Lib.hid (fun W (h1 : SetArg W m1 A1 l1 c1 ws1) => ssupport_any m1 A1 l1 c1 ws1 W h1)
  have HR1 := Lib.hid (fun W (h1 : SetArg W m1 A1 l1 c1 ws1) => rright_any m1 A1 l1 c1 ws1 W h1)
  have HR2 := Lib.hid (fun W (h1 : SetArg W m1 A1 l1 c1 ws1) => sright_any m1 A1 l1 c1 ws1 W h1)
  have hrr := hr
  have hme : memX m1 ws1 = [] := by unfold memX; rw [hrr]; rfl
  have hmx : (memX m1 ws1).length ≤ 300 := by rw [hme]; simp
  have HCO := Lib.hid (fun W g base A' c' (hg : Blk W g 24 #[.int .i64 m1, .slice A' l1 c']) (ho : OwnF U 71 W base (.slice A' l1 c') ws1) (hD : DB W) => scollect_any m1 A' l1 c' ws1 g base W hg ho h1.hlen h1.lt h1.wf hD hmx)
  rw [hrr] at HR1 HR2
  rw [hme] at HCO
  have e1 : hasB m1 ws1 x = false := by unfold hasB; rw [hrr]; rfl
  have e2 : countB m1 ws1 = 0 := by unfold countB; rw [hrr]; rfl
  have e3 : suppI m1 ws1 = 0 := by unfold suppI; rw [hrr]; rfl
  rw [e1] at HH
  rw [e2] at HC
  rw [e3] at HU
  clear e1 e2 e3 hme hmx hr hrr hg1
  simp only [List.length_nil] at HCO
  unfold setA at *
  obtain ⟨W0, hW0⟩ : ∃ W0, W0 = (w.alloc (.cells #[.int .i64 (m1), .slice A1 l1 c1] 24)) := ⟨_, rfl⟩
  have hb0 : Below w.heap.size w W0 := by rw [hW0]; exact ((Below.refl _ _).alloc (by simp) (.cells #[.int .i64 (m1), .slice A1 l1 c1] 24))
  have hv0 : SetVar W0 (w.heap.size) (m1) A1 l1 c1 ws1 := by
    have := SetVar.new h1
    rw [hW0]; exact this
  have HWW := Lib.hid hW0
  have HB := Lib.hid hb0
  have Va := Lib.hid hv0
  clear hb0 hv0 h1 
  have DD := Lib.hid (hD.on HB.out)
  clear hD
  go_enter Tryd.func6, Tryd.ntmps6
  go_wp2_with fail
  rw [← HWW.out]
  clear hW0
  go_wp2_with fail
  refine (HAV.out _).mono ?_
  rintro e x1 ⟨rfl, hb1⟩
  have Va' := Lib.hid (Va.out.on hb1)
  clear Va
  have Va := Va'
  clear Va'
  have DD' := Lib.hid (DD.out.on hb1)
  clear DD
  have DD := DD'
  clear DD'
  have HB' := Lib.hid (HB.out.trans (hb1.mono HB.out.size))
  clear HB
  have HB := HB'
  clear HB'
  clear hb1
  have kVa0 := Va.out.c0
  have kVa1 := Va.out.c1
  go_wp2_with fail
  refine (HG1.out _).mono ?_
  rintro e x2 ⟨rfl, hb2⟩
  clear kVa0 kVa1
  have Va' := Lib.hid (Va.out.on hb2)
  clear Va
  have Va := Va'
  clear Va'
  have DD' := Lib.hid (DD.out.on hb2)
  clear DD
  have DD := DD'
  clear DD'
  have HB' := Lib.hid (HB.out.trans (hb2.mono HB.out.size))
  clear HB
  have HB := HB'
  clear HB'
  clear hb2
  have kVa0 := Va.out.c0
  have kVa1 := Va.out.c1
  go_wp2_with fail
  refine (HR1.out _ Va.out.arg).mono ?_
  rintro e x3 ⟨rfl, hb3⟩
  clear kVa0 kVa1
  have Va' := Lib.hid (Va.out.on hb3)
  clear Va
  have Va := Va'
  clear Va'
  have DD' := Lib.hid (DD.out.on hb3)
  clear DD
  have DD := DD'
  clear DD'
  have HB' := Lib.hid (HB.out.trans (hb3.mono HB.out.size))
  clear HB
  have HB := HB'
  clear HB'
  clear hb3
  have kVa0 := Va.out.c0
  have kVa1 := Va.out.c1
  go_wp2_with fail
  refine (HR2.out _ Va.out.arg).mono ?_
  rintro e x4 ⟨rfl, hb4⟩
  clear kVa0 kVa1
  have Va' := Lib.hid (Va.out.on hb4)
  clear Va
  have Va := Va'
  clear Va'
  have DD' := Lib.hid (DD.out.on hb4)
  clear DD
  have DD := DD'
  clear DD'
  have HB' := Lib.hid (HB.out.trans (hb4.mono HB.out.size))
  clear HB
  have HB := HB'
  clear HB'
  clear hb4
  have kVa0 := Va.out.c0
  have kVa1 := Va.out.c1
  go_wp2_with fail
  refine (HM.out _ Va.out.arg).mono ?_
  rintro e xm ⟨A', c', rfl, hbk, hown, hbm⟩
  clear kVa0 kVa1
  have Va' := Lib.hid (Va.out.on hbm)
  clear Va
  have Va := Va'
  clear Va'
  have DD' := Lib.hid (DD.out.on hbm)
  clear DD
  have DD := DD'
  clear DD'
  have HB' := Lib.hid (HB.out.trans (hbm.mono HB.out.size))
  clear HB
  have HB := HB'
  clear HB'
  clear hbm
  have kVa0 := Va.out.c0
  have kVa1 := Va.out.c1
  go_wp2_with fail
  refine (HCO.out _ _ _ A' c' hbk hown DD.out).mono ?_
  rintro e xc ⟨B, d, rfl, hol, hbc⟩
  clear kVa0 kVa1
  have Va' := Lib.hid (Va.out.on hbc)
  clear Va
  have Va := Va'
  clear Va'
  have DD' := Lib.hid (DD.out.on hbc)
  clear DD
  have DD := DD'
  clear DD'
  have HB' := Lib.hid (HB.out.trans (hbc.mono HB.out.size))
  clear HB
  have HB := HB'
  clear HB'
  have LL := Lib.hid (hol.rows (d := 0))
  clear hbc hol hbk hown
  have kVa0 := Va.out.c0
  have kVa1 := Va.out.c1
  go_wp2_with fail
  refine (HH.out _ Va.out.arg).mono ?_
  rintro e x5 ⟨rfl, hb5⟩
  clear kVa0 kVa1
  have Va' := Lib.hid (Va.out.on hb5)
  clear Va
  have Va := Va'
  clear Va'
  have DD' := Lib.hid (DD.out.on hb5)
  clear DD
  have DD := DD'
  clear DD'
  have LL' := Lib.hid (LL.out.on hb5)
  clear LL
  have LL := LL'
  clear LL'
  have HB' := Lib.hid (HB.out.trans (hb5.mono HB.out.size))
  clear HB
  have HB := HB'
  clear HB'
  clear hb5
  have kVa0 := Va.out.c0
  have kVa1 := Va.out.c1
  go_wp2_with fail
  refine (HC.out _ Va.out.arg).mono ?_
  rintro e x6 ⟨rfl, hb6⟩
  clear kVa0 kVa1
  have Va' := Lib.hid (Va.out.on hb6)
  clear Va
  have Va := Va'
  clear Va'
  have DD' := Lib.hid (DD.out.on hb6)
  clear DD
  have DD := DD'
  clear DD'
  have LL' := Lib.hid (LL.out.on hb6)
  clear LL
  have LL := LL'
  clear LL'
  have HB' := Lib.hid (HB.out.trans (hb6.mono HB.out.size))
  clear HB
  have HB := HB'
  clear HB'
  clear hb6
  have kVa0 := Va.out.c0
  have kVa1 := Va.out.c1
  go_wp2_with fail
  refine (HU.out _ Va.out.arg).mono ?_
  rintro e x7 ⟨rfl, hb7⟩
  clear kVa0 kVa1
  have Va' := Lib.hid (Va.out.on hb7)
  clear Va
  have Va := Va'
  clear Va'
  have DD' := Lib.hid (DD.out.on hb7)
  clear DD
  have DD := DD'
  clear DD'
  have LL' := Lib.hid (LL.out.on hb7)
  clear LL
  have LL := LL'
  clear LL'
  have HB' := Lib.hid (HB.out.trans (hb7.mono HB.out.size))
  clear HB
  have HB := HB'
  clear HB'
  clear hb7
  go_wp2_with fail
  go_ret
  exact ⟨rfl, HB.out⟩
set_option maxRecDepth 100000 in
set_option maxHeartbeats 8000000 in
theorem srg_neg (n : Nat) (x : Int) (A1 : Option Addr) (l1 c1 : Nat) (ws1 : List Nat) (w : World) (h1 : SetArg w (n : Nat) A1 l1 c1 ws1) (hD : DB w) (hg1 : greatB (n : Nat) l1 = false) (ok : SOk n ws1) (hx : x < 0) :
    Calls Tryd.prog 6 #[setA (n : Nat) A1 l1 c1, .int .i64 x] w fun e w' => e = .returned (.bool true) ∧ Below w.heap.size w w' := by
  have HAV := Lib.hid (fun W => alive5_any W)
  have HG1 := Lib.hid (fun W => great_any (n : Nat) A1 l1 c1 W)
  have hg2 : l1 ≤ 8 ∧ ((n : Nat) : Int) ≤ 8 := by unfold greatB at hg1; have := of_decide_eq_false hg1; omega
  rw [hg1] at HG1
  have HM := Lib.hid (fun W (h1 : SetArg W (n : Nat) A1 l1 c1 ws1) => smembers_any (n : Nat) A1 l1 c1 ws1 W h1 (by omega))
  have HH := Lib.hid (fun W (h1 : SetArg W (n : Nat) A1 l1 c1 ws1) => shas_any (n : Nat) x A1 l1 c1 ws1 W h1)
  have HC := Lib.hid (fun W (h1 : SetArg W (n : Nat) A1 l1 c1 ws1) => scount_any (n : Nat) A1 l1 c1 ws1 W h1)
  have HU := Lib.hid (fun W (h1 : SetArg W (n : Nat) A1 l1 c1 ws1) => ssupport_any (n : Nat) A1 l1 c1 ws1 W h1)
  have HR1 := Lib.hid (fun W (h1 : SetArg W (n : Nat) A1 l1 c1 ws1) => rright_any (n : Nat) A1 l1 c1 ws1 W h1)
  have HR2 := Lib.hid (fun W (h1 : SetArg W (n : Nat) A1 l1 c1 ws1) => sright_any (n : Nat) A1 l1 c1 ws1 W h1)
  have hn16 := ok.n16
  have hrr : srightB (n : Nat) ws1 = true := (sright_iff ok.lt).2 ⟨by omega, by simpa using ok⟩
  have hpow : 2 ^ n ≤ 256 := Nat.le_trans (Nat.pow_le_pow_right (by omega) (show n ≤ 8 by omega)) (by omega)
  have hmx : (memX (n : Int) ws1).length ≤ 300 := by rw [memX_tab ok]; have := memT_le (tabS n ws1) (2 ^ n); omega
  have HCO := Lib.hid (fun W g base A' c' (hg : Blk W g 24 #[.int .i64 (n : Nat), .slice A' l1 c']) (ho : OwnF U 71 W base (.slice A' l1 c') ws1) (hD : DB W) => scollect_any (n : Nat) A' l1 c' ws1 g base W hg ho h1.hlen h1.lt h1.wf hD hmx)
  rw [hrr] at HR1 HR2
  have HTB := Lib.hid (fun W (h : SetArg W (n : Nat) A1 l1 c1 ws1) => rtable_tab n A1 l1 c1 ws1 W h ok)
  rw [memX_tab ok] at HCO
  rw [countB_tab ok] at HC
  rw [suppI_tab ok] at HU
  have e1 := hasB_out (n := n) (x := x) (ws := ws1) (.inl hx)
  rw [e1] at HH
  have HL2 := Lib.hid (fun W A B c d (ha : RowF NI 0 W W.heap.size A (memT (tabS n ws1) (2 ^ n))) (hb : RowF NI 0 W W.heap.size B (memT (tabS n ws1) (2 ^ n))) => same2_any A B _ _ c d _ _ W rfl rfl (by have := memT_le (tabS n ws1) (2 ^ n); omega) (by have := memT_le (tabS n ws1) (2 ^ n); omega) ha hb)
  rw [decide_eq_true rfl] at HL2
  have HMB := Lib.hid (fun W B c (h : TabArg W B (2 ^ n) c (tabS n ws1)) => rmembers_any B (2 ^ n) c (tabS n ws1) W h)
  have HSU := Lib.hid (fun W B c (h : TabArg W B (2 ^ n) c (tabS n ws1)) => rsupport_any n hn16 B c (tabS n ws1) W h)
  have hml := memT_le (tabS n ws1) (2 ^ n)
  have hsu : supN (tabS n ws1) n < 65536 := Nat.lt_of_lt_of_le (supN_lt _ n) (pow16 hn16)
  have hpos : 0 < 2 ^ n := Nat.two_pow_pos n
  generalize memT (tabS n ws1) (2 ^ n) = L at *
  generalize supN (tabS n ws1) n = su at *
  generalize tabS n ws1 = t at *
  generalize 2 ^ n = N at *
  generalize hlg : L.length = lg at *
  have HLG := Lib.hid hlg
  clear hlg e1 hrr hg1 ok hmx
  unfold setA at *
  obtain ⟨W0, hW0⟩ : ∃ W0, W0 = (w.alloc (.cells #[.int .i64 ((n : Nat)), .slice A1 l1 c1] 24)) := ⟨_, rfl⟩
  have hb0 : Below w.heap.size w W0 := by rw [hW0]; exact ((Below.refl _ _).alloc (by simp) (.cells #[.int .i64 ((n : Nat)), .slice A1 l1 c1] 24))
  have hv0 : SetVar W0 (w.heap.size) ((n : Nat)) A1 l1 c1 ws1 := by
    have := SetVar.new h1
    rw [hW0]; exact this
  have HWW := Lib.hid hW0
  have HB := Lib.hid hb0
  have Va := Lib.hid hv0
  clear hb0 hv0 h1 
  have DD := Lib.hid (hD.on HB.out)
  clear hD
  go_enter Tryd.func6, Tryd.ntmps6
  go_wp2_with fail
  rw [← HWW.out]
  clear hW0
  go_wp2_with fail
  refine (HAV.out _).mono ?_
  rintro e x1 ⟨rfl, hb1⟩
  have Va' := Lib.hid (Va.out.on hb1)
  clear Va
  have Va := Va'
  clear Va'
  have DD' := Lib.hid (DD.out.on hb1)
  clear DD
  have DD := DD'
  clear DD'
  have HB' := Lib.hid (HB.out.trans (hb1.mono HB.out.size))
  clear HB
  have HB := HB'
  clear HB'
  clear hb1
  have kVa0 := Va.out.c0
  have kVa1 := Va.out.c1
  go_wp2_with fail
  refine (HG1.out _).mono ?_
  rintro e x2 ⟨rfl, hb2⟩
  clear kVa0 kVa1
  have Va' := Lib.hid (Va.out.on hb2)
  clear Va
  have Va := Va'
  clear Va'
  have DD' := Lib.hid (DD.out.on hb2)
  clear DD
  have DD := DD'
  clear DD'
  have HB' := Lib.hid (HB.out.trans (hb2.mono HB.out.size))
  clear HB
  have HB := HB'
  clear HB'
  clear hb2
  have kVa0 := Va.out.c0
  have kVa1 := Va.out.c1
  go_wp2_with fail
  refine (HR1.out _ Va.out.arg).mono ?_
  rintro e x3 ⟨rfl, hb3⟩
  clear kVa0 kVa1
  have Va' := Lib.hid (Va.out.on hb3)
  clear Va
  have Va := Va'
  clear Va'
  have DD' := Lib.hid (DD.out.on hb3)
  clear DD
  have DD := DD'
  clear DD'
  have HB' := Lib.hid (HB.out.trans (hb3.mono HB.out.size))
  clear HB
  have HB := HB'
  clear HB'
  clear hb3
  have kVa0 := Va.out.c0
  have kVa1 := Va.out.c1
  go_wp2_with fail
  refine (HR2.out _ Va.out.arg).mono ?_
  rintro e x4 ⟨rfl, hb4⟩
  clear kVa0 kVa1
  have Va' := Lib.hid (Va.out.on hb4)
  clear Va
  have Va := Va'
  clear Va'
  have DD' := Lib.hid (DD.out.on hb4)
  clear DD
  have DD := DD'
  clear DD'
  have HB' := Lib.hid (HB.out.trans (hb4.mono HB.out.size))
  clear HB
  have HB := HB'
  clear HB'
  clear hb4
  have kVa0 := Va.out.c0
  have kVa1 := Va.out.c1
  go_wp2_with fail
  refine (HM.out _ Va.out.arg).mono ?_
  rintro e xm ⟨A', c', rfl, hbk, hown, hbm⟩
  clear kVa0 kVa1
  have Va' := Lib.hid (Va.out.on hbm)
  clear Va
  have Va := Va'
  clear Va'
  have DD' := Lib.hid (DD.out.on hbm)
  clear DD
  have DD := DD'
  clear DD'
  have HB' := Lib.hid (HB.out.trans (hbm.mono HB.out.size))
  clear HB
  have HB := HB'
  clear HB'
  clear hbm
  have kVa0 := Va.out.c0
  have kVa1 := Va.out.c1
  go_wp2_with fail
  refine (HCO.out _ _ _ A' c' hbk hown DD.out).mono ?_
  rintro e xc ⟨B, d, rfl, hol, hbc⟩
  clear kVa0 kVa1
  have Va' := Lib.hid (Va.out.on hbc)
  clear Va
  have Va := Va'
  clear Va'
  have DD' := Lib.hid (DD.out.on hbc)
  clear DD
  have DD := DD'
  clear DD'
  have HB' := Lib.hid (HB.out.trans (hbc.mono HB.out.size))
  clear HB
  have HB := HB'
  clear HB'
  have LL := Lib.hid (hol.rows (d := 0))
  clear hbc hol hbk hown
  have kVa0 := Va.out.c0
  have kVa1 := Va.out.c1
  go_wp2_with fail
  refine (HTB.out _ Va.out.arg).mono ?_
  rintro e xt ⟨B2, d2, rfl, ht, hbt⟩
  clear kVa0 kVa1
  have Va' := Lib.hid (Va.out.on hbt)
  clear Va
  have Va := Va'
  clear Va'
  have DD' := Lib.hid (DD.out.on hbt)
  clear DD
  have DD := DD'
  clear DD'
  have LL' := Lib.hid (LL.out.on hbt)
  clear LL
  have LL := LL'
  clear LL'
  have HB' := Lib.hid (HB.out.trans (hbt.mono HB.out.size))
  clear HB
  have HB := HB'
  clear HB'
  have TA := Lib.hid ht
  clear hbt ht
  have kVa0 := Va.out.c0
  have kVa1 := Va.out.c1
  go_wp2_with fail
  refine (HMB.out _ _ _ TA.out).mono ?_
  rintro e xl ⟨B3, d3, rfl, hol, hbt⟩
  clear kVa0 kVa1
  have Va' := Lib.hid (Va.out.on hbt)
  clear Va
  have Va := Va'
  clear Va'
  have DD' := Lib.hid (DD.out.on hbt)
  clear DD
  have DD := DD'
  clear DD'
  have LL' := Lib.hid (LL.out.on hbt)
  clear LL
  have LL := LL'
  clear LL'
  have TA' := Lib.hid (TA.out.on hbt)
  clear TA
  have TA := TA'
  clear TA'
  have HB' := Lib.hid (HB.out.trans (hbt.mono HB.out.size))
  clear HB
  have HB := HB'
  clear HB'
  have L2 := Lib.hid (hol.rows (d := 0))
  clear hbt hol
  have kVa0 := Va.out.c0
  have kVa1 := Va.out.c1
  simp only [HLG.out]
  go_wp2_with fail
  refine (HH.out _ Va.out.arg).mono ?_
  rintro e x5 ⟨rfl, hb5⟩
  clear kVa0 kVa1
  have Va' := Lib.hid (Va.out.on hb5)
  clear Va
  have Va := Va'
  clear Va'
  have DD' := Lib.hid (DD.out.on hb5)
  clear DD
  have DD := DD'
  clear DD'
  have LL' := Lib.hid (LL.out.on hb5)
  clear LL
  have LL := LL'
  clear LL'
  have TA' := Lib.hid (TA.out.on hb5)
  clear TA
  have TA := TA'
  clear TA'
  have L2' := Lib.hid (L2.out.on hb5)
  clear L2
  have L2 := L2'
  clear L2'
  have HB' := Lib.hid (HB.out.trans (hb5.mono HB.out.size))
  clear HB
  have HB := HB'
  clear HB'
  clear hb5
  have kVa0 := Va.out.c0
  have kVa1 := Va.out.c1
  go_wp2_with fail
  refine (HC.out _ Va.out.arg).mono ?_
  rintro e x6 ⟨rfl, hb6⟩
  clear kVa0 kVa1
  have Va' := Lib.hid (Va.out.on hb6)
  clear Va
  have Va := Va'
  clear Va'
  have DD' := Lib.hid (DD.out.on hb6)
  clear DD
  have DD := DD'
  clear DD'
  have LL' := Lib.hid (LL.out.on hb6)
  clear LL
  have LL := LL'
  clear LL'
  have TA' := Lib.hid (TA.out.on hb6)
  clear TA
  have TA := TA'
  clear TA'
  have L2' := Lib.hid (L2.out.on hb6)
  clear L2
  have L2 := L2'
  clear L2'
  have HB' := Lib.hid (HB.out.trans (hb6.mono HB.out.size))
  clear HB
  have HB := HB'
  clear HB'
  clear hb6
  have kVa0 := Va.out.c0
  have kVa1 := Va.out.c1
  go_wp2_with fail
  refine (HL2.out _ _ _ _ _ LL.out L2.out).mono ?_
  rintro e x7 ⟨rfl, hb7⟩
  clear kVa0 kVa1
  have Va' := Lib.hid (Va.out.on hb7)
  clear Va
  have Va := Va'
  clear Va'
  have DD' := Lib.hid (DD.out.on hb7)
  clear DD
  have DD := DD'
  clear DD'
  have LL' := Lib.hid (LL.out.on hb7)
  clear LL
  have LL := LL'
  clear LL'
  have TA' := Lib.hid (TA.out.on hb7)
  clear TA
  have TA := TA'
  clear TA'
  have L2' := Lib.hid (L2.out.on hb7)
  clear L2
  have L2 := L2'
  clear L2'
  have HB' := Lib.hid (HB.out.trans (hb7.mono HB.out.size))
  clear HB
  have HB := HB'
  clear HB'
  clear hb7
  have kVa0 := Va.out.c0
  have kVa1 := Va.out.c1
  go_wp2_with fail
  refine (HU.out _ Va.out.arg).mono ?_
  rintro e x8 ⟨rfl, hb8⟩
  clear kVa0 kVa1
  have Va' := Lib.hid (Va.out.on hb8)
  clear Va
  have Va := Va'
  clear Va'
  have DD' := Lib.hid (DD.out.on hb8)
  clear DD
  have DD := DD'
  clear DD'
  have LL' := Lib.hid (LL.out.on hb8)
  clear LL
  have LL := LL'
  clear LL'
  have TA' := Lib.hid (TA.out.on hb8)
  clear TA
  have TA := TA'
  clear TA'
  have L2' := Lib.hid (L2.out.on hb8)
  clear L2
  have L2 := L2'
  clear L2'
  have HB' := Lib.hid (HB.out.trans (hb8.mono HB.out.size))
  clear HB
  have HB := HB'
  clear HB'
  clear hb8
  go_wp2_with fail
  refine (HSU.out _ _ _ TA.out).mono ?_
  rintro e x9 ⟨rfl, hb9⟩
  have Va' := Lib.hid (Va.out.on hb9)
  clear Va
  have Va := Va'
  clear Va'
  have DD' := Lib.hid (DD.out.on hb9)
  clear DD
  have DD := DD'
  clear DD'
  have LL' := Lib.hid (LL.out.on hb9)
  clear LL
  have LL := LL'
  clear LL'
  have TA' := Lib.hid (TA.out.on hb9)
  clear TA
  have TA := TA'
  clear TA'
  have L2' := Lib.hid (L2.out.on hb9)
  clear L2
  have L2 := L2'
  clear L2'
  have HB' := Lib.hid (HB.out.trans (hb9.mono HB.out.size))
  clear HB
  have HB := HB'
  clear HB'
  clear hb9
  go_wp2_with fail
  go_ret
  exact ⟨rfl, HB.out⟩
set_option maxRecDepth 100000 in
set_option maxHeartbeats 8000000 in
theorem srg_big (n : Nat) (x : Int) (A1 : Option Addr) (l1 c1 : Nat) (ws1 : List Nat) (w : World) (h1 : SetArg w (n : Nat) A1 l1 c1 ws1) (hD : DB w) (hg1 : greatB (n : Nat) l1 = false) (ok : SOk n ws1) (hx0 : ¬ x < 0) (hx : (2 ^ n : Nat) ≤ x) :
    Calls Tryd.prog 6 #[setA (n : Nat) A1 l1 c1, .int .i64 x] w fun e w' => e = .returned (.bool true) ∧ Below w.heap.size w w' := by
  have HAV := Lib.hid (fun W => alive5_any W)
  have HG1 := Lib.hid (fun W => great_any (n : Nat) A1 l1 c1 W)
  have hg2 : l1 ≤ 8 ∧ ((n : Nat) : Int) ≤ 8 := by unfold greatB at hg1; have := of_decide_eq_false hg1; omega
  rw [hg1] at HG1
  have HM := Lib.hid (fun W (h1 : SetArg W (n : Nat) A1 l1 c1 ws1) => smembers_any (n : Nat) A1 l1 c1 ws1 W h1 (by omega))
  have HH := Lib.hid (fun W (h1 : SetArg W (n : Nat) A1 l1 c1 ws1) => shas_any (n : Nat) x A1 l1 c1 ws1 W h1)
  have HC := Lib.hid (fun W (h1 : SetArg W (n : Nat) A1 l1 c1 ws1) => scount_any (n : Nat) A1 l1 c1 ws1 W h1)
  have HU := Lib.hid (fun W (h1 : SetArg W (n : Nat) A1 l1 c1 ws1) => ssupport_any (n : Nat) A1 l1 c1 ws1 W h1)
  have HR1 := Lib.hid (fun W (h1 : SetArg W (n : Nat) A1 l1 c1 ws1) => rright_any (n : Nat) A1 l1 c1 ws1 W h1)
  have HR2 := Lib.hid (fun W (h1 : SetArg W (n : Nat) A1 l1 c1 ws1) => sright_any (n : Nat) A1 l1 c1 ws1 W h1)
  have hn16 := ok.n16
  have hrr : srightB (n : Nat) ws1 = true := (sright_iff ok.lt).2 ⟨by omega, by simpa using ok⟩
  have hpow : 2 ^ n ≤ 256 := Nat.le_trans (Nat.pow_le_pow_right (by omega) (show n ≤ 8 by omega)) (by omega)
  have hmx : (memX (n : Int) ws1).length ≤ 300 := by rw [memX_tab ok]; have := memT_le (tabS n ws1) (2 ^ n); omega
  have HCO := Lib.hid (fun W g base A' c' (hg : Blk W g 24 #[.int .i64 (n : Nat), .slice A' l1 c']) (ho : OwnF U 71 W base (.slice A' l1 c') ws1) (hD : DB W) => scollect_any (n : Nat) A' l1 c' ws1 g base W hg ho h1.hlen h1.lt h1.wf hD hmx)
  rw [hrr] at HR1 HR2
  have HTB := Lib.hid (fun W (h : SetArg W (n : Nat) A1 l1 c1 ws1) => rtable_tab n A1 l1 c1 ws1 W h ok)
  rw [memX_tab ok] at HCO
  rw [countB_tab ok] at HC
  rw [suppI_tab ok] at HU
  have e1 := hasB_out (n := n) (x := x) (ws := ws1) (.inr hx)
  rw [e1] at HH
  have HL2 := Lib.hid (fun W A B c d (ha : RowF NI 0 W W.heap.size A (memT (tabS n ws1) (2 ^ n))) (hb : RowF NI 0 W W.heap.size B (memT (tabS n ws1) (2 ^ n))) => same2_any A B _ _ c d _ _ W rfl rfl (by have := memT_le (tabS n ws1) (2 ^ n); omega) (by have := memT_le (tabS n ws1) (2 ^ n); omega) ha hb)
  rw [decide_eq_true rfl] at HL2
  have HMB := Lib.hid (fun W B c (h : TabArg W B (2 ^ n) c (tabS n ws1)) => rmembers_any B (2 ^ n) c (tabS n ws1) W h)
  have HSU := Lib.hid (fun W B c (h : TabArg W B (2 ^ n) c (tabS n ws1)) => rsupport_any n hn16 B c (tabS n ws1) W h)
  have hml := memT_le (tabS n ws1) (2 ^ n)
  have hsu : supN (tabS n ws1) n < 65536 := Nat.lt_of_lt_of_le (supN_lt _ n) (pow16 hn16)
  have hpos : 0 < 2 ^ n := Nat.two_pow_pos n
  generalize memT (tabS n ws1) (2 ^ n) = L at *
  generalize supN (tabS n ws1) n = su at *
  generalize tabS n ws1 = t at *
  generalize 2 ^ n = N at *
  generalize hlg : L.length = lg at *
  have HLG := Lib.hid hlg
  clear hlg e1 hrr hg1 ok hmx
  unfold setA at *
  obtain ⟨W0, hW0⟩ : ∃ W0, W0 = (w.alloc (.cells #[.int .i64 ((n : Nat)), .slice A1 l1 c1] 24)) := ⟨_, rfl⟩
  have hb0 : Below w.heap.size w W0 := by rw [hW0]; exact ((Below.refl _ _).alloc (by simp) (.cells #[.int .i64 ((n : Nat)), .slice A1 l1 c1] 24))
  have hv0 : SetVar W0 (w.heap.size) ((n : Nat)) A1 l1 c1 ws1 := by
    have := SetVar.new h1
    rw [hW0]; exact this
  have HWW := Lib.hid hW0
  have HB := Lib.hid hb0
  have Va := Lib.hid hv0
  clear hb0 hv0 h1 
  have DD := Lib.hid (hD.on HB.out)
  clear hD
  go_enter Tryd.func6, Tryd.ntmps6
  go_wp2_with fail
  rw [← HWW.out]
  clear hW0
  go_wp2_with fail
  refine (HAV.out _).mono ?_
  rintro e x1 ⟨rfl, hb1⟩
  have Va' := Lib.hid (Va.out.on hb1)
  clear Va
  have Va := Va'
  clear Va'
  have DD' := Lib.hid (DD.out.on hb1)
  clear DD
  have DD := DD'
  clear DD'
  have HB' := Lib.hid (HB.out.trans (hb1.mono HB.out.size))
  clear HB
  have HB := HB'
  clear HB'
  clear hb1
  have kVa0 := Va.out.c0
  have kVa1 := Va.out.c1
  go_wp2_with fail
  refine (HG1.out _).mono ?_
  rintro e x2 ⟨rfl, hb2⟩
  clear kVa0 kVa1
  have Va' := Lib.hid (Va.out.on hb2)
  clear Va
  have Va := Va'
  clear Va'
  have DD' := Lib.hid (DD.out.on hb2)
  clear DD
  have DD := DD'
  clear DD'
  have HB' := Lib.hid (HB.out.trans (hb2.mono HB.out.size))
  clear HB
  have HB := HB'
  clear HB'
  clear hb2
  have kVa0 := Va.out.c0
  have kVa1 := Va.out.c1
  go_wp2_with fail
  refine (HR1.out _ Va.out.arg).mono ?_
  rintro e x3 ⟨rfl, hb3⟩
  clear kVa0 kVa1
  have Va' := Lib.hid (Va.out.on hb3)
  clear Va
  have Va := Va'
  clear Va'
  have DD' := Lib.hid (DD.out.on hb3)
  clear DD
  have DD := DD'
  clear DD'
  have HB' := Lib.hid (HB.out.trans (hb3.mono HB.out.size))
  clear HB
  have HB := HB'
  clear HB'
  clear hb3
  have kVa0 := Va.out.c0
  have kVa1 := Va.out.c1
  go_wp2_with fail
  refine (HR2.out _ Va.out.arg).mono ?_
  rintro e x4 ⟨rfl, hb4⟩
  clear kVa0 kVa1
  have Va' := Lib.hid (Va.out.on hb4)
  clear Va
  have Va := Va'
  clear Va'
  have DD' := Lib.hid (DD.out.on hb4)
  clear DD
  have DD := DD'
  clear DD'
  have HB' := Lib.hid (HB.out.trans (hb4.mono HB.out.size))
  clear HB
  have HB := HB'
  clear HB'
  clear hb4
  have kVa0 := Va.out.c0
  have kVa1 := Va.out.c1
  go_wp2_with fail
  refine (HM.out _ Va.out.arg).mono ?_
  rintro e xm ⟨A', c', rfl, hbk, hown, hbm⟩
  clear kVa0 kVa1
  have Va' := Lib.hid (Va.out.on hbm)
  clear Va
  have Va := Va'
  clear Va'
  have DD' := Lib.hid (DD.out.on hbm)
  clear DD
  have DD := DD'
  clear DD'
  have HB' := Lib.hid (HB.out.trans (hbm.mono HB.out.size))
  clear HB
  have HB := HB'
  clear HB'
  clear hbm
  have kVa0 := Va.out.c0
  have kVa1 := Va.out.c1
  go_wp2_with fail
  refine (HCO.out _ _ _ A' c' hbk hown DD.out).mono ?_
  rintro e xc ⟨B, d, rfl, hol, hbc⟩
  clear kVa0 kVa1
  have Va' := Lib.hid (Va.out.on hbc)
  clear Va
  have Va := Va'
  clear Va'
  have DD' := Lib.hid (DD.out.on hbc)
  clear DD
  have DD := DD'
  clear DD'
  have HB' := Lib.hid (HB.out.trans (hbc.mono HB.out.size))
  clear HB
  have HB := HB'
  clear HB'
  have LL := Lib.hid (hol.rows (d := 0))
  clear hbc hol hbk hown
  have kVa0 := Va.out.c0
  have kVa1 := Va.out.c1
  go_wp2_with fail
  refine (HTB.out _ Va.out.arg).mono ?_
  rintro e xt ⟨B2, d2, rfl, ht, hbt⟩
  clear kVa0 kVa1
  have Va' := Lib.hid (Va.out.on hbt)
  clear Va
  have Va := Va'
  clear Va'
  have DD' := Lib.hid (DD.out.on hbt)
  clear DD
  have DD := DD'
  clear DD'
  have LL' := Lib.hid (LL.out.on hbt)
  clear LL
  have LL := LL'
  clear LL'
  have HB' := Lib.hid (HB.out.trans (hbt.mono HB.out.size))
  clear HB
  have HB := HB'
  clear HB'
  have TA := Lib.hid ht
  clear hbt ht
  have kVa0 := Va.out.c0
  have kVa1 := Va.out.c1
  go_wp2_with fail
  refine (HMB.out _ _ _ TA.out).mono ?_
  rintro e xl ⟨B3, d3, rfl, hol, hbt⟩
  clear kVa0 kVa1
  have Va' := Lib.hid (Va.out.on hbt)
  clear Va
  have Va := Va'
  clear Va'
  have DD' := Lib.hid (DD.out.on hbt)
  clear DD
  have DD := DD'
  clear DD'
  have LL' := Lib.hid (LL.out.on hbt)
  clear LL
  have LL := LL'
  clear LL'
  have TA' := Lib.hid (TA.out.on hbt)
  clear TA
  have TA := TA'
  clear TA'
  have HB' := Lib.hid (HB.out.trans (hbt.mono HB.out.size))
  clear HB
  have HB := HB'
  clear HB'
  have L2 := Lib.hid (hol.rows (d := 0))
  clear hbt hol
  have kVa0 := Va.out.c0
  have kVa1 := Va.out.c1
  simp only [HLG.out]
  go_wp2_with fail
  refine (HH.out _ Va.out.arg).mono ?_
  rintro e x5 ⟨rfl, hb5⟩
  clear kVa0 kVa1
  have Va' := Lib.hid (Va.out.on hb5)
  clear Va
  have Va := Va'
  clear Va'
  have DD' := Lib.hid (DD.out.on hb5)
  clear DD
  have DD := DD'
  clear DD'
  have LL' := Lib.hid (LL.out.on hb5)
  clear LL
  have LL := LL'
  clear LL'
  have TA' := Lib.hid (TA.out.on hb5)
  clear TA
  have TA := TA'
  clear TA'
  have L2' := Lib.hid (L2.out.on hb5)
  clear L2
  have L2 := L2'
  clear L2'
  have HB' := Lib.hid (HB.out.trans (hb5.mono HB.out.size))
  clear HB
  have HB := HB'
  clear HB'
  clear hb5
  have kVa0 := Va.out.c0
  have kVa1 := Va.out.c1
  go_wp2_with fail
  refine (HC.out _ Va.out.arg).mono ?_
  rintro e x6 ⟨rfl, hb6⟩
  clear kVa0 kVa1
  have Va' := Lib.hid (Va.out.on hb6)
  clear Va
  have Va := Va'
  clear Va'
  have DD' := Lib.hid (DD.out.on hb6)
  clear DD
  have DD := DD'
  clear DD'
  have LL' := Lib.hid (LL.out.on hb6)
  clear LL
  have LL := LL'
  clear LL'
  have TA' := Lib.hid (TA.out.on hb6)
  clear TA
  have TA := TA'
  clear TA'
  have L2' := Lib.hid (L2.out.on hb6)
  clear L2
  have L2 := L2'
  clear L2'
  have HB' := Lib.hid (HB.out.trans (hb6.mono HB.out.size))
  clear HB
  have HB := HB'
  clear HB'
  clear hb6
  have kVa0 := Va.out.c0
  have kVa1 := Va.out.c1
  go_wp2_with fail
  refine (HL2.out _ _ _ _ _ LL.out L2.out).mono ?_
  rintro e x7 ⟨rfl, hb7⟩
  clear kVa0 kVa1
  have Va' := Lib.hid (Va.out.on hb7)
  clear Va
  have Va := Va'
  clear Va'
  have DD' := Lib.hid (DD.out.on hb7)
  clear DD
  have DD := DD'
  clear DD'
  have LL' := Lib.hid (LL.out.on hb7)
  clear LL
  have LL := LL'
  clear LL'
  have TA' := Lib.hid (TA.out.on hb7)
  clear TA
  have TA := TA'
  clear TA'
  have L2' := Lib.hid (L2.out.on hb7)
  clear L2
  have L2 := L2'
  clear L2'
  have HB' := Lib.hid (HB.out.trans (hb7.mono HB.out.size))
  clear HB
  have HB := HB'
  clear HB'
  clear hb7
  have kVa0 := Va.out.c0
  have kVa1 := Va.out.c1
  go_wp2_with fail
  refine (HU.out _ Va.out.arg).mono ?_
  rintro e x8 ⟨rfl, hb8⟩
  clear kVa0 kVa1
  have Va' := Lib.hid (Va.out.on hb8)
  clear Va
  have Va := Va'
  clear Va'
  have DD' := Lib.hid (DD.out.on hb8)
  clear DD
  have DD := DD'
  clear DD'
  have LL' := Lib.hid (LL.out.on hb8)
  clear LL
  have LL := LL'
  clear LL'
  have TA' := Lib.hid (TA.out.on hb8)
  clear TA
  have TA := TA'
  clear TA'
  have L2' := Lib.hid (L2.out.on hb8)
  clear L2
  have L2 := L2'
  clear L2'
  have HB' := Lib.hid (HB.out.trans (hb8.mono HB.out.size))
  clear HB
  have HB := HB'
  clear HB'
  clear hb8
  go_wp2_with fail
  refine (HSU.out _ _ _ TA.out).mono ?_
  rintro e x9 ⟨rfl, hb9⟩
  have Va' := Lib.hid (Va.out.on hb9)
  clear Va
  have Va := Va'
  clear Va'
  have DD' := Lib.hid (DD.out.on hb9)
  clear DD
  have DD := DD'
  clear DD'
  have LL' := Lib.hid (LL.out.on hb9)
  clear LL
  have LL := LL'
  clear LL'
  have TA' := Lib.hid (TA.out.on hb9)
  clear TA
  have TA := TA'
  clear TA'
  have L2' := Lib.hid (L2.out.on hb9)
  clear L2
  have L2 := L2'
  clear L2'
  have HB' := Lib.hid (HB.out.trans (hb9.mono HB.out.size))
  clear HB
  have HB := HB'
  clear HB'
  clear hb9
  go_wp2_with fail
  go_ret
  exact ⟨rfl, HB.out⟩
set_option maxRecDepth 100000 in
set_option maxHeartbeats 8000000 in
theorem srg_in (n x : Nat) (A1 : Option Addr) (l1 c1 : Nat) (ws1 : List Nat) (w : World) (h1 : SetArg w (n : Nat) A1 l1 c1 ws1) (hD : DB w) (hg1 : greatB (n : Nat) l1 = false) (ok : SOk n ws1) (hx : x < 2 ^ n) :
    Calls Tryd.prog 6 #[setA (n : Nat) A1 l1 c1, .int .i64 (x : Nat)] w fun e w' => e = .returned (.bool true) ∧ Below w.heap.size w w' := by
  have HAV := Lib.hid (fun W => alive5_any W)
  have HG1 := Lib.hid (fun W => great_any (n : Nat) A1 l1 c1 W)
  have hg2 : l1 ≤ 8 ∧ ((n : Nat) : Int) ≤ 8 := by unfold greatB at hg1; have := of_decide_eq_false hg1; omega
  rw [hg1] at HG1
  have HM := Lib.hid (fun W (h1 : SetArg W (n : Nat) A1 l1 c1 ws1) => smembers_any (n : Nat) A1 l1 c1 ws1 W h1 (by omega))
  have HH := Lib.hid (fun W (h1 : SetArg W (n : Nat) A1 l1 c1 ws1) => shas_any (n : Nat) (x : Int) A1 l1 c1 ws1 W h1)
  have HC := Lib.hid (fun W (h1 : SetArg W (n : Nat) A1 l1 c1 ws1) => scount_any (n : Nat) A1 l1 c1 ws1 W h1)
  have HU := Lib.hid (fun W (h1 : SetArg W (n : Nat) A1 l1 c1 ws1) => ssupport_any (n : Nat) A1 l1 c1 ws1 W h1)
  have HR1 := Lib.hid (fun W (h1 : SetArg W (n : Nat) A1 l1 c1 ws1) => rright_any (n : Nat) A1 l1 c1 ws1 W h1)
  have HR2 := Lib.hid (fun W (h1 : SetArg W (n : Nat) A1 l1 c1 ws1) => sright_any (n : Nat) A1 l1 c1 ws1 W h1)
  have hn16 := ok.n16
  have hrr : srightB (n : Nat) ws1 = true := (sright_iff ok.lt).2 ⟨by omega, by simpa using ok⟩
  have hpow : 2 ^ n ≤ 256 := Nat.le_trans (Nat.pow_le_pow_right (by omega) (show n ≤ 8 by omega)) (by omega)
  have hmx : (memX (n : Int) ws1).length ≤ 300 := by rw [memX_tab ok]; have := memT_le (tabS n ws1) (2 ^ n); omega
  have HCO := Lib.hid (fun W g base A' c' (hg : Blk W g 24 #[.int .i64 (n : Nat), .slice A' l1 c']) (ho : OwnF U 71 W base (.slice A' l1 c') ws1) (hD : DB W) => scollect_any (n : Nat) A' l1 c' ws1 g base W hg ho h1.hlen h1.lt h1.wf hD hmx)
  rw [hrr] at HR1 HR2
  have HTB := Lib.hid (fun W (h : SetArg W (n : Nat) A1 l1 c1 ws1) => rtable_tab n A1 l1 c1 ws1 W h ok)
  rw [memX_tab ok] at HCO
  rw [countB_tab ok] at HC
  rw [suppI_tab ok] at HU
  have e1 := hasB_in ok hx
  rw [e1] at HH
  have HL2 := Lib.hid (fun W A B c d (ha : RowF NI 0 W W.heap.size A (memT (tabS n ws1) (2 ^ n))) (hb : RowF NI 0 W W.heap.size B (memT (tabS n ws1) (2 ^ n))) => same2_any A B _ _ c d _ _ W rfl rfl (by have := memT_le (tabS n ws1) (2 ^ n); omega) (by have := memT_le (tabS n ws1) (2 ^ n); omega) ha hb)
  rw [decide_eq_true rfl] at HL2
  have HMB := Lib.hid (fun W B c (h : TabArg W B (2 ^ n) c (tabS n ws1)) => rmembers_any B (2 ^ n) c (tabS n ws1) W h)
  have HSU := Lib.hid (fun W B c (h : TabArg W B (2 ^ n) c (tabS n ws1)) => rsupport_any n hn16 B c (tabS n ws1) W h)
  have hml := memT_le (tabS n ws1) (2 ^ n)
  have hsu : supN (tabS n ws1) n < 65536 := Nat.lt_of_lt_of_le (supN_lt _ n) (pow16 hn16)
  have hpos : 0 < 2 ^ n := Nat.two_pow_pos n
  generalize memT (tabS n ws1) (2 ^ n) = L at *
  generalize supN (tabS n ws1) n = su at *
  generalize tabS n ws1 = t at *
  generalize 2 ^ n = N at *
  generalize hlg : L.length = lg at *
  have HLG := Lib.hid hlg
  clear hlg e1 hrr hg1 ok hmx
  generalize htq : tat t x = q at *
  have HTQ := Lib.hid htq
  clear htq
  unfold setA at *
  obtain ⟨W0, hW0⟩ : ∃ W0, W0 = (w.alloc (.cells #[.int .i64 ((n : Nat)), .slice A1 l1 c1] 24)) := ⟨_, rfl⟩
  have hb0 : Below w.heap.size w W0 := by rw [hW0]; exact ((Below.refl _ _).alloc (by simp) (.cells #[.int .i64 ((n : Nat)), .slice A1 l1 c1] 24))
  have hv0 : SetVar W0 (w.heap.size) ((n : Nat)) A1 l1 c1 ws1 := by
    have := SetVar.new h1
    rw [hW0]; exact this
  have HWW := Lib.hid hW0
  have HB := Lib.hid hb0
  have Va := Lib.hid hv0
  clear hb0 hv0 h1 
  have DD := Lib.hid (hD.on HB.out)
  clear hD
  go_enter Tryd.func6, Tryd.ntmps6
  go_wp2_with fail
  rw [← HWW.out]
  clear hW0
  go_wp2_with fail
  refine (HAV.out _).mono ?_
  rintro e x1 ⟨rfl, hb1⟩
  have Va' := Lib.hid (Va.out.on hb1)
  clear Va
  have Va := Va'
  clear Va'
  have DD' := Lib.hid (DD.out.on hb1)
  clear DD
  have DD := DD'
  clear DD'
  have HB' := Lib.hid (HB.out.trans (hb1.mono HB.out.size))
  clear HB
  have HB := HB'
  clear HB'
  clear hb1
  have kVa0 := Va.out.c0
  have kVa1 := Va.out.c1
  go_wp2_with fail
  refine (HG1.out _).mono ?_
  rintro e x2 ⟨rfl, hb2⟩
  clear kVa0 kVa1
  have Va' := Lib.hid (Va.out.on hb2)
  clear Va
  have Va := Va'
  clear Va'
  have DD' := Lib.hid (DD.out.on hb2)
  clear DD
  have DD := DD'
  clear DD'
  have HB' := Lib.hid (HB.out.trans (hb2.mono HB.out.size))
  clear HB
  have HB := HB'
  clear HB'
  clear hb2
  have kVa0 := Va.out.c0
  have kVa1 := Va.out.c1
  go_wp2_with fail
  refine (HR1.out _ Va.out.arg).mono ?_
  rintro e x3 ⟨rfl, hb3⟩
  clear kVa0 kVa1
  have Va' := Lib.hid (Va.out.on hb3)
  clear Va
  have Va := Va'
  clear Va'
  have DD' := Lib.hid (DD.out.on hb3)
  clear DD
  have DD := DD'
  clear DD'
  have HB' := Lib.hid (HB.out.trans (hb3.mono HB.out.size))
  clear HB
  have HB := HB'
  clear HB'
  clear hb3
  have kVa0 := Va.out.c0
  have kVa1 := Va.out.c1
  go_wp2_with fail
  refine (HR2.out _ Va.out.arg).mono ?_
  rintro e x4 ⟨rfl, hb4⟩
  clear kVa0 kVa1
  have Va' := Lib.hid (Va.out.on hb4)
  clear Va
  have Va := Va'
  clear Va'
  have DD' := Lib.hid (DD.out.on hb4)
  clear DD
  have DD := DD'
  clear DD'
  have HB' := Lib.hid (HB.out.trans (hb4.mono HB.out.size))
  clear HB
  have HB := HB'
  clear HB'
  clear hb4
  have kVa0 := Va.out.c0
  have kVa1 := Va.out.c1
  go_wp2_with fail
  refine (HM.out _ Va.out.arg).mono ?_
  rintro e xm ⟨A', c', rfl, hbk, hown, hbm⟩
  clear kVa0 kVa1
  have Va' := Lib.hid (Va.out.on hbm)
  clear Va
  have Va := Va'
  clear Va'
  have DD' := Lib.hid (DD.out.on hbm)
  clear DD
  have DD := DD'
  clear DD'
  have HB' := Lib.hid (HB.out.trans (hbm.mono HB.out.size))
  clear HB
  have HB := HB'
  clear HB'
  clear hbm
  have kVa0 := Va.out.c0
  have kVa1 := Va.out.c1
  go_wp2_with fail
  refine (HCO.out _ _ _ A' c' hbk hown DD.out).mono ?_
  rintro e xc ⟨B, d, rfl, hol, hbc⟩
  clear kVa0 kVa1
  have Va' := Lib.hid (Va.out.on hbc)
  clear Va
  have Va := Va'
  clear Va'
  have DD' := Lib.hid (DD.out.on hbc)
  clear DD
  have DD := DD'
  clear DD'
  have HB' := Lib.hid (HB.out.trans (hbc.mono HB.out.size))
  clear HB
  have HB := HB'
  clear HB'
  have LL := Lib.hid (hol.rows (d := 0))
  clear hbc hol hbk hown
  have kVa0 := Va.out.c0
  have kVa1 := Va.out.c1
  go_wp2_with fail
  refine (HTB.out _ Va.out.arg).mono ?_
  rintro e xt ⟨B2, d2, rfl, ht, hbt⟩
  clear kVa0 kVa1
  have Va' := Lib.hid (Va.out.on hbt)
  clear Va
  have Va := Va'
  clear Va'
  have DD' := Lib.hid (DD.out.on hbt)
  clear DD
  have DD := DD'
  clear DD'
  have LL' := Lib.hid (LL.out.on hbt)
  clear LL
  have LL := LL'
  clear LL'
  have HB' := Lib.hid (HB.out.trans (hbt.mono HB.out.size))
  clear HB
  have HB := HB'
  clear HB'
  have TA := Lib.hid ht
  clear hbt ht
  have kVa0 := Va.out.c0
  have kVa1 := Va.out.c1
  obtain ⟨bt, ot, rfl, hbt0, hct⟩ := TA.out.val hpos
  have kt := hct _ x (Below.refl _ _) hx
  rw [HTQ.out] at kt
  clear hct
  have hmi : min (x : Int) ((N : Int) - 1) = (x : Int) := by omega
  have hma : max (0 : Int) (x : Int) = (x : Int) := by omega
  go_wp2_with fail
  refine (HMB.out _ _ _ TA.out).mono ?_
  rintro e xl ⟨B3, d3, rfl, hol, hbt⟩
  clear kVa0 kVa1
  have Va' := Lib.hid (Va.out.on hbt)
  clear Va
  have Va := Va'
  clear Va'
  have DD' := Lib.hid (DD.out.on hbt)
  clear DD
  have DD := DD'
  clear DD'
  have LL' := Lib.hid (LL.out.on hbt)
  clear LL
  have LL := LL'
  clear LL'
  have TA' := Lib.hid (TA.out.on hbt)
  clear TA
  have TA := TA'
  clear TA'
  have HB' := Lib.hid (HB.out.trans (hbt.mono HB.out.size))
  clear HB
  have HB := HB'
  clear HB'
  have L2 := Lib.hid (hol.rows (d := 0))
  clear hbt hol kt
  have kVa0 := Va.out.c0
  have kVa1 := Va.out.c1
  simp only [HLG.out]
  go_wp2_with fail
  refine (HH.out _ Va.out.arg).mono ?_
  rintro e x5 ⟨rfl, hb5⟩
  clear kVa0 kVa1
  have Va' := Lib.hid (Va.out.on hb5)
  clear Va
  have Va := Va'
  clear Va'
  have DD' := Lib.hid (DD.out.on hb5)
  clear DD
  have DD := DD'
  clear DD'
  have LL' := Lib.hid (LL.out.on hb5)
  clear LL
  have LL := LL'
  clear LL'
  have TA' := Lib.hid (TA.out.on hb5)
  clear TA
  have TA := TA'
  clear TA'
  have L2' := Lib.hid (L2.out.on hb5)
  clear L2
  have L2 := L2'
  clear L2'
  have HB' := Lib.hid (HB.out.trans (hb5.mono HB.out.size))
  clear HB
  have HB := HB'
  clear HB'
  clear hb5
  have kVa0 := Va.out.c0
  have kVa1 := Va.out.c1
  cases q
  all_goals
    go_wp2_with fail
    refine (HC.out _ Va.out.arg).mono ?_
    rintro e x6 ⟨rfl, hb6⟩
    clear kVa0 kVa1
    have Va' := Lib.hid (Va.out.on hb6)
    clear Va
    have Va := Va'
    clear Va'
    have DD' := Lib.hid (DD.out.on hb6)
    clear DD
    have DD := DD'
    clear DD'
    have LL' := Lib.hid (LL.out.on hb6)
    clear LL
    have LL := LL'
    clear LL'
    have TA' := Lib.hid (TA.out.on hb6)
    clear TA
    have TA := TA'
    clear TA'
    have L2' := Lib.hid (L2.out.on hb6)
    clear L2
    have L2 := L2'
    clear L2'
    have HB' := Lib.hid (HB.out.trans (hb6.mono HB.out.size))
    clear HB
    have HB := HB'
    clear HB'
    clear hb6
    have kVa0 := Va.out.c0
    have kVa1 := Va.out.c1
    go_wp2_with fail
    refine (HL2.out _ _ _ _ _ LL.out L2.out).mono ?_
    rintro e x7 ⟨rfl, hb7⟩
    clear kVa0 kVa1
    have Va' := Lib.hid (Va.out.on hb7)
    clear Va
    have Va := Va'
    clear Va'
    have DD' := Lib.hid (DD.out.on hb7)
    clear DD
    have DD := DD'
    clear DD'
    have LL' := Lib.hid (LL.out.on hb7)
    clear LL
    have LL := LL'
    clear LL'
    have TA' := Lib.hid (TA.out.on hb7)
    clear TA
    have TA := TA'
    clear TA'
    have L2' := Lib.hid (L2.out.on hb7)
    clear L2
    have L2 := L2'
    clear L2'
    have HB' := Lib.hid (HB.out.trans (hb7.mono HB.out.size))
    clear HB
    have HB := HB'
    clear HB'
    clear hb7
    have kVa0 := Va.out.c0
    have kVa1 := Va.out.c1
    go_wp2_with fail
    refine (HU.out _ Va.out.arg).mono ?_
    rintro e x8 ⟨rfl, hb8⟩
    clear kVa0 kVa1
    have Va' := Lib.hid (Va.out.on hb8)
    clear Va
    have Va := Va'
    clear Va'
    have DD' := Lib.hid (DD.out.on hb8)
    clear DD
    have DD := DD'
    clear DD'
    have LL' := Lib.hid (LL.out.on hb8)
    clear LL
    have LL := LL'
    clear LL'
    have TA' := Lib.hid (TA.out.on hb8)
    clear TA
    have TA := TA'
    clear TA'
    have L2' := Lib.hid (L2.out.on hb8)
    clear L2
    have L2 := L2'
    clear L2'
    have HB' := Lib.hid (HB.out.trans (hb8.mono HB.out.size))
    clear HB
    have HB := HB'
    clear HB'
    clear hb8
    go_wp2_with fail
    refine (HSU.out _ _ _ TA.out).mono ?_
    rintro e x9 ⟨rfl, hb9⟩
    have Va' := Lib.hid (Va.out.on hb9)
    clear Va
    have Va := Va'
    clear Va'
    have DD' := Lib.hid (DD.out.on hb9)
    clear DD
    have DD := DD'
    clear DD'
    have LL' := Lib.hid (LL.out.on hb9)
    clear LL
    have LL := LL'
    clear LL'
    have TA' := Lib.hid (TA.out.on hb9)
    clear TA
    have TA := TA'
    clear TA'
    have L2' := Lib.hid (L2.out.on hb9)
    clear L2
    have L2 := L2'
    clear L2'
    have HB' := Lib.hid (HB.out.trans (hb9.mono HB.out.size))
    clear HB
    have HB := HB'
    clear HB'
    clear hb9
    go_wp2_with fail
    go_ret
    exact ⟨rfl, HB.out⟩
theorem srights_walk (m1 : Int) (A1 : Option Addr) (l1 c1 : Nat) (ws1 : List Nat) (x : Int) (w : World) (h1 : SetArg w m1 A1 l1 c1 ws1) (hx : (Lit.int .i64 x).wf = true) (hD : DB w) :
    Calls Tryd.prog 6 #[.agg #[.int .i64 m1, .slice A1 l1 c1], .int .i64 x] w fun e w' => e = .returned (.bool true) ∧ Below w.heap.size w w' := by
  cases hg1 : greatB m1 l1
  case true => exact srg_great m1 x A1 l1 c1 ws1 w h1 hD hg1
  cases hr : srightB m1 ws1
  case false => exact srg_no m1 x A1 l1 c1 ws1 w h1 hD hg1 hr
  obtain ⟨n, rfl, ok⟩ := sright_nat h1.lt hr
  by_cases h0 : x < 0
  · exact srg_neg n x A1 l1 c1 ws1 w h1 hD hg1 ok h0
  · by_cases hN : (2 ^ n : Nat) ≤ x
    · exact srg_big n x A1 l1 c1 ws1 w h1 hD hg1 ok h0 hN
    · obtain ⟨y, rfl⟩ := Int.eq_ofNat_of_zero_le (a := x) (by omega)
      exact srg_in n y A1 l1 c1 ws1 w h1 hD hg1 ok (by omega)
end Go.Proofs.YtpbpjihdaghiaaaDoor
