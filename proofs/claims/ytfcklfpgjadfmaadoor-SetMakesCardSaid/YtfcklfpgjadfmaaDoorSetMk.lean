/- SetMakes: the walk. -/
import Derived.Test.YtfcklfpgjadfmaaDoorSetZ
import Derived.Deep.DeepCutAuto
namespace Go.Proofs.YtfcklfpgjadfmaaDoor
open Go.RowKit Go.Sort
set_option linter.unusedSimpArgs false
set_option linter.unusedVariables false

theorem snothing_ans (n : Nat) (hn : n ≤ 16) (w : World) : Calls Tryd.prog 26 #[.int .i64 (n : Nat)] w (SetAns w n 0 (List.replicate (2 ^ n) false)) :=
  (snothing_any n hn w).mono fun _ _ h => h.ans (fill_ok hn (.inl rfl)) (by simp) fun x hx => by rw [none_bit, List.getElem?_replicate, if_pos hx]; rfl
theorem sall_ans (n : Nat) (hn : n ≤ 16) (w : World) : Calls Tryd.prog 27 #[.int .i64 (n : Nat)] w (SetAns w n 0 ((List.range (2 ^ n)).map fun _ => true)) :=
  (sall_any n hn w).mono fun _ _ h => h.ans (fill_ok hn (.inr rfl)) (by simp) fun x hx => by rw [all_bit hx, List.getElem?_map, List.getElem?_range hx]; rfl
theorem ssingle_ans (n v : Nat) (hn : n ≤ 16) (hv : v < n) (w : World) : Calls Tryd.prog 29 #[.int .i64 (n : Nat), .int .i64 (v : Nat)] w (SetAns w n 0 ((List.range (2 ^ n)).map fun x => x.testBit v)) :=
  (ssingle2_any n v hn hv w).mono fun _ _ h => h.ans (sing_ok hn hv) (by simp) fun x hx => by rw [sing_bit hv hx, List.getElem?_map, List.getElem?_range hx]; rfl
open Classical in
theorem sof_ans (n : Nat) (hn : n ≤ 16) (A : Option Addr) (len c : Nat) (l : List Int) (w : World) (h : IntsArg w A len c l) :
    Calls Tryd.prog 28 #[.int .i64 (n : Nat), .slice A len c] w (SetAns w n (if allIn n l then 0 else 1) (memB (2 ^ n) l)) := by
  refine (sof_any n hn A len c l w h).mono fun e w' hp => ?_
  rcases hp with ⟨hi, hr⟩ | ⟨hi, hr⟩
  · rw [if_pos hi]
    have hl : ∀ x ∈ l.map Int.toNat, x < 2 ^ n := fun x hx => by
      obtain ⟨y, hy, rfl⟩ := List.mem_map.1 hx
      have := hi y hy
      omega
    refine hr.ans (ofL_ok hn hl) (memB_length _ _) fun x hx => ?_
    rw [ofL_bit _ _ (fun y hy => idx_lt (hl y hy))]
    unfold memB
    rw [List.getElem?_map, List.getElem?_range hx]
    show _ = decide _
    rw [decide_eq_decide, List.mem_map]
    constructor
    · rintro ⟨y, hy, rfl⟩
      have := hi y hy
      rwa [Int.toNat_of_nonneg this.1]
    · intro hm
      exact ⟨_, hm, by omega⟩
  · rw [if_neg hi]
    exact hr.ans (by omega) (by omega) n _
/-- the calls of the answers, one behind the other -/
theorem SetAns.step {w : World} {n : Nat} {code : Int} {t : List Bool} {P : World → Prop} {e : Ending} {w' : World} (h : SetAns w n code t e w') : SetAns w n code t e w' := h
set_option maxRecDepth 100000 in
set_option maxHeartbeats 4000000 in
/-- a number of variables out of range -/
theorem smakes_no (n v : Int) (A : Option Addr) (len c : Nat) (l : List Int) (w : World) (h : IntsArg w A len c l) (hn : n < 0 ∨ 16 < n) (hl50 : len ≤ 50) :
    Calls Tryd.prog 6 #[.int .i64 n, .int .i64 v, .slice A len c] w fun e w' => e = .returned (.bool true) ∧ Below w.heap.size w w' := by
  have hn' : ¬ (0 ≤ n ∧ n ≤ 16) := by omega
  have H1 := Lib.hid (fun W => (snothing_no n hn' W).mono fun _ _ h => h.ans (by omega) (by omega) 0 [])
  have H2 := Lib.hid (fun W => (sall_no n hn' W).mono fun _ _ h => h.ans (by omega) (by omega) 0 [])
  have H3 := Lib.hid (fun W => (sof_no n hn' A len c W).mono fun _ _ h => h.ans (by omega) (by omega) 0 [])
  have H4 := Lib.hid (fun W => (ssingle2_no n v (by omega) W).mono fun _ _ h => h.ans (by omega) (by omega) 0 [])
  have HAV := Lib.hid (fun W => alive5_any W)
  have HT := Lib.hid (fun W m A len c ws er (h1 : SetArg W m A len c ws) (h2 : Ans 0 3 [] m len ws er) => told_ans (B := none) (l2 := 0) (c2 := 0) h1 h2 (by intro h; cases h))
  have hlen : ¬ (50 : Int) < (len : Int) := by omega
  unfold SetAns at *
  clear h hn'
  go_enter Tryd.func6, Tryd.ntmps6
  go_wp2_with fail
  refine (HAV.out _).mono ?_
  rintro e w1 ⟨rfl, hb1⟩
  have HB := Lib.hid hb1
  clear hb1
  have hx : decide (8 < n) = false ∨ decide (n ≤ 16) = false := by rcases hn with hn | hn; exact .inl (decide_eq_false (by omega)); exact .inr (decide_eq_false (by omega))
  have hy : n < 0 ∨ (¬ n < 0 ∧ 16 < n ∧ 8 < n) := by omega
  rcases hy with hn | ⟨hn0, hn, hn8⟩
  · have hx1 : ¬ 8 < n := by omega
    go_wp2_with fail
    refine (H1.out _).mono ?_
    rintro e x1 ⟨m1, A1, l1, c1, ws1, e1, rfl, ha1, hb1, hp1⟩
    have HB' := Lib.hid (HB.out.trans (hb1.mono HB.out.size))
    clear HB
    have HB := HB'
    clear HB'
    have HB' := Lib.hid (below_new HB.out (Nat.le_refl _) (.cells #[.int .i64 m1, .slice A1 l1 c1] 43))
    clear HB
    have HB := HB'
    clear HB'
    have V1 := Lib.hid (SetVar.new ha1)
    have P1 := Lib.hid hp1
    clear ha1 hb1 hp1
    go_wp2_with fail
    refine (H2.out _).mono ?_
    rintro e x2 ⟨m2, A2, l2, c2, ws2, e2, rfl, ha2, hb2, hp2⟩
    have V1' := Lib.hid (V1.out.on hb2)
    clear V1
    have V1 := V1'
    clear V1'
    have HB' := Lib.hid (HB.out.trans (hb2.mono HB.out.size))
    clear HB
    have HB := HB'
    clear HB'
    have V1' := Lib.hid (V1.out.alloc (.cells #[.int .i64 m2, .slice A2 l2 c2] 43))
    clear V1
    have V1 := V1'
    clear V1'
    have HB' := Lib.hid (below_new HB.out (Nat.le_refl _) (.cells #[.int .i64 m2, .slice A2 l2 c2] 43))
    clear HB
    have HB := HB'
    clear HB'
    have V2 := Lib.hid (SetVar.new ha2)
    have P2 := Lib.hid hp2
    clear ha2 hb2 hp2
    go_wp2_with fail
    refine (H3.out _).mono ?_
    rintro e x3 ⟨m3, A3, l3, c3, ws3, e3, rfl, ha3, hb3, hp3⟩
    have V1' := Lib.hid (V1.out.on hb3)
    clear V1
    have V1 := V1'
    clear V1'
    have V2' := Lib.hid (V2.out.on hb3)
    clear V2
    have V2 := V2'
    clear V2'
    have HB' := Lib.hid (HB.out.trans (hb3.mono HB.out.size))
    clear HB
    have HB := HB'
    clear HB'
    have V1' := Lib.hid (V1.out.alloc (.cells #[.int .i64 m3, .slice A3 l3 c3] 43))
    clear V1
    have V1 := V1'
    clear V1'
    have V2' := Lib.hid (V2.out.alloc (.cells #[.int .i64 m3, .slice A3 l3 c3] 43))
    clear V2
    have V2 := V2'
    clear V2'
    have HB' := Lib.hid (below_new HB.out (Nat.le_refl _) (.cells #[.int .i64 m3, .slice A3 l3 c3] 43))
    clear HB
    have HB := HB'
    clear HB'
    have V3 := Lib.hid (SetVar.new ha3)
    have P3 := Lib.hid hp3
    clear ha3 hb3 hp3
    go_wp2_with fail
    refine (H4.out _).mono ?_
    rintro e x4 ⟨m4, A4, l4, c4, ws4, e4, rfl, ha4, hb4, hp4⟩
    have V1' := Lib.hid (V1.out.on hb4)
    clear V1
    have V1 := V1'
    clear V1'
    have V2' := Lib.hid (V2.out.on hb4)
    clear V2
    have V2 := V2'
    clear V2'
    have V3' := Lib.hid (V3.out.on hb4)
    clear V3
    have V3 := V3'
    clear V3'
    have HB' := Lib.hid (HB.out.trans (hb4.mono HB.out.size))
    clear HB
    have HB := HB'
    clear HB'
    have V1' := Lib.hid (V1.out.alloc (.cells #[.int .i64 m4, .slice A4 l4 c4] 43))
    clear V1
    have V1 := V1'
    clear V1'
    have V2' := Lib.hid (V2.out.alloc (.cells #[.int .i64 m4, .slice A4 l4 c4] 43))
    clear V2
    have V2 := V2'
    clear V2'
    have V3' := Lib.hid (V3.out.alloc (.cells #[.int .i64 m4, .slice A4 l4 c4] 43))
    clear V3
    have V3 := V3'
    clear V3'
    have HB' := Lib.hid (below_new HB.out (Nat.le_refl _) (.cells #[.int .i64 m4, .slice A4 l4 c4] 43))
    clear HB
    have HB := HB'
    clear HB'
    have V4 := Lib.hid (SetVar.new ha4)
    have P4 := Lib.hid hp4
    clear ha4 hb4 hp4
    have k1a := V1.out.c0
    have k1b := V1.out.c1
    go_wp2_with fail
    refine (HT.out _ _ _ _ _ _ _ V1.out.arg P1.out).mono ?_
    rintro e x5 ⟨rfl, hb5⟩
    have V1' := Lib.hid (V1.out.on hb5)
    clear V1
    have V1 := V1'
    clear V1'
    have V2' := Lib.hid (V2.out.on hb5)
    clear V2
    have V2 := V2'
    clear V2'
    have V3' := Lib.hid (V3.out.on hb5)
    clear V3
    have V3 := V3'
    clear V3'
    have V4' := Lib.hid (V4.out.on hb5)
    clear V4
    have V4 := V4'
    clear V4'
    have HB' := Lib.hid (HB.out.trans (hb5.mono HB.out.size))
    clear HB
    have HB := HB'
    clear HB'
    clear hb5
    have k2a := V2.out.c0
    have k2b := V2.out.c1
    go_wp2_with fail
    refine (HT.out _ _ _ _ _ _ _ V2.out.arg P2.out).mono ?_
    rintro e x6 ⟨rfl, hb6⟩
    have V1' := Lib.hid (V1.out.on hb6)
    clear V1
    have V1 := V1'
    clear V1'
    have V2' := Lib.hid (V2.out.on hb6)
    clear V2
    have V2 := V2'
    clear V2'
    have V3' := Lib.hid (V3.out.on hb6)
    clear V3
    have V3 := V3'
    clear V3'
    have V4' := Lib.hid (V4.out.on hb6)
    clear V4
    have V4 := V4'
    clear V4'
    have HB' := Lib.hid (HB.out.trans (hb6.mono HB.out.size))
    clear HB
    have HB := HB'
    clear HB'
    clear hb6
    have k3a := V3.out.c0
    have k3b := V3.out.c1
    go_wp2_with fail
    refine (HT.out _ _ _ _ _ _ _ V3.out.arg P3.out).mono ?_
    rintro e x7 ⟨rfl, hb7⟩
    have V1' := Lib.hid (V1.out.on hb7)
    clear V1
    have V1 := V1'
    clear V1'
    have V2' := Lib.hid (V2.out.on hb7)
    clear V2
    have V2 := V2'
    clear V2'
    have V3' := Lib.hid (V3.out.on hb7)
    clear V3
    have V3 := V3'
    clear V3'
    have V4' := Lib.hid (V4.out.on hb7)
    clear V4
    have V4 := V4'
    clear V4'
    have HB' := Lib.hid (HB.out.trans (hb7.mono HB.out.size))
    clear HB
    have HB := HB'
    clear HB'
    clear hb7
    have k4a := V4.out.c0
    have k4b := V4.out.c1
    go_wp2_with fail
    refine (HT.out _ _ _ _ _ _ _ V4.out.arg P4.out).mono ?_
    rintro e x8 ⟨rfl, hb8⟩
    have V1' := Lib.hid (V1.out.on hb8)
    clear V1
    have V1 := V1'
    clear V1'
    have V2' := Lib.hid (V2.out.on hb8)
    clear V2
    have V2 := V2'
    clear V2'
    have V3' := Lib.hid (V3.out.on hb8)
    clear V3
    have V3 := V3'
    clear V3'
    have V4' := Lib.hid (V4.out.on hb8)
    clear V4
    have V4 := V4'
    clear V4'
    have HB' := Lib.hid (HB.out.trans (hb8.mono HB.out.size))
    clear HB
    have HB := HB'
    clear HB'
    clear hb8
    go_wp2_with fail
    go_ret
    exact ⟨rfl, HB.out⟩
  · go_wp2_with fail
    refine (H1.out _).mono ?_
    rintro e x1 ⟨m1, A1, l1, c1, ws1, e1, rfl, ha1, hb1, hp1⟩
    have HB' := Lib.hid (HB.out.trans (hb1.mono HB.out.size))
    clear HB
    have HB := HB'
    clear HB'
    have HB' := Lib.hid (below_new HB.out (Nat.le_refl _) (.cells #[.int .i64 m1, .slice A1 l1 c1] 43))
    clear HB
    have HB := HB'
    clear HB'
    have V1 := Lib.hid (SetVar.new ha1)
    have P1 := Lib.hid hp1
    clear ha1 hb1 hp1
    go_wp2_with fail
    refine (H2.out _).mono ?_
    rintro e x2 ⟨m2, A2, l2, c2, ws2, e2, rfl, ha2, hb2, hp2⟩
    have V1' := Lib.hid (V1.out.on hb2)
    clear V1
    have V1 := V1'
    clear V1'
    have HB' := Lib.hid (HB.out.trans (hb2.mono HB.out.size))
    clear HB
    have HB := HB'
    clear HB'
    have V1' := Lib.hid (V1.out.alloc (.cells #[.int .i64 m2, .slice A2 l2 c2] 43))
    clear V1
    have V1 := V1'
    clear V1'
    have HB' := Lib.hid (below_new HB.out (Nat.le_refl _) (.cells #[.int .i64 m2, .slice A2 l2 c2] 43))
    clear HB
    have HB := HB'
    clear HB'
    have V2 := Lib.hid (SetVar.new ha2)
    have P2 := Lib.hid hp2
    clear ha2 hb2 hp2
    go_wp2_with fail
    refine (H3.out _).mono ?_
    rintro e x3 ⟨m3, A3, l3, c3, ws3, e3, rfl, ha3, hb3, hp3⟩
    have V1' := Lib.hid (V1.out.on hb3)
    clear V1
    have V1 := V1'
    clear V1'
    have V2' := Lib.hid (V2.out.on hb3)
    clear V2
    have V2 := V2'
    clear V2'
    have HB' := Lib.hid (HB.out.trans (hb3.mono HB.out.size))
    clear HB
    have HB := HB'
    clear HB'
    have V1' := Lib.hid (V1.out.alloc (.cells #[.int .i64 m3, .slice A3 l3 c3] 43))
    clear V1
    have V1 := V1'
    clear V1'
    have V2' := Lib.hid (V2.out.alloc (.cells #[.int .i64 m3, .slice A3 l3 c3] 43))
    clear V2
    have V2 := V2'
    clear V2'
    have HB' := Lib.hid (below_new HB.out (Nat.le_refl _) (.cells #[.int .i64 m3, .slice A3 l3 c3] 43))
    clear HB
    have HB := HB'
    clear HB'
    have V3 := Lib.hid (SetVar.new ha3)
    have P3 := Lib.hid hp3
    clear ha3 hb3 hp3
    go_wp2_with fail
    refine (H4.out _).mono ?_
    rintro e x4 ⟨m4, A4, l4, c4, ws4, e4, rfl, ha4, hb4, hp4⟩
    have V1' := Lib.hid (V1.out.on hb4)
    clear V1
    have V1 := V1'
    clear V1'
    have V2' := Lib.hid (V2.out.on hb4)
    clear V2
    have V2 := V2'
    clear V2'
    have V3' := Lib.hid (V3.out.on hb4)
    clear V3
    have V3 := V3'
    clear V3'
    have HB' := Lib.hid (HB.out.trans (hb4.mono HB.out.size))
    clear HB
    have HB := HB'
    clear HB'
    have V1' := Lib.hid (V1.out.alloc (.cells #[.int .i64 m4, .slice A4 l4 c4] 43))
    clear V1
    have V1 := V1'
    clear V1'
    have V2' := Lib.hid (V2.out.alloc (.cells #[.int .i64 m4, .slice A4 l4 c4] 43))
    clear V2
    have V2 := V2'
    clear V2'
    have V3' := Lib.hid (V3.out.alloc (.cells #[.int .i64 m4, .slice A4 l4 c4] 43))
    clear V3
    have V3 := V3'
    clear V3'
    have HB' := Lib.hid (below_new HB.out (Nat.le_refl _) (.cells #[.int .i64 m4, .slice A4 l4 c4] 43))
    clear HB
    have HB := HB'
    clear HB'
    have V4 := Lib.hid (SetVar.new ha4)
    have P4 := Lib.hid hp4
    clear ha4 hb4 hp4
    have k1a := V1.out.c0
    have k1b := V1.out.c1
    go_wp2_with fail
    refine (HT.out _ _ _ _ _ _ _ V1.out.arg P1.out).mono ?_
    rintro e x5 ⟨rfl, hb5⟩
    have V1' := Lib.hid (V1.out.on hb5)
    clear V1
    have V1 := V1'
    clear V1'
    have V2' := Lib.hid (V2.out.on hb5)
    clear V2
    have V2 := V2'
    clear V2'
    have V3' := Lib.hid (V3.out.on hb5)
    clear V3
    have V3 := V3'
    clear V3'
    have V4' := Lib.hid (V4.out.on hb5)
    clear V4
    have V4 := V4'
    clear V4'
    have HB' := Lib.hid (HB.out.trans (hb5.mono HB.out.size))
    clear HB
    have HB := HB'
    clear HB'
    clear hb5
    have k2a := V2.out.c0
    have k2b := V2.out.c1
    go_wp2_with fail
    refine (HT.out _ _ _ _ _ _ _ V2.out.arg P2.out).mono ?_
    rintro e x6 ⟨rfl, hb6⟩
    have V1' := Lib.hid (V1.out.on hb6)
    clear V1
    have V1 := V1'
    clear V1'
    have V2' := Lib.hid (V2.out.on hb6)
    clear V2
    have V2 := V2'
    clear V2'
    have V3' := Lib.hid (V3.out.on hb6)
    clear V3
    have V3 := V3'
    clear V3'
    have V4' := Lib.hid (V4.out.on hb6)
    clear V4
    have V4 := V4'
    clear V4'
    have HB' := Lib.hid (HB.out.trans (hb6.mono HB.out.size))
    clear HB
    have HB := HB'
    clear HB'
    clear hb6
    have k3a := V3.out.c0
    have k3b := V3.out.c1
    go_wp2_with fail
    refine (HT.out _ _ _ _ _ _ _ V3.out.arg P3.out).mono ?_
    rintro e x7 ⟨rfl, hb7⟩
    have V1' := Lib.hid (V1.out.on hb7)
    clear V1
    have V1 := V1'
    clear V1'
    have V2' := Lib.hid (V2.out.on hb7)
    clear V2
    have V2 := V2'
    clear V2'
    have V3' := Lib.hid (V3.out.on hb7)
    clear V3
    have V3 := V3'
    clear V3'
    have V4' := Lib.hid (V4.out.on hb7)
    clear V4
    have V4 := V4'
    clear V4'
    have HB' := Lib.hid (HB.out.trans (hb7.mono HB.out.size))
    clear HB
    have HB := HB'
    clear HB'
    clear hb7
    have k4a := V4.out.c0
    have k4b := V4.out.c1
    go_wp2_with fail
    refine (HT.out _ _ _ _ _ _ _ V4.out.arg P4.out).mono ?_
    rintro e x8 ⟨rfl, hb8⟩
    have V1' := Lib.hid (V1.out.on hb8)
    clear V1
    have V1 := V1'
    clear V1'
    have V2' := Lib.hid (V2.out.on hb8)
    clear V2
    have V2 := V2'
    clear V2'
    have V3' := Lib.hid (V3.out.on hb8)
    clear V3
    have V3 := V3'
    clear V3'
    have V4' := Lib.hid (V4.out.on hb8)
    clear V4
    have V4 := V4'
    clear V4'
    have HB' := Lib.hid (HB.out.trans (hb8.mono HB.out.size))
    clear HB
    have HB := HB'
    clear HB'
    clear hb8
    go_wp2_with fail
    go_ret
    exact ⟨rfl, HB.out⟩
end Go.Proofs.YtfcklfpgjadfmaaDoor
