/- Contracts: set.asked, With (exported). -/
import Derived.Test.YtdhfpnbpkbelmaaDoorSetW
import Derived.Test.YtdhfpnbpkbelmaaDoorSetW0
import Derived.Test.YtdhfpnbpkbelmaaDoorSetW1
namespace Go.Proofs.YtdhfpnbpkbelmaaDoor
open Go.RowKit Go.Sort
set_option linter.unusedSimpArgs false
set_option linter.unusedVariables false

theorem swith_any (n v : Nat) (hv : v < n) (one : Bool) (A : Option Addr) (len c : Nat) (ws : List Nat) (w : World) (h : SetArg w n A len c ws) (hok : SOk n ws) :
    Calls Tryd.prog 55 #[setA n A len c, .int .i64 (v : Nat), .bool one] w (SetRes w n ((List.range (wordsN n)).map (withW n v one ws))) := by
  by_cases h6 : 6 ≤ v
  · exact swith_big n v hv one h6 A len c ws w h hok
  · cases one
    · exact swith_zero n v hv h6 A len c ws w h hok
    · exact swith_one n v hv h6 A len c ws w h hok
def askC (m : Int) (ws : List Nat) (v : Int) : Int := if srightB m ws then (if 0 ≤ v ∧ v < m then 0 else 3) else 1
set_option maxRecDepth 100000 in
set_option maxHeartbeats 8000000 in
theorem sasked_any (m v : Int) (A : Option Addr) (len c : Nat) (ws : List Nat) (w : World) (h : SetArg w m A len c ws) :
    Calls Tryd.prog 54 #[setA m A len c, .int .i64 v] w fun e w' => e = .returned (.int .u8 (askC m ws v)) ∧ Below w.heap.size w w' := by
  have HR := Lib.hid (fun W' (h : SetArg W' m A len c ws) => sright_any m A len c ws W' h)
  have hc : (askC m ws v = 1 ∧ srightB m ws = false) ∨ (askC m ws v = 3 ∧ srightB m ws = true ∧ v < 0) ∨ (askC m ws v = 3 ∧ srightB m ws = true ∧ 0 ≤ v ∧ m ≤ v) ∨ (askC m ws v = 0 ∧ srightB m ws = true ∧ 0 ≤ v ∧ v < m) := by
    unfold askC
    cases srightB m ws
    · exact .inl ⟨rfl, rfl⟩
    · by_cases h0 : 0 ≤ v
      · by_cases h1 : v < m
        · exact .inr (.inr (.inr ⟨by rw [if_pos rfl, if_pos ⟨h0, h1⟩], rfl, h0, h1⟩))
        · exact .inr (.inr (.inl ⟨by rw [if_pos rfl, if_neg (by omega)], rfl, h0, by omega⟩))
      · exact .inr (.inl ⟨by rw [if_pos rfl, if_neg (by omega)], rfl, by omega⟩)
  unfold setA at *
  generalize srightB m ws = r at *
  generalize askC m ws v = q at *
  obtain ⟨W0, hW0⟩ : ∃ W0, W0 = (w.alloc (.cells #[.int .i64 m, .slice A len c] 24)) := ⟨_, rfl⟩
  have hb0 : Below w.heap.size w W0 := by rw [hW0]; exact ((Below.refl _ _).alloc (by simp) (.cells #[.int .i64 m, .slice A len c] 24))
  have hv0 : SetVar W0 (w.heap.size) m A len c ws := by
    have := SetVar.new h
    rw [hW0]; exact this
  have HWW := Lib.hid hW0
  have HB := Lib.hid hb0
  have Va := Lib.hid hv0
  clear hb0 hv0 h 
  rcases hc with ⟨rfl, rfl⟩ | ⟨rfl, rfl, h0⟩ | ⟨rfl, rfl, h0, h1⟩ | ⟨rfl, rfl, h0, h1⟩
  all_goals
    go_enter Tryd.func54, Tryd.ntmps54
    go_wp2_with fail
    rw [← HWW.out]
    clear hW0
    have kVa0 := Va.out.c0
    have kVa1 := Va.out.c1
    go_wp2_with fail
    refine (HR.out _ Va.out.arg).mono ?_
    rintro e x1 ⟨rfl, hb1⟩
    clear kVa0 kVa1
    have Va' := Lib.hid (Va.out.on hb1)
    clear Va
    have Va := Va'
    clear Va'
    have HB' := Lib.hid (HB.out.trans (hb1.mono HB.out.size))
    clear HB
    have HB := HB'
    clear HB'
    clear hb1
    have kVa0 := Va.out.c0
    have kVa1 := Va.out.c1
    go_wp2_with fail
    go_ret
    exact ⟨rfl, HB.out⟩
set_option maxRecDepth 100000 in
set_option maxHeartbeats 8000000 in
theorem sWith_no (m v : Int) (one : Bool) (A : Option Addr) (len c : Nat) (ws : List Nat) (w : World) (h : SetArg w m A len c ws) (hno : askC m ws v ≠ 0) :
    Calls Tryd.prog 13 #[setA m A len c, .int .i64 v, .bool one] w (SetErr w (askC m ws v)) := by
  have HA := Lib.hid (fun W' (h : SetArg W' m A len c ws) => sasked_any m v A len c ws W' h)
  unfold SetErr setA at *
  generalize askC m ws v = q at *
  have hq : (q != 0) = true := by rw [bne_iff_ne]; exact hno
  obtain ⟨W0, hW0⟩ : ∃ W0, W0 = ((w.alloc (.cells #[.int .i64 m, .slice A len c] 24)).alloc (.cells #[.int .i64 0, .slice none 0 0] 24)) := ⟨_, rfl⟩
  have hb0 : Below w.heap.size w W0 := by rw [hW0]; exact (((Below.refl _ _).alloc (by simp) (.cells #[.int .i64 m, .slice A len c] 24)).alloc (by simp) (.cells #[.int .i64 0, .slice none 0 0] 24))
  have hv0 : SetVar W0 (w.heap.size) m A len c ws := by
    have := SetVar.new h
    rw [hW0]; exact (this.alloc _)
  have hv1 : Blk W0 (w.heap.size + 1) 24 #[.int .i64 0, .slice none 0 0] := by
    have := Blk.new (w.alloc (.cells #[.int .i64 m, .slice A len c] 24)) 24 #[.int .i64 0, .slice none 0 0]
    simp only [World.size_alloc] at this
    rw [hW0]; exact this
  have HWW := Lib.hid hW0
  have HB := Lib.hid hb0
  have Va := Lib.hid hv0
  have R := Lib.hid hv1
  clear hb0 hv0 hv1 h hno
  go_enter Tryd.func13, Tryd.ntmps13
  go_wp2_with fail
  rw [← HWW.out]
  clear hW0
  have kVa0 := Va.out.c0
  have kVa1 := Va.out.c1
  go_wp2_with fail
  refine (HA.out _ Va.out.arg).mono ?_
  rintro e x1 ⟨rfl, hb1⟩
  clear kVa0 kVa1
  have Va' := Lib.hid (Va.out.on hb1)
  clear Va
  have Va := Va'
  clear Va'
  have R' := Lib.hid (R.out.onB hb1)
  clear R
  have R := R'
  clear R'
  have HB' := Lib.hid (HB.out.trans (hb1.mono HB.out.size))
  clear HB
  have HB := HB'
  clear HB'
  clear hb1
  have kR0 := R.out.cell 0
  have zR0 := R.out.frozen 0
  have kR1 := R.out.cell 1
  have zR1 := R.out.frozen 1
  go_wp2_with fail
  refine bodyPost_ret (v := .tuple #[.agg #[.int .i64 0, .slice none 0 0], .int .u8 q]) ?_ rfl ⟨rfl, ?_⟩
  · simp [results, Tryd.results13, go_sem, *]
  · first | exact HB.out | exact (HB.out.setCell (by simp only; omega) _).setCell (by simp only; omega) _
set_option maxRecDepth 100000 in
set_option maxHeartbeats 8000000 in
theorem sWith_yes (n v : Nat) (hv : v < n) (one : Bool) (A : Option Addr) (len c : Nat) (ws : List Nat) (w : World) (h : SetArg w n A len c ws) (hok : SOk n ws) :
    Calls Tryd.prog 13 #[setA n A len c, .int .i64 (v : Nat), .bool one] w (SetRes2 w n ((List.range (wordsN n)).map (withW n v one ws))) := by
  have hask : askC n ws v = 0 := by unfold askC; rw [(sright_iff hok.lt).2 ⟨by omega, by simpa using hok⟩, if_pos rfl, if_pos ⟨by omega, by omega⟩]
  have HA := Lib.hid (fun W' (h : SetArg W' n A len c ws) => sasked_any n v A len c ws W' h)
  rw [hask] at HA
  have HX := Lib.hid (fun W' (h : SetArg W' n A len c ws) => swith_any n v hv one A len c ws W' h hok)
  unfold SetRes2 SetRes setV setA at *
  generalize (List.range (wordsN n)).map (withW n v one ws) = rs at *
  generalize wordsN n = m at *
  obtain ⟨W0, hW0⟩ : ∃ W0, W0 = ((w.alloc (.cells #[.int .i64 n, .slice A len c] 24)).alloc (.cells #[.int .i64 0, .slice none 0 0] 24)) := ⟨_, rfl⟩
  have hb0 : Below w.heap.size w W0 := by rw [hW0]; exact (((Below.refl _ _).alloc (by simp) (.cells #[.int .i64 n, .slice A len c] 24)).alloc (by simp) (.cells #[.int .i64 0, .slice none 0 0] 24))
  have hv0 : SetVar W0 (w.heap.size) n A len c ws := by
    have := SetVar.new h
    rw [hW0]; exact (this.alloc _)
  have hv1 : Blk W0 (w.heap.size + 1) 24 #[.int .i64 0, .slice none 0 0] := by
    have := Blk.new (w.alloc (.cells #[.int .i64 n, .slice A len c] 24)) 24 #[.int .i64 0, .slice none 0 0]
    simp only [World.size_alloc] at this
    rw [hW0]; exact this
  have HWW := Lib.hid hW0
  have HB := Lib.hid hb0
  have Va := Lib.hid hv0
  have R := Lib.hid hv1
  clear hb0 hv0 hv1 h hask hok
  go_enter Tryd.func13, Tryd.ntmps13
  go_wp2_with fail
  rw [← HWW.out]
  clear hW0
  have kVa0 := Va.out.c0
  have kVa1 := Va.out.c1
  go_wp2_with fail
  refine (HA.out _ Va.out.arg).mono ?_
  rintro e x1 ⟨rfl, hb1⟩
  clear kVa0 kVa1
  have Va' := Lib.hid (Va.out.on hb1)
  clear Va
  have Va := Va'
  clear Va'
  have R' := Lib.hid (R.out.onB hb1)
  clear R
  have R := R'
  clear R'
  have HB' := Lib.hid (HB.out.trans (hb1.mono HB.out.size))
  clear HB
  have HB := HB'
  clear HB'
  clear hb1
  have kVa0 := Va.out.c0
  have kVa1 := Va.out.c1
  go_wp2_with fail
  refine (HX.out _ Va.out.arg).mono ?_
  rintro e x2 ⟨b, rfl, hb, hown, hl, hb2⟩
  clear kVa0 kVa1
  have HO := Lib.hid hown
  have HL := Lib.hid hl
  have HS := Lib.hid hb
  have HX1 := Lib.hid HB.out.size
  have HRL := Lib.hid R.out.lt
  clear hown hl hb
  have Va' := Lib.hid (Va.out.on hb2)
  clear Va
  have Va := Va'
  clear Va'
  have R' := Lib.hid (R.out.onB hb2)
  clear R
  have R := R'
  clear R'
  have HB' := Lib.hid (HB.out.trans (hb2.mono HB.out.size))
  clear HB
  have HB := HB'
  clear HB'
  clear hb2
  have kR0 := R.out.cell 0
  have zR0 := R.out.frozen 0
  have kR1 := R.out.cell 1
  have zR1 := R.out.frozen 1
  go_wp2_with fail
  refine bodyPost_ret (v := .tuple #[.agg #[.int .i64 (n : Nat), .slice (some ⟨b, 0, none⟩) m m], .int .u8 0]) ?_ rfl ⟨b, rfl, by have := HS.out; have := HX1.out; omega, ?_, HL.out, ?_⟩
  · simp [results, Tryd.results13, go_sem, *]
  · have hb := HS.out; have hs := HX1.out; have hr := HRL.out; exact ((HO.out.mono hs).set_below' (by simp only; omega) _).set_below' (by simp only; omega) _
  · exact (HB.out.setCell (by simp only; omega) _).setCell (by simp only; omega) _
theorem sWith_ans (n v : Nat) (hv : v < n) (one : Bool) (A : Option Addr) (len c : Nat) (ws : List Nat) (w : World) (h : SetArg w n A len c ws) (hok : SOk n ws) :
    Calls Tryd.prog 13 #[setA n A len c, .int .i64 (v : Nat), .bool one] w (SetAns w n 0 (withT (tabS n ws) v one.toNat)) :=
  (sWith_yes n v hv one A len c ws w h hok).mono fun _ _ hr => hr.ans (with_ok hok hv) (by rw [withT_length, tabS_length]) fun x hx => with_tab hok hv x hx
end Go.Proofs.YtdhfpnbpkbelmaaDoor
