/- Contract: set.Ite. -/
import Derived.Test.YtdhfpnbpkbelmaaDoorSetPd
namespace Go.Proofs.YtdhfpnbpkbelmaaDoor
open Go.RowKit Go.Sort
set_option linter.unusedSimpArgs false
set_option linter.unusedVariables false

/-- three sets and a result in cells -/
structure Three (w W : World) (m1 m2 m3 : Int) (A1 A2 A3 : Option Addr) (l1 l2 l3 c1 c2 c3 : Nat) (ws1 ws2 ws3 : List Nat) : Prop where
  v1 : SetVar W w.heap.size m1 A1 l1 c1 ws1
  v2 : SetVar W (w.heap.size + 1) m2 A2 l2 c2 ws2
  v3 : SetVar W (w.heap.size + 2) m3 A3 l3 c3 ws3
  res : Blk W (w.heap.size + 3) 24 #[.int .i64 0, .slice none 0 0]
  bel : Below w.heap.size w W
section
variable {w W W' : World} {m1 m2 m3 : Int} {A1 A2 A3 : Option Addr} {l1 l2 l3 c1 c2 c3 : Nat} {ws1 ws2 ws3 : List Nat}
theorem Three.on (h : Three w W m1 m2 m3 A1 A2 A3 l1 l2 l3 c1 c2 c3 ws1 ws2 ws3) (hb : Below W.heap.size W W') : Three w W' m1 m2 m3 A1 A2 A3 l1 l2 l3 c1 c2 c3 ws1 ws2 ws3 :=
  ⟨h.v1.on hb, h.v2.on hb, h.v3.on hb, h.res.onB hb, h.bel.trans (hb.mono h.bel.size)⟩
theorem Three.new (h1 : SetArg w m1 A1 l1 c1 ws1) (h2 : SetArg w m2 A2 l2 c2 ws2) (h3 : SetArg w m3 A3 l3 c3 ws3) :
    Three w ((((w.alloc (.cells #[.int .i64 m1, .slice A1 l1 c1] 24)).alloc (.cells #[.int .i64 m2, .slice A2 l2 c2] 24)).alloc (.cells #[.int .i64 m3, .slice A3 l3 c3] 24)).alloc (.cells #[.int .i64 0, .slice none 0 0] 24)) m1 m2 m3 A1 A2 A3 l1 l2 l3 c1 c2 c3 ws1 ws2 ws3 := by
  refine ⟨(((SetVar.new h1).alloc _).alloc _).alloc _, ?_, ?_, ?_, ((((Below.refl _ _).alloc (Nat.le_refl _) _).alloc (by simp) _).alloc (by simp; omega) _).alloc (by simp; omega) _⟩
  · have := SetVar.new (h2.alloc (.cells #[.int .i64 m1, .slice A1 l1 c1] 24))
    rw [World.size_alloc] at this
    exact (this.alloc _).alloc _
  · have := SetVar.new ((h3.alloc (.cells #[.int .i64 m1, .slice A1 l1 c1] 24)).alloc (.cells #[.int .i64 m2, .slice A2 l2 c2] 24))
    simp only [World.size_alloc] at this
    exact this.alloc _
  · have := Blk.new (((w.alloc (.cells #[.int .i64 m1, .slice A1 l1 c1] 24)).alloc (.cells #[.int .i64 m2, .slice A2 l2 c2] 24)).alloc (.cells #[.int .i64 m3, .slice A3 l3 c3] 24)) 24 #[.int .i64 0, .slice none 0 0]
    simpa only [World.size_alloc] using this
end
set_option maxRecDepth 100000 in
set_option maxHeartbeats 4000000 in
theorem sIte_no (m1 m2 m3 : Int) (A1 A2 A3 : Option Addr) (l1 l2 l3 c1 c2 c3 : Nat) (ws1 ws2 ws3 : List Nat) (w : World) (h1 : SetArg w m1 A1 l1 c1 ws1) (h2 : SetArg w m2 A2 l2 c2 ws2) (h3 : SetArg w m3 A3 l3 c3 ws3) (hno : ¬ (pairB m1 m2 ws1 ws2 = true ∧ pairB m1 m3 ws1 ws3 = true)) :
    Calls Tryd.prog 31 #[setA m1 A1 l1 c1, setA m2 A2 l2 c2, setA m3 A3 l3 c3] w (SetErr w 1) := by
  have HP1 := Lib.hid (fun W' (h1 : SetArg W' m1 A1 l1 c1 ws1) (h2 : SetArg W' m2 A2 l2 c2 ws2) => spair_any m1 m2 A1 A2 l1 l2 c1 c2 ws1 ws2 W' h1 h2)
  have HP2 := Lib.hid (fun W' (h1 : SetArg W' m1 A1 l1 c1 ws1) (h2 : SetArg W' m3 A3 l3 c3 ws3) => spair_any m1 m3 A1 A3 l1 l3 c1 c3 ws1 ws3 W' h1 h2)
  unfold SetErr
  have h3' := Three.new h1 h2 h3
  unfold setA at *
  obtain ⟨W, hW⟩ : ∃ W, W = ((((w.alloc (.cells #[.int .i64 m1, .slice A1 l1 c1] 24)).alloc (.cells #[.int .i64 m2, .slice A2 l2 c2] 24)).alloc (.cells #[.int .i64 m3, .slice A3 l3 c3] 24)).alloc (.cells #[.int .i64 0, .slice none 0 0] 24)) := ⟨_, rfl⟩
  rw [← hW] at h3'
  have HWW := Lib.hid hW
  have H := Lib.hid h3'
  generalize pairB m1 m2 ws1 ws2 = p1 at *
  generalize pairB m1 m3 ws1 ws3 = p2 at *
  have hc : p1 = false ∨ (p1 = true ∧ p2 = false) := by
    cases p1
    · exact .inl rfl
    · cases p2
      · exact .inr ⟨rfl, rfl⟩
      · simp at hno
  clear h1 h2 h3 h3' hno
  have k10 := H.out.v1.c0
  have k11 := H.out.v1.c1
  have k20 := H.out.v2.c0
  have k21 := H.out.v2.c1
  rcases hc with rfl | ⟨rfl, rfl⟩
  · go_enter Tryd.func31, Tryd.ntmps31
    go_wp2_with fail
    rw [← HWW.out]
    clear hW
    go_wp2_with fail
    refine (HP1.out _ H.out.v1.arg H.out.v2.arg).mono ?_
    rintro e w1 ⟨rfl, hb1⟩
    have H1 := Lib.hid (H.out.on hb1)
    have n0 : w1.cell? ⟨w.heap.size + 3, 0, none⟩ = some (.int .i64 0) := H1.out.res.cell 0
    have n1 : w1.cell? ⟨w.heap.size + 3, 1, none⟩ = some (.slice none 0 0) := H1.out.res.cell 1
    have z0 := H1.out.res.frozen 0
    have z1 := H1.out.res.frozen 1
    clear hb1 k10 k11 k20 k21
    go_wp2_with fail
    refine bodyPost_ret (v := .tuple #[.agg #[.int .i64 0, .slice none 0 0], .int .u8 1]) ?_ rfl ⟨rfl, ?_⟩
    · simp [results, Tryd.results31, go_sem, *]
    · first | exact H1.out.bel | exact (H1.out.bel.setCell (by simp only; omega) _).setCell (by simp only; omega) _
  · go_enter Tryd.func31, Tryd.ntmps31
    go_wp2_with fail
    rw [← HWW.out]
    clear hW
    go_wp2_with fail
    refine (HP1.out _ H.out.v1.arg H.out.v2.arg).mono ?_
    rintro e w1 ⟨rfl, hb1⟩
    have H1 := Lib.hid (H.out.on hb1)
    clear hb1 k10 k11 k20 k21
    have k10 := H1.out.v1.c0
    have k11 := H1.out.v1.c1
    have k20 := H1.out.v3.c0
    have k21 := H1.out.v3.c1
    go_wp2_with fail
    refine (HP2.out _ H1.out.v1.arg H1.out.v3.arg).mono ?_
    rintro e w2 ⟨rfl, hb1⟩
    have H2 := Lib.hid (H1.out.on hb1)
    have n0 : w2.cell? ⟨w.heap.size + 3, 0, none⟩ = some (.int .i64 0) := H2.out.res.cell 0
    have n1 : w2.cell? ⟨w.heap.size + 3, 1, none⟩ = some (.slice none 0 0) := H2.out.res.cell 1
    have z0 := H2.out.res.frozen 0
    have z1 := H2.out.res.frozen 1
    clear hb1 k10 k11 k20 k21
    go_wp2_with fail
    refine bodyPost_ret (v := .tuple #[.agg #[.int .i64 0, .slice none 0 0], .int .u8 1]) ?_ rfl ⟨rfl, ?_⟩
    · simp [results, Tryd.results31, go_sem, *]
    · first | exact H2.out.bel | exact (H2.out.bel.setCell (by simp only; omega) _).setCell (by simp only; omega) _
set_option maxRecDepth 100000 in
set_option maxHeartbeats 4000000 in
theorem sIte_any (n : Nat) (A1 A2 A3 : Option Addr) (l1 l2 l3 c1 c2 c3 : Nat) (ws1 ws2 ws3 : List Nat) (w : World) (h1 : SetArg w n A1 l1 c1 ws1) (h2 : SetArg w n A2 l2 c2 ws2) (h3 : SetArg w n A3 l3 c3 ws3) (ok1 : SOk n ws1) (ok2 : SOk n ws2) (ok3 : SOk n ws3) :
    Calls Tryd.prog 31 #[setA n A1 l1 c1, setA n A2 l2 c2, setA n A3 l3 c3] w (SetRes2 w n ((List.range (wordsN n)).map fun k => iteW (wat ws1 k) (wat ws2 k) (wat ws3 k))) := by
  have hp1 := fun W' (h1 : SetArg W' n A1 l1 c1 ws1) (h2 : SetArg W' n A2 l2 c2 ws2) => spair_any n n A1 A2 l1 l2 c1 c2 ws1 ws2 W' h1 h2
  have hp2 := fun W' (h1 : SetArg W' n A1 l1 c1 ws1) (h2 : SetArg W' n A3 l3 c3 ws3) => spair_any n n A1 A3 l1 l3 c1 c3 ws1 ws3 W' h1 h2
  rw [pair_ok ok1 ok2] at hp1
  rw [pair_ok ok1 ok3] at hp2
  have HP1 := Lib.hid hp1
  have HP2 := Lib.hid hp2
  have HIT := Lib.hid (fun W' (h1 : SetArg W' n A1 l1 c1 ws1) (h2 : SetArg W' n A2 l2 c2 ws2) (h3 : SetArg W' n A3 l3 c3 ws3) => site_any n A1 A2 A3 l1 l2 l3 c1 c2 c3 ws1 ws2 ws3 W' h1 h2 h3 ok1 ok2 ok3)
  have h3' := Three.new h1 h2 h3
  unfold SetRes2 SetRes setV setA at *
  generalize (List.range (wordsN n)).map (fun k => iteW (wat ws1 k) (wat ws2 k) (wat ws3 k)) = ws at *
  generalize wordsN n = m at *
  obtain ⟨W, hW⟩ : ∃ W, W = ((((w.alloc (.cells #[.int .i64 (n : Nat), .slice A1 l1 c1] 24)).alloc (.cells #[.int .i64 (n : Nat), .slice A2 l2 c2] 24)).alloc (.cells #[.int .i64 (n : Nat), .slice A3 l3 c3] 24)).alloc (.cells #[.int .i64 0, .slice none 0 0] 24)) := ⟨_, rfl⟩
  rw [← hW] at h3'
  have HWW := Lib.hid hW
  have H := Lib.hid h3'
  clear h1 h2 h3 h3' hp1 hp2 ok1 ok2 ok3
  have k10 := H.out.v1.c0
  have k11 := H.out.v1.c1
  have k20 := H.out.v2.c0
  have k21 := H.out.v2.c1
  go_enter Tryd.func31, Tryd.ntmps31
  go_wp2_with fail
  rw [← HWW.out]
  clear hW
  go_wp2_with fail
  refine (HP1.out _ H.out.v1.arg H.out.v2.arg).mono ?_
  rintro e w1 ⟨rfl, hb1⟩
  have H1 := Lib.hid (H.out.on hb1)
  clear hb1 k10 k11 k20 k21
  have k10 := H1.out.v1.c0
  have k11 := H1.out.v1.c1
  have k20 := H1.out.v3.c0
  have k21 := H1.out.v3.c1
  go_wp2_with fail
  refine (HP2.out _ H1.out.v1.arg H1.out.v3.arg).mono ?_
  rintro e w2 ⟨rfl, hb1⟩
  have H2 := Lib.hid (H1.out.on hb1)
  clear hb1 k10 k11 k20 k21
  have k10 := H2.out.v1.c0
  have k11 := H2.out.v1.c1
  have k20 := H2.out.v2.c0
  have k21 := H2.out.v2.c1
  have k30 := H2.out.v3.c0
  have k31 := H2.out.v3.c1
  go_wp2_with fail
  refine (HIT.out _ H2.out.v1.arg H2.out.v2.arg H2.out.v3.arg).mono ?_
  rintro e w3 ⟨b, rfl, hb, hown, hl, hb1⟩
  have H3 := Lib.hid (H2.out.on hb1)
  have n0 : w3.cell? ⟨w.heap.size + 3, 0, none⟩ = some (.int .i64 0) := H3.out.res.cell 0
  have n1 : w3.cell? ⟨w.heap.size + 3, 1, none⟩ = some (.slice none 0 0) := H3.out.res.cell 1
  have z0 := H3.out.res.frozen 0
  have z1 := H3.out.res.frozen 1
  have HO := Lib.hid hown
  have HL := Lib.hid hl
  have HB : Hid (w.heap.size + 3 < b ∧ w.heap.size ≤ w2.heap.size) := Lib.hid ⟨by have := H2.out.res.lt; omega, H2.out.bel.size⟩
  clear hb1 k10 k11 k20 k21 k30 k31 hown hl hb
  go_wp2_with fail
  refine bodyPost_ret (v := .tuple #[.agg #[.int .i64 (n : Nat), .slice (some ⟨b, 0, none⟩) m m], .int .u8 0]) ?_ rfl ⟨b, rfl, by have := HB.out; omega, ?_, HL.out, ?_⟩
  · simp [results, Tryd.results31, go_sem, *]
  · have hb := HB.out
    exact ((HO.out.mono hb.2).set_below' (by simp only; omega) _).set_below' (by simp only; omega) _
  · exact (H3.out.bel.setCell (by simp only; omega) _).setCell (by simp only; omega) _
end Go.Proofs.YtdhfpnbpkbelmaaDoor
