/- Contracts: member: what an edge has at a level; what is left of it when the level is 0, or 1. -/
import Derived.Test.YtpjciaomhfeeeaaGreatMah
import Derived.Test.YtpjciaomhfeeeaaGreatLeads
import Derived.Test.YtpjciaomhfeeeaaGreatMx
import Derived.Deep.DeepCutAuto
namespace Go.Proofs.YtpjciaomhfeeeaaGreat
open Go Go.RowKit
set_option linter.unusedSimpArgs false
set_option linter.unusedVariables false

/-- a cast: what members are asked of -/
def CastAt (w : World) (cb gs go : Nat) (f : Int) (n : Nat) : Prop := Blk w cb 76 #[.pointer (some ⟨gs, 0, none⟩), .pointer (some ⟨go, 0, none⟩), .int .u8 f, .int .i64 (n : Nat)]
/-- what is left, written cell by cell -/
theorem Blk.rest11 {w : World} {g : Nat} {T : TypeId} {a0 a1 a2 a3 a4 a5 a6 a7 a8 a9 a10 : Value} (h : Blk w g T #[a0, a1, a2, a3, a4, a5, a6, a7, a8, a9, a10]) (v0 v1 v2 v3 v4 v5 v6 v7 v8 v9 v10 : Value) :
    Blk (((((((((((w.setCell ⟨g, 0, none⟩ v0).setCell ⟨g, 1, none⟩ v1).setCell ⟨g, 2, none⟩ v2).setCell ⟨g, 3, none⟩ v3).setCell ⟨g, 4, none⟩ v4).setCell ⟨g, 5, none⟩ v5).setCell ⟨g, 6, none⟩ v6).setCell ⟨g, 7, none⟩ v7).setCell ⟨g, 8, none⟩ v8).setCell ⟨g, 9, none⟩ v9).setCell ⟨g, 10, none⟩ v10) g T #[v0, v1, v2, v3, v4, v5, v6, v7, v8, v9, v10] := by
  have h0 : Blk (w.setCell ⟨g, 0, none⟩ v0) g T #[v0, a1, a2, a3, a4, a5, a6, a7, a8, a9, a10] := h.set_ 0 v0
  have h1 : Blk ((w.setCell ⟨g, 0, none⟩ v0).setCell ⟨g, 1, none⟩ v1) g T #[v0, v1, a2, a3, a4, a5, a6, a7, a8, a9, a10] := h0.set_ 1 v1
  have h2 : Blk (((w.setCell ⟨g, 0, none⟩ v0).setCell ⟨g, 1, none⟩ v1).setCell ⟨g, 2, none⟩ v2) g T #[v0, v1, v2, a3, a4, a5, a6, a7, a8, a9, a10] := h1.set_ 2 v2
  have h3 : Blk ((((w.setCell ⟨g, 0, none⟩ v0).setCell ⟨g, 1, none⟩ v1).setCell ⟨g, 2, none⟩ v2).setCell ⟨g, 3, none⟩ v3) g T #[v0, v1, v2, v3, a4, a5, a6, a7, a8, a9, a10] := h2.set_ 3 v3
  have h4 : Blk (((((w.setCell ⟨g, 0, none⟩ v0).setCell ⟨g, 1, none⟩ v1).setCell ⟨g, 2, none⟩ v2).setCell ⟨g, 3, none⟩ v3).setCell ⟨g, 4, none⟩ v4) g T #[v0, v1, v2, v3, v4, a5, a6, a7, a8, a9, a10] := h3.set_ 4 v4
  have h5 : Blk ((((((w.setCell ⟨g, 0, none⟩ v0).setCell ⟨g, 1, none⟩ v1).setCell ⟨g, 2, none⟩ v2).setCell ⟨g, 3, none⟩ v3).setCell ⟨g, 4, none⟩ v4).setCell ⟨g, 5, none⟩ v5) g T #[v0, v1, v2, v3, v4, v5, a6, a7, a8, a9, a10] := h4.set_ 5 v5
  have h6 : Blk (((((((w.setCell ⟨g, 0, none⟩ v0).setCell ⟨g, 1, none⟩ v1).setCell ⟨g, 2, none⟩ v2).setCell ⟨g, 3, none⟩ v3).setCell ⟨g, 4, none⟩ v4).setCell ⟨g, 5, none⟩ v5).setCell ⟨g, 6, none⟩ v6) g T #[v0, v1, v2, v3, v4, v5, v6, a7, a8, a9, a10] := h5.set_ 6 v6
  have h7 : Blk ((((((((w.setCell ⟨g, 0, none⟩ v0).setCell ⟨g, 1, none⟩ v1).setCell ⟨g, 2, none⟩ v2).setCell ⟨g, 3, none⟩ v3).setCell ⟨g, 4, none⟩ v4).setCell ⟨g, 5, none⟩ v5).setCell ⟨g, 6, none⟩ v6).setCell ⟨g, 7, none⟩ v7) g T #[v0, v1, v2, v3, v4, v5, v6, v7, a8, a9, a10] := h6.set_ 7 v7
  have h8 : Blk (((((((((w.setCell ⟨g, 0, none⟩ v0).setCell ⟨g, 1, none⟩ v1).setCell ⟨g, 2, none⟩ v2).setCell ⟨g, 3, none⟩ v3).setCell ⟨g, 4, none⟩ v4).setCell ⟨g, 5, none⟩ v5).setCell ⟨g, 6, none⟩ v6).setCell ⟨g, 7, none⟩ v7).setCell ⟨g, 8, none⟩ v8) g T #[v0, v1, v2, v3, v4, v5, v6, v7, v8, a9, a10] := h7.set_ 8 v8
  have h9 : Blk ((((((((((w.setCell ⟨g, 0, none⟩ v0).setCell ⟨g, 1, none⟩ v1).setCell ⟨g, 2, none⟩ v2).setCell ⟨g, 3, none⟩ v3).setCell ⟨g, 4, none⟩ v4).setCell ⟨g, 5, none⟩ v5).setCell ⟨g, 6, none⟩ v6).setCell ⟨g, 7, none⟩ v7).setCell ⟨g, 8, none⟩ v8).setCell ⟨g, 9, none⟩ v9) g T #[v0, v1, v2, v3, v4, v5, v6, v7, v8, v9, a10] := h8.set_ 9 v9
  have h10 : Blk (((((((((((w.setCell ⟨g, 0, none⟩ v0).setCell ⟨g, 1, none⟩ v1).setCell ⟨g, 2, none⟩ v2).setCell ⟨g, 3, none⟩ v3).setCell ⟨g, 4, none⟩ v4).setCell ⟨g, 5, none⟩ v5).setCell ⟨g, 6, none⟩ v6).setCell ⟨g, 7, none⟩ v7).setCell ⟨g, 8, none⟩ v8).setCell ⟨g, 9, none⟩ v9).setCell ⟨g, 10, none⟩ v10) g T #[v0, v1, v2, v3, v4, v5, v6, v7, v8, v9, v10] := h9.set_ 10 v10
  exact h10
theorem below_rest11 {w0 w : World} {g : Nat} (v0 v1 v2 v3 v4 v5 v6 v7 v8 v9 v10 : Value) (hg : w0.heap.size ≤ g) (h : Below w0.heap.size w0 w) : Below w0.heap.size w0 (((((((((((w.setCell ⟨g, 0, none⟩ v0).setCell ⟨g, 1, none⟩ v1).setCell ⟨g, 2, none⟩ v2).setCell ⟨g, 3, none⟩ v3).setCell ⟨g, 4, none⟩ v4).setCell ⟨g, 5, none⟩ v5).setCell ⟨g, 6, none⟩ v6).setCell ⟨g, 7, none⟩ v7).setCell ⟨g, 8, none⟩ v8).setCell ⟨g, 9, none⟩ v9).setCell ⟨g, 10, none⟩ v10) :=
  (((((((((((h.setCell (p := ⟨g, 0, none⟩) hg _).setCell (p := ⟨g, 1, none⟩) hg _).setCell (p := ⟨g, 2, none⟩) hg _).setCell (p := ⟨g, 3, none⟩) hg _).setCell (p := ⟨g, 4, none⟩) hg _).setCell (p := ⟨g, 5, none⟩) hg _).setCell (p := ⟨g, 6, none⟩) hg _).setCell (p := ⟨g, 7, none⟩) hg _).setCell (p := ⟨g, 8, none⟩) hg _).setCell (p := ⟨g, 9, none⟩) hg _).setCell (p := ⟨g, 10, none⟩) hg _)
/-- the world at a function's end under a name -/
theorem bodyPost_gen {P : Program} {F : Func} {post : Ending → World → Prop} {x : Exit} {a : Act} {w : World} (R : World → Prop) (h : R w) (k : ∀ W, R W → bodyPost P F post x a W) : bodyPost P F post x a w := k w h
set_option maxRecDepth 200000 in
set_option maxHeartbeats 16000000 in
theorem mat_any (F : List Nat) (gs go n room cb : Nat) (cs : List (Option Rec)) (free : List Int) (f : Int) (e : Edg) (l : Int) (w : World) (h : StoreAt w F gs n room cs free) (he : e.Wf) (hC : CastAt w cb gs go f n) :
    Calls Tryz.prog 52 #[.pointer (some ⟨cb, 0, none⟩), .agg #[.int .u8 e.tag, .int .u32 e.pos], .int .u8 l] w fun x w' => x = .returned (.agg (atR cs e l).cells.toArray) ∧ Below w.heap.size w w' := by
  obtain ⟨tag, pos⟩ := e
  obtain ⟨t0, t1, p0, p1⟩ := he
  simp only at t0 t1 p0 p1
  obtain ⟨W, hW⟩ : ∃ W, W = (w.alloc (.cells #[.int .u8 tag, .int .u32 pos] 26)).alloc (.cells #[.bool false, .bool false, .int .u8 0, .int .u8 0, .int .u8 0, .int .u8 0, .int .u32 0, .int .u8 0, .int .u32 0, .int .u8 0, .int .u8 0] 72) := ⟨_, rfl⟩
  have hbW : Below w.heap.size w W := by rw [hW]; exact ((Below.refl _ _).alloc (Nat.le_refl _) _).alloc (by simp) _
  have hK : Blk W w.heap.size 26 #[.int .u8 tag, .int .u32 pos] := by rw [hW]; exact (Blk.new w _ _).alloc _
  have hZ : Blk W (w.heap.size + 1) 72 #[.bool false, .bool false, .int .u8 0, .int .u8 0, .int .u8 0, .int .u8 0, .int .u32 0, .int .u8 0, .int .u32 0, .int .u8 0, .int .u8 0] := by
    rw [hW]
    have := Blk.new (w.alloc (.cells #[.int .u8 tag, .int .u32 pos] 26)) 72 #[.bool false, .bool false, .int .u8 0, .int .u8 0, .int .u8 0, .int .u8 0, .int .u32 0, .int .u8 0, .int .u32 0, .int .u8 0, .int .u8 0]
    rwa [World.size_alloc] at this
  have hkW := hK.lt
  have hzW := hZ.lt
  have hgW : cb < W.heap.size := by have := hbW.size; have := hC.lt; omega
  have c0 := (hbW.cell (p := ⟨cb, 0, none⟩) hC.lt).trans (hC.cell 0)
  have e1 := hK.cell 1
  by_cases hp : pos = 0
  · subst hp
    have HW2 := Lib.hid hW
    have HB := Lib.hid hbW
    have HZ := Lib.hid hZ
    have z := fun k => hZ.cell k
    clear h hC hbW hK hZ
    show Calls _ _ _ _ fun x w' => x = .returned (.agg Rst.nil.cells.toArray) ∧ _
    go_enter Tryz.func52, Tryz.ntmps52
    go_wp2_with fail
    refine bodyPost_ret (v := .agg #[.bool false, .bool false, .int .u8 0, .int .u8 0, .int .u8 0, .int .u8 0, .int .u32 0, .int .u8 0, .int .u32 0, .int .u8 0, .int .u8 0]) ?_ rfl ⟨rfl, ?_⟩
    · simp [results, Tryz.results52, go_sem, *]
    · repeat (first | exact Below.refl _ _ | refine Below.setCell ?_ (by simp) _ | refine Below.alloc ?_ (by simp) _)
  · have hne : (pos == 0) = false := by rw [beq_eq_false_iff_ne]; omega
    have FACTS : Hid (∀ w', Below W.heap.size W w' → w'.cell? ⟨cb, 0, none⟩ = some (.pointer (some ⟨gs, 0, none⟩)) ∧ w'.cell? ⟨w.heap.size, 0, none⟩ = some (.int .u8 tag) ∧ w'.cell? ⟨w.heap.size, 1, none⟩ = some (.int .u32 pos)) := Lib.hid fun w' hw => ⟨(hw.cell (p := ⟨cb, 0, none⟩) hgW).trans c0, (hw.cell (p := ⟨w.heap.size, 0, none⟩) hkW).trans (hK.cell 0), (hw.cell (p := ⟨w.heap.size, 1, none⟩) hkW).trans (hK.cell 1)⟩
    have HS := Lib.hid (h.on hbW)
    obtain ⟨rr, hrr⟩ : ∃ rr, rr = recAt cs pos := ⟨_, rfl⟩
    obtain ⟨r, hr⟩ : ∃ r, r = rr.getD Rec.nil := ⟨_, rfl⟩
    obtain ⟨ok, hok⟩ : ∃ ok, ok = rr.isSome := ⟨_, rfl⟩
    have hat : atR cs ⟨tag, pos⟩ l = ⟨true, ok, r, tag, l⟩ := by
      unfold atR
      rw [if_neg hp, hr, hok, hrr]
    rw [hat]
    have hGE : ∀ W', Below W.heap.size W W' → Calls Tryz.prog 35 #[.pointer (some ⟨gs, 0, none⟩), .int .u32 pos] W' fun x w' => x = .returned (.tuple #[.agg #[.int .u8 r.form, .int .u8 r.top, .int .u8 r.bot, .int .u8 r.lo.tag, .int .u32 r.lo.pos, .int .u8 r.hi.tag, .int .u32 r.hi.pos], .bool ok]) ∧ Below W.heap.size W w' ∧ Below W'.heap.size W' w' := fun W' hW' => (storeGet_any _ _ _ _ _ _ pos W' (HS.out.on hW') p0 p1).mono fun _ _ ⟨q1, q2⟩ => ⟨by rw [q1, ← hrr, getR_eq, ← hr, ← hok]; rfl, hW'.trans (q2.mono hW'.size), q2⟩
    have HGE := Lib.hid hGE
    have hbel6 : Below W.heap.size W W := Below.refl _ _
    have HWW := Lib.hid hW
    have HbW := Lib.hid hbW
    have HZ := Lib.hid hZ
    have HKW := Lib.hid hK
    clear h hC hGE hbW c0 hZ hK hrr hr hok hat
    go_enter Tryz.func52, Tryz.ntmps52
    go_upto_region 3 with fail
    rw [← HWW.out]
    clear hW
    go_cut [7, 8] (fun p o wx => ∃ rb, p = .pointer (some ⟨rb, 0, none⟩) ∧ o = .bool ok ∧ Blk wx rb 62 #[.int .u8 r.form, .int .u8 r.top, .int .u8 r.bot, .int .u8 r.lo.tag, .int .u32 r.lo.pos, .int .u8 r.hi.tag, .int .u32 r.hi.pos] ∧ W.heap.size ≤ rb ∧ Below W.heap.size W wx)
    case first =>
      go_region_held3 (fun w' => w'.cell? ⟨cb, 0, none⟩ = some (.pointer (some ⟨gs, 0, none⟩)) ∧ w'.cell? ⟨w.heap.size, 0, none⟩ = some (.int .u8 tag) ∧ w'.cell? ⟨w.heap.size, 1, none⟩ = some (.int .u32 pos)) ((refine FACTS.out _ ?_; with_reducible (first | exact hbel6 | exact hbel6.drew | exact keepD hbel6 _ | exact keepE hbel6 _ | exact hbel7 | exact keepC hbel7 | exact keep7' (Below.size hbel6) hbel7 | fail))) (first | (go_at_call 35; refine (HGE.out _ ?_).mono ?_; (with_reducible first | exact keepD hbel6 _ | exact keepE hbel6 _); rintro e w7 ⟨rfl, hbel7, hb7⟩; have HNB := Lib.hid (newA hb7); clear hb7; have n0 : w7.cell? ⟨W.heap.size, 0, none⟩ = some (.int .u8 0) := HNB.out.cell 0; have z0 := HNB.out.frozen 0; have n1 : w7.cell? ⟨W.heap.size, 1, none⟩ = some (.int .u8 0) := HNB.out.cell 1; have z1 := HNB.out.frozen 1; have n2 : w7.cell? ⟨W.heap.size, 2, none⟩ = some (.int .u8 0) := HNB.out.cell 2; have z2 := HNB.out.frozen 2; have n3 : w7.cell? ⟨W.heap.size, 3, none⟩ = some (.int .u8 0) := HNB.out.cell 3; have z3 := HNB.out.frozen 3; have n4 : w7.cell? ⟨W.heap.size, 4, none⟩ = some (.int .u32 0) := HNB.out.cell 4; have z4 := HNB.out.frozen 4; have n5 : w7.cell? ⟨W.heap.size, 5, none⟩ = some (.int .u8 0) := HNB.out.cell 5; have z5 := HNB.out.frozen 5; have n6 : w7.cell? ⟨W.heap.size, 6, none⟩ = some (.int .u32 0) := HNB.out.cell 6; have z6 := HNB.out.frozen 6; have q0 : ¬ cb = W.heap.size := (by omega); have q1 : ¬ w.heap.size = W.heap.size := (by omega)) | (go_at_call 35; refine (HGE.out _ ?_).mono ?_; (with_reducible first | exact hbel6.drew | exact hbel6); rintro e w7 ⟨rfl, hbel7, hb7⟩; clear hb7; have q0 : ¬ cb = w7.heap.size := (by have := hbel7.size; omega); have q1 : ¬ w.heap.size = w7.heap.size := (by have := hbel7.size; omega)) | fail)
      all_goals
        go_wp2_with fail
        go_meet
        with_reducible first
          | exact ⟨_, rfl, rfl, HNB.out.rec7 _ _ _ _ _ _ _, Nat.le_refl _, keep7' (Nat.le_refl _) hbel7⟩
          | exact ⟨_, rfl, rfl, Blk.new _ _ _, hbel7.size, keepC hbel7⟩
    obtain ⟨rb, rfl, rfl, hrb, hrl, hbx⟩ := hcut
    have hZ2 := HZ.out.onB hbx
    have hK2 := HKW.out.onB hbx
    have hbwc := HbW.out.trans (hbx.mono HbW.out.size)
    have y0 : wc.cell? ⟨rb, 0, none⟩ = some (.int .u8 r.form) := hrb.cell 0
    have y1 : wc.cell? ⟨rb, 1, none⟩ = some (.int .u8 r.top) := hrb.cell 1
    have y2 : wc.cell? ⟨rb, 2, none⟩ = some (.int .u8 r.bot) := hrb.cell 2
    have y3 : wc.cell? ⟨rb, 3, none⟩ = some (.int .u8 r.lo.tag) := hrb.cell 3
    have y4 : wc.cell? ⟨rb, 4, none⟩ = some (.int .u32 r.lo.pos) := hrb.cell 4
    have y5 : wc.cell? ⟨rb, 5, none⟩ = some (.int .u8 r.hi.tag) := hrb.cell 5
    have y6 : wc.cell? ⟨rb, 6, none⟩ = some (.int .u32 r.hi.pos) := hrb.cell 6
    have g0 : wc.cell? ⟨w.heap.size, 0, none⟩ = some (.int .u8 tag) := hK2.cell 0
    have hb' := Lib.hid hbwc
    have HZ3 := Lib.hid hZ2
    clear hbwc hbx hrb hK2 hZ2 FACTS HGE HS HWW HbW HZ HKW hbel6
    have m0 : wc.cell? ⟨w.heap.size + 1, 0, none⟩ = some (.bool false) := HZ3.out.cell 0
    have f0 := HZ3.out.frozen 0
    have m1 : wc.cell? ⟨w.heap.size + 1, 1, none⟩ = some (.bool false) := HZ3.out.cell 1
    have f1 := HZ3.out.frozen 1
    have m2 : wc.cell? ⟨w.heap.size + 1, 2, none⟩ = some (.int .u8 0) := HZ3.out.cell 2
    have f2 := HZ3.out.frozen 2
    have m3 : wc.cell? ⟨w.heap.size + 1, 3, none⟩ = some (.int .u8 0) := HZ3.out.cell 3
    have f3 := HZ3.out.frozen 3
    have m4 : wc.cell? ⟨w.heap.size + 1, 4, none⟩ = some (.int .u8 0) := HZ3.out.cell 4
    have f4 := HZ3.out.frozen 4
    have m5 : wc.cell? ⟨w.heap.size + 1, 5, none⟩ = some (.int .u8 0) := HZ3.out.cell 5
    have f5 := HZ3.out.frozen 5
    have m6 : wc.cell? ⟨w.heap.size + 1, 6, none⟩ = some (.int .u32 0) := HZ3.out.cell 6
    have f6 := HZ3.out.frozen 6
    have m7 : wc.cell? ⟨w.heap.size + 1, 7, none⟩ = some (.int .u8 0) := HZ3.out.cell 7
    have f7 := HZ3.out.frozen 7
    have m8 : wc.cell? ⟨w.heap.size + 1, 8, none⟩ = some (.int .u32 0) := HZ3.out.cell 8
    have f8 := HZ3.out.frozen 8
    have m9 : wc.cell? ⟨w.heap.size + 1, 9, none⟩ = some (.int .u8 0) := HZ3.out.cell 9
    have f9 := HZ3.out.frozen 9
    have m10 : wc.cell? ⟨w.heap.size + 1, 10, none⟩ = some (.int .u8 0) := HZ3.out.cell 10
    have f10 := HZ3.out.frozen 10
    go_wp2_with fail
    refine bodyPost_gen (fun V => Blk V (w.heap.size + 1) 72 #[.bool true, .bool ok, .int .u8 r.form, .int .u8 r.top, .int .u8 r.bot, .int .u8 r.lo.tag, .int .u32 r.lo.pos, .int .u8 r.hi.tag, .int .u32 r.hi.pos, .int .u8 tag, .int .u8 l] ∧ Below w.heap.size w V) ⟨HZ3.out.rest11 _ _ _ _ _ _ _ _ _ _ _, below_rest11 _ _ _ _ _ _ _ _ _ _ _ (Nat.le_succ _) hb'.out⟩ ?_
    rintro V ⟨hv, hbv⟩
    have v0 : V.cell? ⟨w.heap.size + 1, 0, none⟩ = some (.bool true) := hv.cell 0
    have v1 : V.cell? ⟨w.heap.size + 1, 1, none⟩ = some (.bool ok) := hv.cell 1
    have v2 : V.cell? ⟨w.heap.size + 1, 2, none⟩ = some (.int .u8 r.form) := hv.cell 2
    have v3 : V.cell? ⟨w.heap.size + 1, 3, none⟩ = some (.int .u8 r.top) := hv.cell 3
    have v4 : V.cell? ⟨w.heap.size + 1, 4, none⟩ = some (.int .u8 r.bot) := hv.cell 4
    have v5 : V.cell? ⟨w.heap.size + 1, 5, none⟩ = some (.int .u8 r.lo.tag) := hv.cell 5
    have v6 : V.cell? ⟨w.heap.size + 1, 6, none⟩ = some (.int .u32 r.lo.pos) := hv.cell 6
    have v7 : V.cell? ⟨w.heap.size + 1, 7, none⟩ = some (.int .u8 r.hi.tag) := hv.cell 7
    have v8 : V.cell? ⟨w.heap.size + 1, 8, none⟩ = some (.int .u32 r.hi.pos) := hv.cell 8
    have v9 : V.cell? ⟨w.heap.size + 1, 9, none⟩ = some (.int .u8 tag) := hv.cell 9
    have v10 : V.cell? ⟨w.heap.size + 1, 10, none⟩ = some (.int .u8 l) := hv.cell 10
    have HBV := Lib.hid hbv
    clear hv hbv m0 f0 m1 f1 m2 f2 m3 f3 m4 f4 m5 f5 m6 f6 m7 f7 m8 f8 m9 f9 m10 f10 y0 y1 y2 y3 y4 y5 y6 g0
    refine bodyPost_ret (v := .agg #[.bool true, .bool ok, .int .u8 r.form, .int .u8 r.top, .int .u8 r.bot, .int .u8 r.lo.tag, .int .u32 r.lo.pos, .int .u8 r.hi.tag, .int .u32 r.hi.pos, .int .u8 tag, .int .u8 l]) ?_ rfl ⟨rfl, HBV.out⟩
    simp [results, Tryz.results52, go_sem, *]
end Go.Proofs.YtpjciaomhfeeeaaGreat
