/- Contract: member: what is left when the level is 0, or 1. -/
import Derived.Test.YtpjciaomhfeeeaaGreatMbrA
import Derived.Test.YtpjciaomhfeeeaaGreatMaq
namespace Go.Proofs.YtpjciaomhfeeeaaGreat
open Go Go.RowKit
set_option linter.unusedSimpArgs false
set_option linter.unusedVariables false

set_option maxRecDepth 200000 in
set_option maxHeartbeats 32000000 in
theorem half_any (F : List Nat) (gs go n room cb : Nat) (cs : List (Option Rec)) (free : List Int) (f : Int) (x : Rst) (lv : Int) (one : Bool) (w : World) (h : StoreAt w F gs n room cs free) (hC : CastAt w cb gs go f n) (hx : RstOk n lv x) (hi : x.inn = true) (hlv : lv < n) (hcs : ∀ id r, recAt cs id = some r → r.Wf ∧ r.top ≤ r.bot ∧ r.bot < n) :
    Calls Tryz.prog 53 #[.pointer (some ⟨cb, 0, none⟩), .agg x.cells.toArray, .bool one] w fun e w' => e = .returned (.agg (halfR cs n f x one).cells.toArray) ∧ Below w.heap.size w w' := by
  have hn16 := h.ok.n16
  have hl := hx.l hi
  obtain ⟨⟨_, _⟩, ⟨q1, q2⟩, ⟨q3, q4⟩, hlo, hhi⟩ := hx.wf
  have htop := hx.top
  have hln := hx.ln
  obtain ⟨inn, node, ⟨form, top, bot, ⟨lt, lp⟩, ⟨ht, hp⟩⟩, tag, l⟩ := x
  simp only at hl hi q1 q2 q3 q4 htop hln
  subst hl hi
  have hHI := Lib.hid (fun W hs hc => mat_any F gs go n room cb cs free f ⟨ht, hp⟩ (l + 1) W hs hhi hc)
  have hLO := Lib.hid (fun W hs hc => mat_any F gs go n room cb cs free f ⟨lt, lp⟩ (l + 1) W hs hlo hc)
  obtain ⟨W, hW⟩ : ∃ W, W = (w.alloc (.cells #[.bool true, .bool node, .int .u8 form, .int .u8 top, .int .u8 bot, .int .u8 lt, .int .u32 lp, .int .u8 ht, .int .u32 hp, .int .u8 tag, .int .u8 l] 72)).alloc (.cells #[.bool false, .bool false, .int .u8 0, .int .u8 0, .int .u8 0, .int .u8 0, .int .u32 0, .int .u8 0, .int .u32 0, .int .u8 0, .int .u8 0] 72) := ⟨_, rfl⟩
  have hbW : Below w.heap.size w W := by rw [hW]; exact ((Below.refl _ _).alloc (Nat.le_refl _) _).alloc (by simp) _
  have hK : Blk W w.heap.size 72 #[.bool true, .bool node, .int .u8 form, .int .u8 top, .int .u8 bot, .int .u8 lt, .int .u32 lp, .int .u8 ht, .int .u32 hp, .int .u8 tag, .int .u8 l] := by rw [hW]; exact (Blk.new w _ _).alloc _
  have hZ : Blk W (w.heap.size + 1) 72 #[.bool false, .bool false, .int .u8 0, .int .u8 0, .int .u8 0, .int .u8 0, .int .u32 0, .int .u8 0, .int .u32 0, .int .u8 0, .int .u8 0] := by
    rw [hW]
    have := Blk.new (w.alloc (.cells #[.bool true, .bool node, .int .u8 form, .int .u8 top, .int .u8 bot, .int .u8 lt, .int .u32 lp, .int .u8 ht, .int .u32 hp, .int .u8 tag, .int .u8 l] 72)) 72 #[.bool false, .bool false, .int .u8 0, .int .u8 0, .int .u8 0, .int .u8 0, .int .u32 0, .int .u8 0, .int .u32 0, .int .u8 0, .int .u8 0]
    rwa [World.size_alloc] at this
  have hCW : CastAt W cb gs go f n := Blk.onB hC hbW
  have hSW := h.on hbW
  have hcl : cb < W.heap.size := hCW.lt
  have hcl0 : cb < w.heap.size := Blk.lt hC
  have hkl := hK.lt
  have hzl := hZ.lt
  have KB := Lib.hid hK
  have MB := Lib.hid hZ
  have HC := Lib.hid hCW
  have HS := Lib.hid hSW
  have HB := Lib.hid hbW
  have HWW := Lib.hid hW
  have c2 : W.cell? ⟨cb, 2, none⟩ = some (.int .u8 f) := hCW.cell 2
  have c3 : W.cell? ⟨cb, 3, none⟩ = some (.int .i64 (n : Nat)) := hCW.cell 3
  have HCS := Lib.hid hcs
  have k0 : W.cell? ⟨w.heap.size, 0, none⟩ = some (.bool true) := KB.out.cell 0
  have k1 : W.cell? ⟨w.heap.size, 1, none⟩ = some (.bool node) := KB.out.cell 1
  have k2 : W.cell? ⟨w.heap.size, 2, none⟩ = some (.int .u8 form) := KB.out.cell 2
  have k3 : W.cell? ⟨w.heap.size, 3, none⟩ = some (.int .u8 top) := KB.out.cell 3
  have k4 : W.cell? ⟨w.heap.size, 4, none⟩ = some (.int .u8 bot) := KB.out.cell 4
  have k5 : W.cell? ⟨w.heap.size, 5, none⟩ = some (.int .u8 lt) := KB.out.cell 5
  have k6 : W.cell? ⟨w.heap.size, 6, none⟩ = some (.int .u32 lp) := KB.out.cell 6
  have k7 : W.cell? ⟨w.heap.size, 7, none⟩ = some (.int .u8 ht) := KB.out.cell 7
  have k8 : W.cell? ⟨w.heap.size, 8, none⟩ = some (.int .u32 hp) := KB.out.cell 8
  have k9 : W.cell? ⟨w.heap.size, 9, none⟩ = some (.int .u8 tag) := KB.out.cell 9
  have k10 : W.cell? ⟨w.heap.size, 10, none⟩ = some (.int .u8 l) := KB.out.cell 10
  have hn1 : IntKind.u8.wrap (n : Int) = (n : Int) := by simp [IntKind.wrap, IntKind.signed, IntKind.bits]; omega
  obtain ⟨tp, htp⟩ : ∃ tp : Int, tp = topR n ⟨true, node, ⟨form, top, bot, ⟨lt, lp⟩, ⟨ht, hp⟩⟩, tag, l⟩ := ⟨_, rfl⟩
  have HTP := Lib.hid htp
  clear hC h hbW hK hZ hCW hSW hcs hx hlo hhi htp
  show Calls _ _ #[.pointer (some ⟨cb, 0, none⟩), .agg #[.bool true, .bool node, .int .u8 form, .int .u8 top, .int .u8 bot, .int .u8 lt, .int .u32 lp, .int .u8 ht, .int .u32 hp, .int .u8 tag, .int .u8 l], .bool one] _ _
  go_enter Tryz.func53, Tryz.ntmps53
  go_upto_region 1 with fail
  rw [← HWW.out]
  clear hW
  go_upto_if 16 with fail
  go_cut [7] (fun v wx => v = .int .u8 tp ∧ wx = W)
  case first =>
    have := HTP.out
    unfold topR at this
    cases node with
    | true =>
      simp only [if_true] at this
      subst this
      go_wp2_with fail
      go_meet
      exact ⟨rfl, rfl⟩
    | false =>
      simp only [Bool.false_eq_true, if_false] at this
      subst this
      go_wp2_with fail
      go_meet
      exact ⟨rfl, rfl⟩
  obtain ⟨rfl, hwc⟩ := hcut
  subst hwc
  have v1 : IntKind.u8.wrap (l + 1) = l + 1 := by simp [IntKind.wrap, IntKind.signed, IntKind.bits]; omega
  by_cases hlt : l < tp
  · have HPOST : Hid (halfR cs n f ⟨true, node, ⟨form, top, bot, ⟨lt, lp⟩, ⟨ht, hp⟩⟩, tag, l⟩ one = if zeroR f ⟨true, node, ⟨form, top, bot, ⟨lt, lp⟩, ⟨ht, hp⟩⟩, tag, l⟩ && one then .nil else ⟨true, node, ⟨form, top, bot, ⟨lt, lp⟩, ⟨ht, hp⟩⟩, tag, l + 1⟩) := Lib.hid (by
      unfold halfR
      rw [if_pos (by rw [← HTP.out]; exact hlt)])
    obtain ⟨zr, hzr⟩ : ∃ zr, zr = zeroR f ⟨true, node, ⟨form, top, bot, ⟨lt, lp⟩, ⟨ht, hp⟩⟩, tag, l⟩ := ⟨_, rfl⟩
    rw [← hzr] at HPOST
    have HZR := Lib.hid hzr
    clear hzr
    go_upto_region 5 with fail
    go_cut [8] (fun v wx => v = .bool zr ∧ wx = wc)
    case first =>
      have hz := HZR.out
      unfold zeroR at hz
      simp only at hz
      by_cases f2 : f = 2
      · subst f2
        simp at hz
        subst hz
        go_wp2_with fail
        go_meet
        exact ⟨rfl, rfl⟩
      · have g2 : (f == 2) = false := by simpa using f2
        by_cases f4 : f = 4
        · subst f4
          simp at hz
          subst hz
          go_wp2_with fail
          go_meet
          exact ⟨rfl, rfl⟩
        · have g4 : (f == 4) = false := by simpa using f4
          by_cases f5 : f = 5
          · subst f5
            by_cases htl : tag ≤ l
            · have d1 : decide (tag ≤ l) = true := by simpa using htl
              simp [htl] at hz
              subst hz
              go_wp2_with fail
              go_meet
              exact ⟨rfl, rfl⟩
            · have d1 : decide (tag ≤ l) = false := by simpa using htl
              simp [htl] at hz
              subst hz
              go_wp2_with fail
              go_meet
              exact ⟨rfl, rfl⟩
          · have g5 : (f == 5) = false := by simpa using f5
            rw [g2, g4, g5] at hz
            simp at hz
            subst hz
            clear f2 f4 f5
            go_wp2_with fail
            go_meet
            exact ⟨rfl, rfl⟩
    obtain ⟨rfl, hwc⟩ := hcut
    subst hwc
    by_cases hzo : zr = true ∧ one = true
    · obtain ⟨rfl, rfl⟩ := hzo
      have HEQ : Hid (halfR cs n f ⟨true, node, ⟨form, top, bot, ⟨lt, lp⟩, ⟨ht, hp⟩⟩, tag, l⟩ true = .nil) := Lib.hid (by rw [HPOST.out]; rfl)
      have m0 : wc.cell? ⟨w.heap.size + 1, 0, none⟩ = some (.bool false) := (MB.out).cell 0
      have f0 := (MB.out).frozen 0
      have m1 : wc.cell? ⟨w.heap.size + 1, 1, none⟩ = some (.bool false) := (MB.out).cell 1
      have f1 := (MB.out).frozen 1
      have m2 : wc.cell? ⟨w.heap.size + 1, 2, none⟩ = some (.int .u8 0) := (MB.out).cell 2
      have f2 := (MB.out).frozen 2
      have m3 : wc.cell? ⟨w.heap.size + 1, 3, none⟩ = some (.int .u8 0) := (MB.out).cell 3
      have f3 := (MB.out).frozen 3
      have m4 : wc.cell? ⟨w.heap.size + 1, 4, none⟩ = some (.int .u8 0) := (MB.out).cell 4
      have f4 := (MB.out).frozen 4
      have m5 : wc.cell? ⟨w.heap.size + 1, 5, none⟩ = some (.int .u8 0) := (MB.out).cell 5
      have f5 := (MB.out).frozen 5
      have m6 : wc.cell? ⟨w.heap.size + 1, 6, none⟩ = some (.int .u32 0) := (MB.out).cell 6
      have f6 := (MB.out).frozen 6
      have m7 : wc.cell? ⟨w.heap.size + 1, 7, none⟩ = some (.int .u8 0) := (MB.out).cell 7
      have f7 := (MB.out).frozen 7
      have m8 : wc.cell? ⟨w.heap.size + 1, 8, none⟩ = some (.int .u32 0) := (MB.out).cell 8
      have f8 := (MB.out).frozen 8
      have m9 : wc.cell? ⟨w.heap.size + 1, 9, none⟩ = some (.int .u8 0) := (MB.out).cell 9
      have f9 := (MB.out).frozen 9
      have m10 : wc.cell? ⟨w.heap.size + 1, 10, none⟩ = some (.int .u8 0) := (MB.out).cell 10
      have f10 := (MB.out).frozen 10
      go_wp2_with fail
      refine bodyPost_gen (fun V => Blk V (w.heap.size + 1) 72 #[.bool false, .bool false, .int .u8 0, .int .u8 0, .int .u8 0, .int .u8 0, .int .u32 0, .int .u8 0, .int .u32 0, .int .u8 0, .int .u8 0] ∧ Below w.heap.size w V) ⟨(MB.out).rest11 _ _ _ _ _ _ _ _ _ _ _, below_rest11 _ _ _ _ _ _ _ _ _ _ _ (Nat.le_succ _) (HB.out)⟩ ?_
      rintro V ⟨hv, hbv⟩
      have v0 : V.cell? ⟨w.heap.size + 1, 0, none⟩ = some (.bool false) := hv.cell 0
      have v1 : V.cell? ⟨w.heap.size + 1, 1, none⟩ = some (.bool false) := hv.cell 1
      have v2 : V.cell? ⟨w.heap.size + 1, 2, none⟩ = some (.int .u8 0) := hv.cell 2
      have v3 : V.cell? ⟨w.heap.size + 1, 3, none⟩ = some (.int .u8 0) := hv.cell 3
      have v4 : V.cell? ⟨w.heap.size + 1, 4, none⟩ = some (.int .u8 0) := hv.cell 4
      have v5 : V.cell? ⟨w.heap.size + 1, 5, none⟩ = some (.int .u8 0) := hv.cell 5
      have v6 : V.cell? ⟨w.heap.size + 1, 6, none⟩ = some (.int .u32 0) := hv.cell 6
      have v7 : V.cell? ⟨w.heap.size + 1, 7, none⟩ = some (.int .u8 0) := hv.cell 7
      have v8 : V.cell? ⟨w.heap.size + 1, 8, none⟩ = some (.int .u32 0) := hv.cell 8
      have v9 : V.cell? ⟨w.heap.size + 1, 9, none⟩ = some (.int .u8 0) := hv.cell 9
      have v10 : V.cell? ⟨w.heap.size + 1, 10, none⟩ = some (.int .u8 0) := hv.cell 10
      have HBV := Lib.hid hbv
      clear hv hbv
      clear k0 k1 k2 k3 k4 k5 k6 k7 k8 k9 k10 m0 f0 m1 f1 m2 f2 m3 f3 m4 f4 m5 f5 m6 f6 m7 f7 m8 f8 m9 f9 m10 f10
      refine bodyPost_ret (v := .agg #[.bool false, .bool false, .int .u8 0, .int .u8 0, .int .u8 0, .int .u8 0, .int .u32 0, .int .u8 0, .int .u32 0, .int .u8 0, .int .u8 0]) ?_ rfl ⟨by rw [HEQ.out]; rfl, HBV.out⟩
      simp [results, Tryz.results53, go_sem, *]
    · have hzo2 : (zr && one) = false := by
        cases zr <;> cases one <;> simp_all
      have HEQ : Hid (halfR cs n f ⟨true, node, ⟨form, top, bot, ⟨lt, lp⟩, ⟨ht, hp⟩⟩, tag, l⟩ one = ⟨true, node, ⟨form, top, bot, ⟨lt, lp⟩, ⟨ht, hp⟩⟩, tag, l + 1⟩) := Lib.hid (by rw [HPOST.out, hzo2]; rfl)
      have f10 := KB.out.frozen 10
      have tt : (zr = false) ∨ (zr = true ∧ one = false) := by cases zr <;> cases one <;> simp_all
      clear hzo hzo2
      rcases tt with rfl | ⟨rfl, rfl⟩
      · go_upto_region 9 with fail
        refine wp_genS (fun V => Blk V w.heap.size 72 #[.bool true, .bool node, .int .u8 form, .int .u8 top, .int .u8 bot, .int .u8 lt, .int .u32 lp, .int .u8 ht, .int .u32 hp, .int .u8 tag, .int .u8 (l + 1)] ∧ Blk V (w.heap.size + 1) 72 #[.bool false, .bool false, .int .u8 0, .int .u8 0, .int .u8 0, .int .u8 0, .int .u32 0, .int .u8 0, .int .u32 0, .int .u8 0, .int .u8 0] ∧ Below w.heap.size w V) ⟨KB.out.set_ 10 _, MB.out.far (by simp) _, HB.out.setCell (p := ⟨w.heap.size, 10, none⟩) (Nat.le_refl _) _⟩ ?_
        rintro V ⟨hk, hz, hbv⟩
        clear k0 k1 k2 k3 k4 k5 k6 k7 k8 k9 k10 f10
        have k0 : V.cell? ⟨w.heap.size, 0, none⟩ = some (.bool true) := (hk).cell 0
        have k1 : V.cell? ⟨w.heap.size, 1, none⟩ = some (.bool node) := (hk).cell 1
        have k2 : V.cell? ⟨w.heap.size, 2, none⟩ = some (.int .u8 form) := (hk).cell 2
        have k3 : V.cell? ⟨w.heap.size, 3, none⟩ = some (.int .u8 top) := (hk).cell 3
        have k4 : V.cell? ⟨w.heap.size, 4, none⟩ = some (.int .u8 bot) := (hk).cell 4
        have k5 : V.cell? ⟨w.heap.size, 5, none⟩ = some (.int .u8 lt) := (hk).cell 5
        have k6 : V.cell? ⟨w.heap.size, 6, none⟩ = some (.int .u32 lp) := (hk).cell 6
        have k7 : V.cell? ⟨w.heap.size, 7, none⟩ = some (.int .u8 ht) := (hk).cell 7
        have k8 : V.cell? ⟨w.heap.size, 8, none⟩ = some (.int .u32 hp) := (hk).cell 8
        have k9 : V.cell? ⟨w.heap.size, 9, none⟩ = some (.int .u8 tag) := (hk).cell 9
        have k10 : V.cell? ⟨w.heap.size, 10, none⟩ = some (.int .u8 (l + 1)) := (hk).cell 10
        have m0 : V.cell? ⟨w.heap.size + 1, 0, none⟩ = some (.bool false) := (hz).cell 0
        have f0 := (hz).frozen 0
        have m1 : V.cell? ⟨w.heap.size + 1, 1, none⟩ = some (.bool false) := (hz).cell 1
        have f1 := (hz).frozen 1
        have m2 : V.cell? ⟨w.heap.size + 1, 2, none⟩ = some (.int .u8 0) := (hz).cell 2
        have f2 := (hz).frozen 2
        have m3 : V.cell? ⟨w.heap.size + 1, 3, none⟩ = some (.int .u8 0) := (hz).cell 3
        have f3 := (hz).frozen 3
        have m4 : V.cell? ⟨w.heap.size + 1, 4, none⟩ = some (.int .u8 0) := (hz).cell 4
        have f4 := (hz).frozen 4
        have m5 : V.cell? ⟨w.heap.size + 1, 5, none⟩ = some (.int .u8 0) := (hz).cell 5
        have f5 := (hz).frozen 5
        have m6 : V.cell? ⟨w.heap.size + 1, 6, none⟩ = some (.int .u32 0) := (hz).cell 6
        have f6 := (hz).frozen 6
        have m7 : V.cell? ⟨w.heap.size + 1, 7, none⟩ = some (.int .u8 0) := (hz).cell 7
        have f7 := (hz).frozen 7
        have m8 : V.cell? ⟨w.heap.size + 1, 8, none⟩ = some (.int .u32 0) := (hz).cell 8
        have f8 := (hz).frozen 8
        have m9 : V.cell? ⟨w.heap.size + 1, 9, none⟩ = some (.int .u8 0) := (hz).cell 9
        have f9 := (hz).frozen 9
        have m10 : V.cell? ⟨w.heap.size + 1, 10, none⟩ = some (.int .u8 0) := (hz).cell 10
        have f10 := (hz).frozen 10
        have MB2 := Lib.hid hz
        have HB2 := Lib.hid hbv
        clear hk hz hbv
        go_wp2_with fail
        refine bodyPost_gen (fun V => Blk V (w.heap.size + 1) 72 #[.bool true, .bool node, .int .u8 form, .int .u8 top, .int .u8 bot, .int .u8 lt, .int .u32 lp, .int .u8 ht, .int .u32 hp, .int .u8 tag, .int .u8 (l + 1)] ∧ Below w.heap.size w V) ⟨(MB2.out).rest11 _ _ _ _ _ _ _ _ _ _ _, below_rest11 _ _ _ _ _ _ _ _ _ _ _ (Nat.le_succ _) (HB2.out)⟩ ?_
        rintro V ⟨hv, hbv⟩
        have v0 : V.cell? ⟨w.heap.size + 1, 0, none⟩ = some (.bool true) := hv.cell 0
        have v1 : V.cell? ⟨w.heap.size + 1, 1, none⟩ = some (.bool node) := hv.cell 1
        have v2 : V.cell? ⟨w.heap.size + 1, 2, none⟩ = some (.int .u8 form) := hv.cell 2
        have v3 : V.cell? ⟨w.heap.size + 1, 3, none⟩ = some (.int .u8 top) := hv.cell 3
        have v4 : V.cell? ⟨w.heap.size + 1, 4, none⟩ = some (.int .u8 bot) := hv.cell 4
        have v5 : V.cell? ⟨w.heap.size + 1, 5, none⟩ = some (.int .u8 lt) := hv.cell 5
        have v6 : V.cell? ⟨w.heap.size + 1, 6, none⟩ = some (.int .u32 lp) := hv.cell 6
        have v7 : V.cell? ⟨w.heap.size + 1, 7, none⟩ = some (.int .u8 ht) := hv.cell 7
        have v8 : V.cell? ⟨w.heap.size + 1, 8, none⟩ = some (.int .u32 hp) := hv.cell 8
        have v9 : V.cell? ⟨w.heap.size + 1, 9, none⟩ = some (.int .u8 tag) := hv.cell 9
        have v10 : V.cell? ⟨w.heap.size + 1, 10, none⟩ = some (.int .u8 (l + 1)) := hv.cell 10
        have HBV := Lib.hid hbv
        clear hv hbv
        clear k0 k1 k2 k3 k4 k5 k6 k7 k8 k9 k10 m0 f0 m1 f1 m2 f2 m3 f3 m4 f4 m5 f5 m6 f6 m7 f7 m8 f8 m9 f9 m10 f10
        refine bodyPost_ret (v := .agg #[.bool true, .bool node, .int .u8 form, .int .u8 top, .int .u8 bot, .int .u8 lt, .int .u32 lp, .int .u8 ht, .int .u32 hp, .int .u8 tag, .int .u8 (l + 1)]) ?_ rfl ⟨by rw [HEQ.out]; rfl, HBV.out⟩
        simp [results, Tryz.results53, go_sem, *]
      · go_upto_region 9 with fail
        refine wp_genS (fun V => Blk V w.heap.size 72 #[.bool true, .bool node, .int .u8 form, .int .u8 top, .int .u8 bot, .int .u8 lt, .int .u32 lp, .int .u8 ht, .int .u32 hp, .int .u8 tag, .int .u8 (l + 1)] ∧ Blk V (w.heap.size + 1) 72 #[.bool false, .bool false, .int .u8 0, .int .u8 0, .int .u8 0, .int .u8 0, .int .u32 0, .int .u8 0, .int .u32 0, .int .u8 0, .int .u8 0] ∧ Below w.heap.size w V) ⟨KB.out.set_ 10 _, MB.out.far (by simp) _, HB.out.setCell (p := ⟨w.heap.size, 10, none⟩) (Nat.le_refl _) _⟩ ?_
        rintro V ⟨hk, hz, hbv⟩
        clear k0 k1 k2 k3 k4 k5 k6 k7 k8 k9 k10 f10
        have k0 : V.cell? ⟨w.heap.size, 0, none⟩ = some (.bool true) := (hk).cell 0
        have k1 : V.cell? ⟨w.heap.size, 1, none⟩ = some (.bool node) := (hk).cell 1
        have k2 : V.cell? ⟨w.heap.size, 2, none⟩ = some (.int .u8 form) := (hk).cell 2
        have k3 : V.cell? ⟨w.heap.size, 3, none⟩ = some (.int .u8 top) := (hk).cell 3
        have k4 : V.cell? ⟨w.heap.size, 4, none⟩ = some (.int .u8 bot) := (hk).cell 4
        have k5 : V.cell? ⟨w.heap.size, 5, none⟩ = some (.int .u8 lt) := (hk).cell 5
        have k6 : V.cell? ⟨w.heap.size, 6, none⟩ = some (.int .u32 lp) := (hk).cell 6
        have k7 : V.cell? ⟨w.heap.size, 7, none⟩ = some (.int .u8 ht) := (hk).cell 7
        have k8 : V.cell? ⟨w.heap.size, 8, none⟩ = some (.int .u32 hp) := (hk).cell 8
        have k9 : V.cell? ⟨w.heap.size, 9, none⟩ = some (.int .u8 tag) := (hk).cell 9
        have k10 : V.cell? ⟨w.heap.size, 10, none⟩ = some (.int .u8 (l + 1)) := (hk).cell 10
        have m0 : V.cell? ⟨w.heap.size + 1, 0, none⟩ = some (.bool false) := (hz).cell 0
        have f0 := (hz).frozen 0
        have m1 : V.cell? ⟨w.heap.size + 1, 1, none⟩ = some (.bool false) := (hz).cell 1
        have f1 := (hz).frozen 1
        have m2 : V.cell? ⟨w.heap.size + 1, 2, none⟩ = some (.int .u8 0) := (hz).cell 2
        have f2 := (hz).frozen 2
        have m3 : V.cell? ⟨w.heap.size + 1, 3, none⟩ = some (.int .u8 0) := (hz).cell 3
        have f3 := (hz).frozen 3
        have m4 : V.cell? ⟨w.heap.size + 1, 4, none⟩ = some (.int .u8 0) := (hz).cell 4
        have f4 := (hz).frozen 4
        have m5 : V.cell? ⟨w.heap.size + 1, 5, none⟩ = some (.int .u8 0) := (hz).cell 5
        have f5 := (hz).frozen 5
        have m6 : V.cell? ⟨w.heap.size + 1, 6, none⟩ = some (.int .u32 0) := (hz).cell 6
        have f6 := (hz).frozen 6
        have m7 : V.cell? ⟨w.heap.size + 1, 7, none⟩ = some (.int .u8 0) := (hz).cell 7
        have f7 := (hz).frozen 7
        have m8 : V.cell? ⟨w.heap.size + 1, 8, none⟩ = some (.int .u32 0) := (hz).cell 8
        have f8 := (hz).frozen 8
        have m9 : V.cell? ⟨w.heap.size + 1, 9, none⟩ = some (.int .u8 0) := (hz).cell 9
        have f9 := (hz).frozen 9
        have m10 : V.cell? ⟨w.heap.size + 1, 10, none⟩ = some (.int .u8 0) := (hz).cell 10
        have f10 := (hz).frozen 10
        have MB2 := Lib.hid hz
        have HB2 := Lib.hid hbv
        clear hk hz hbv
        go_wp2_with fail
        refine bodyPost_gen (fun V => Blk V (w.heap.size + 1) 72 #[.bool true, .bool node, .int .u8 form, .int .u8 top, .int .u8 bot, .int .u8 lt, .int .u32 lp, .int .u8 ht, .int .u32 hp, .int .u8 tag, .int .u8 (l + 1)] ∧ Below w.heap.size w V) ⟨(MB2.out).rest11 _ _ _ _ _ _ _ _ _ _ _, below_rest11 _ _ _ _ _ _ _ _ _ _ _ (Nat.le_succ _) (HB2.out)⟩ ?_
        rintro V ⟨hv, hbv⟩
        have v0 : V.cell? ⟨w.heap.size + 1, 0, none⟩ = some (.bool true) := hv.cell 0
        have v1 : V.cell? ⟨w.heap.size + 1, 1, none⟩ = some (.bool node) := hv.cell 1
        have v2 : V.cell? ⟨w.heap.size + 1, 2, none⟩ = some (.int .u8 form) := hv.cell 2
        have v3 : V.cell? ⟨w.heap.size + 1, 3, none⟩ = some (.int .u8 top) := hv.cell 3
        have v4 : V.cell? ⟨w.heap.size + 1, 4, none⟩ = some (.int .u8 bot) := hv.cell 4
        have v5 : V.cell? ⟨w.heap.size + 1, 5, none⟩ = some (.int .u8 lt) := hv.cell 5
        have v6 : V.cell? ⟨w.heap.size + 1, 6, none⟩ = some (.int .u32 lp) := hv.cell 6
        have v7 : V.cell? ⟨w.heap.size + 1, 7, none⟩ = some (.int .u8 ht) := hv.cell 7
        have v8 : V.cell? ⟨w.heap.size + 1, 8, none⟩ = some (.int .u32 hp) := hv.cell 8
        have v9 : V.cell? ⟨w.heap.size + 1, 9, none⟩ = some (.int .u8 tag) := hv.cell 9
        have v10 : V.cell? ⟨w.heap.size + 1, 10, none⟩ = some (.int .u8 (l + 1)) := hv.cell 10
        have HBV := Lib.hid hbv
        clear hv hbv
        clear k0 k1 k2 k3 k4 k5 k6 k7 k8 k9 k10 m0 f0 m1 f1 m2 f2 m3 f3 m4 f4 m5 f5 m6 f6 m7 f7 m8 f8 m9 f9 m10 f10
        refine bodyPost_ret (v := .agg #[.bool true, .bool node, .int .u8 form, .int .u8 top, .int .u8 bot, .int .u8 lt, .int .u32 lp, .int .u8 ht, .int .u32 hp, .int .u8 tag, .int .u8 (l + 1)]) ?_ rfl ⟨by rw [HEQ.out]; rfl, HBV.out⟩
        simp [results, Tryz.results53, go_sem, *]
  · have hnode : node = true := by
      cases node with
      | true => rfl
      | false =>
        have := HTP.out
        unfold topR at this
        simp only [Bool.false_eq_true, if_false] at this
        omega
    subst hnode
    have htp2 : tp = top := by
      have := HTP.out
      unfold topR at this
      simpa using this
    subst htp2
    obtain ⟨tb1, tb2⟩ := htop rfl
    have v2 : IntKind.u8.wrap (tp + 1) = tp + 1 := by simp [IntKind.wrap, IntKind.signed, IntKind.bits]; omega
    have HPOST : Hid (halfR cs n f ⟨true, true, ⟨form, tp, bot, ⟨lt, lp⟩, ⟨ht, hp⟩⟩, tag, l⟩ one = if one && (tp == bot || form == 3) then atR cs ⟨ht, hp⟩ (l + 1) else if tp == bot then atR cs ⟨lt, lp⟩ (l + 1) else ⟨true, true, ⟨form, tp + 1, bot, ⟨lt, lp⟩, ⟨ht, hp⟩⟩, tag, l + 1⟩) := Lib.hid (by
      unfold halfR
      rw [if_neg (by unfold topR; simpa using hlt)])
    go_upto_region 13 with fail
    refine wp_genS (fun V => Blk V w.heap.size 72 #[.bool true, .bool true, .int .u8 form, .int .u8 tp, .int .u8 bot, .int .u8 lt, .int .u32 lp, .int .u8 ht, .int .u32 hp, .int .u8 tag, .int .u8 l] ∧ Blk V (w.heap.size + 1) 72 #[.bool false, .bool false, .int .u8 0, .int .u8 0, .int .u8 0, .int .u8 0, .int .u32 0, .int .u8 0, .int .u32 0, .int .u8 0, .int .u8 0] ∧ Blk V wc.heap.size 72 #[.bool true, .bool true, .int .u8 form, .int .u8 (tp + 1), .int .u8 bot, .int .u8 lt, .int .u32 lp, .int .u8 ht, .int .u32 hp, .int .u8 tag, .int .u8 (l + 1)] ∧ Below w.heap.size w V ∧ StoreAt V F gs n room cs free ∧ CastAt V cb gs go f n) ?_ ?_
    · have hb2 : Below wc.heap.size wc (wc.alloc (.cells #[.bool true, .bool true, .int .u8 form, .int .u8 (tp + 1), .int .u8 bot, .int .u8 lt, .int .u32 lp, .int .u8 ht, .int .u32 hp, .int .u8 tag, .int .u8 (l + 1)] 72)) := (Below.refl _ _).alloc (Nat.le_refl _) _
      exact ⟨Blk.onB KB.out hb2, Blk.onB MB.out hb2, Blk.new _ _ _, HB.out.trans (hb2.mono HB.out.size), HS.out.on hb2, Blk.onB HC.out hb2⟩
    rintro V ⟨hk, hz, hnx, hbv, hst, hca⟩
    clear k0 k1 k2 k3 k4 k5 k6 k7 k8 k9 k10
    have k0 : V.cell? ⟨w.heap.size, 0, none⟩ = some (.bool true) := (hk).cell 0
    have k1 : V.cell? ⟨w.heap.size, 1, none⟩ = some (.bool true) := (hk).cell 1
    have k2 : V.cell? ⟨w.heap.size, 2, none⟩ = some (.int .u8 form) := (hk).cell 2
    have k3 : V.cell? ⟨w.heap.size, 3, none⟩ = some (.int .u8 tp) := (hk).cell 3
    have k4 : V.cell? ⟨w.heap.size, 4, none⟩ = some (.int .u8 bot) := (hk).cell 4
    have k5 : V.cell? ⟨w.heap.size, 5, none⟩ = some (.int .u8 lt) := (hk).cell 5
    have k6 : V.cell? ⟨w.heap.size, 6, none⟩ = some (.int .u32 lp) := (hk).cell 6
    have k7 : V.cell? ⟨w.heap.size, 7, none⟩ = some (.int .u8 ht) := (hk).cell 7
    have k8 : V.cell? ⟨w.heap.size, 8, none⟩ = some (.int .u32 hp) := (hk).cell 8
    have k9 : V.cell? ⟨w.heap.size, 9, none⟩ = some (.int .u8 tag) := (hk).cell 9
    have k10 : V.cell? ⟨w.heap.size, 10, none⟩ = some (.int .u8 l) := (hk).cell 10
    have x0 : V.cell? ⟨wc.heap.size, 0, none⟩ = some (.bool true) := (hnx).cell 0
    have x1 : V.cell? ⟨wc.heap.size, 1, none⟩ = some (.bool true) := (hnx).cell 1
    have x2 : V.cell? ⟨wc.heap.size, 2, none⟩ = some (.int .u8 form) := (hnx).cell 2
    have x3 : V.cell? ⟨wc.heap.size, 3, none⟩ = some (.int .u8 (tp + 1)) := (hnx).cell 3
    have x4 : V.cell? ⟨wc.heap.size, 4, none⟩ = some (.int .u8 bot) := (hnx).cell 4
    have x5 : V.cell? ⟨wc.heap.size, 5, none⟩ = some (.int .u8 lt) := (hnx).cell 5
    have x6 : V.cell? ⟨wc.heap.size, 6, none⟩ = some (.int .u32 lp) := (hnx).cell 6
    have x7 : V.cell? ⟨wc.heap.size, 7, none⟩ = some (.int .u8 ht) := (hnx).cell 7
    have x8 : V.cell? ⟨wc.heap.size, 8, none⟩ = some (.int .u32 hp) := (hnx).cell 8
    have x9 : V.cell? ⟨wc.heap.size, 9, none⟩ = some (.int .u8 tag) := (hnx).cell 9
    have x10 : V.cell? ⟨wc.heap.size, 10, none⟩ = some (.int .u8 (l + 1)) := (hnx).cell 10
    have MB2 := Lib.hid hz
    have HB2 := Lib.hid hbv
    have HST2 := Lib.hid (And.intro hst hca)
    have hkl2 := hk.lt
    have hzl2 := hz.lt
    have hnl2 := hnx.lt
    clear hk hz hnx hbv hst hca
    by_cases htb : tp = bot
    · have htb2 : (tp == bot) = true := by simpa using htb
      clear htb
      cases one with
      | true =>
        have HEQ0 : Hid (halfR cs n f ⟨true, true, ⟨form, tp, bot, ⟨lt, lp⟩, ⟨ht, hp⟩⟩, tag, l⟩ true = atR cs ⟨ht, hp⟩ (l + 1)) := Lib.hid (by rw [HPOST.out]; simp [htb2])
        obtain ⟨y, hy⟩ : ∃ y, y = atR cs ⟨ht, hp⟩ (l + 1) := ⟨_, rfl⟩
        have HEQ : Hid (halfR cs n f ⟨true, true, ⟨form, tp, bot, ⟨lt, lp⟩, ⟨ht, hp⟩⟩, tag, l⟩ true = y) := Lib.hid (by rw [HEQ0.out, hy])
        have HCA : Hid (Calls Tryz.prog 52 #[.pointer (some ⟨cb, 0, none⟩), .agg #[.int .u8 ht, .int .u32 hp], .int .u8 (l + 1)] V fun e w' => e = .returned (.agg #[.bool y.inn, .bool y.node, .int .u8 y.r.form, .int .u8 y.r.top, .int .u8 y.r.bot, .int .u8 y.r.lo.tag, .int .u32 y.r.lo.pos, .int .u8 y.r.hi.tag, .int .u32 y.r.hi.pos, .int .u8 y.tag, .int .u8 y.l]) ∧ Below V.heap.size V w') := Lib.hid ((hHI.out V HST2.out.1 HST2.out.2).mono fun _ _ q => ⟨by rw [q.1, hy]; rfl, q.2⟩)
        clear hy
        go_wp2_with fail
        refine HCA.out.mono ?_
        rintro e w5 ⟨rfl, hb5⟩
        have hz5 := Blk.onB MB2.out hb5
        have HB5 := Lib.hid (HB2.out.trans (hb5.mono HB2.out.size))
        have MB5 := Lib.hid hz5
        clear k0 k1 k2 k3 k4 k5 k6 k7 k8 k9 k10 x0 x1 x2 x3 x4 x5 x6 x7 x8 x9 x10
        have m0 : w5.cell? ⟨w.heap.size + 1, 0, none⟩ = some (.bool false) := (hz5).cell 0
        have f0 := (hz5).frozen 0
        have m1 : w5.cell? ⟨w.heap.size + 1, 1, none⟩ = some (.bool false) := (hz5).cell 1
        have f1 := (hz5).frozen 1
        have m2 : w5.cell? ⟨w.heap.size + 1, 2, none⟩ = some (.int .u8 0) := (hz5).cell 2
        have f2 := (hz5).frozen 2
        have m3 : w5.cell? ⟨w.heap.size + 1, 3, none⟩ = some (.int .u8 0) := (hz5).cell 3
        have f3 := (hz5).frozen 3
        have m4 : w5.cell? ⟨w.heap.size + 1, 4, none⟩ = some (.int .u8 0) := (hz5).cell 4
        have f4 := (hz5).frozen 4
        have m5 : w5.cell? ⟨w.heap.size + 1, 5, none⟩ = some (.int .u8 0) := (hz5).cell 5
        have f5 := (hz5).frozen 5
        have m6 : w5.cell? ⟨w.heap.size + 1, 6, none⟩ = some (.int .u32 0) := (hz5).cell 6
        have f6 := (hz5).frozen 6
        have m7 : w5.cell? ⟨w.heap.size + 1, 7, none⟩ = some (.int .u8 0) := (hz5).cell 7
        have f7 := (hz5).frozen 7
        have m8 : w5.cell? ⟨w.heap.size + 1, 8, none⟩ = some (.int .u32 0) := (hz5).cell 8
        have f8 := (hz5).frozen 8
        have m9 : w5.cell? ⟨w.heap.size + 1, 9, none⟩ = some (.int .u8 0) := (hz5).cell 9
        have f9 := (hz5).frozen 9
        have m10 : w5.cell? ⟨w.heap.size + 1, 10, none⟩ = some (.int .u8 0) := (hz5).cell 10
        have f10 := (hz5).frozen 10
        clear hz5 hb5
        go_wp2_with fail
        refine bodyPost_gen (fun V => Blk V (w.heap.size + 1) 72 #[.bool y.inn, .bool y.node, .int .u8 y.r.form, .int .u8 y.r.top, .int .u8 y.r.bot, .int .u8 y.r.lo.tag, .int .u32 y.r.lo.pos, .int .u8 y.r.hi.tag, .int .u32 y.r.hi.pos, .int .u8 y.tag, .int .u8 y.l] ∧ Below w.heap.size w V) ⟨(MB5.out).rest11 _ _ _ _ _ _ _ _ _ _ _, below_rest11 _ _ _ _ _ _ _ _ _ _ _ (Nat.le_succ _) (HB5.out)⟩ ?_
        rintro V ⟨hv, hbv⟩
        have v0 : V.cell? ⟨w.heap.size + 1, 0, none⟩ = some (.bool y.inn) := hv.cell 0
        have v1 : V.cell? ⟨w.heap.size + 1, 1, none⟩ = some (.bool y.node) := hv.cell 1
        have v2 : V.cell? ⟨w.heap.size + 1, 2, none⟩ = some (.int .u8 y.r.form) := hv.cell 2
        have v3 : V.cell? ⟨w.heap.size + 1, 3, none⟩ = some (.int .u8 y.r.top) := hv.cell 3
        have v4 : V.cell? ⟨w.heap.size + 1, 4, none⟩ = some (.int .u8 y.r.bot) := hv.cell 4
        have v5 : V.cell? ⟨w.heap.size + 1, 5, none⟩ = some (.int .u8 y.r.lo.tag) := hv.cell 5
        have v6 : V.cell? ⟨w.heap.size + 1, 6, none⟩ = some (.int .u32 y.r.lo.pos) := hv.cell 6
        have v7 : V.cell? ⟨w.heap.size + 1, 7, none⟩ = some (.int .u8 y.r.hi.tag) := hv.cell 7
        have v8 : V.cell? ⟨w.heap.size + 1, 8, none⟩ = some (.int .u32 y.r.hi.pos) := hv.cell 8
        have v9 : V.cell? ⟨w.heap.size + 1, 9, none⟩ = some (.int .u8 y.tag) := hv.cell 9
        have v10 : V.cell? ⟨w.heap.size + 1, 10, none⟩ = some (.int .u8 y.l) := hv.cell 10
        have HBV := Lib.hid hbv
        clear hv hbv
        clear m0 f0 m1 f1 m2 f2 m3 f3 m4 f4 m5 f5 m6 f6 m7 f7 m8 f8 m9 f9 m10 f10
        refine bodyPost_ret (v := .agg #[.bool y.inn, .bool y.node, .int .u8 y.r.form, .int .u8 y.r.top, .int .u8 y.r.bot, .int .u8 y.r.lo.tag, .int .u32 y.r.lo.pos, .int .u8 y.r.hi.tag, .int .u32 y.r.hi.pos, .int .u8 y.tag, .int .u8 y.l]) ?_ rfl ⟨by rw [HEQ.out]; rfl, HBV.out⟩
        simp [results, Tryz.results53, go_sem, *]
      | false =>
        by_cases h3 : form = 3
        · have h3b : (form == 3) = true := by simpa using h3
          clear h3
          have HEQ0 : Hid (halfR cs n f ⟨true, true, ⟨form, tp, bot, ⟨lt, lp⟩, ⟨ht, hp⟩⟩, tag, l⟩ false = atR cs ⟨lt, lp⟩ (l + 1)) := Lib.hid (by rw [HPOST.out]; simp [htb2])
          obtain ⟨y, hy⟩ : ∃ y, y = atR cs ⟨lt, lp⟩ (l + 1) := ⟨_, rfl⟩
          have HEQ : Hid (halfR cs n f ⟨true, true, ⟨form, tp, bot, ⟨lt, lp⟩, ⟨ht, hp⟩⟩, tag, l⟩ false = y) := Lib.hid (by rw [HEQ0.out, hy])
          have HCA : Hid (Calls Tryz.prog 52 #[.pointer (some ⟨cb, 0, none⟩), .agg #[.int .u8 lt, .int .u32 lp], .int .u8 (l + 1)] V fun e w' => e = .returned (.agg #[.bool y.inn, .bool y.node, .int .u8 y.r.form, .int .u8 y.r.top, .int .u8 y.r.bot, .int .u8 y.r.lo.tag, .int .u32 y.r.lo.pos, .int .u8 y.r.hi.tag, .int .u32 y.r.hi.pos, .int .u8 y.tag, .int .u8 y.l]) ∧ Below V.heap.size V w') := Lib.hid ((hLO.out V HST2.out.1 HST2.out.2).mono fun _ _ q => ⟨by rw [q.1, hy]; rfl, q.2⟩)
          clear hy
          go_wp2_with fail
          refine HCA.out.mono ?_
          rintro e w5 ⟨rfl, hb5⟩
          have hz5 := Blk.onB MB2.out hb5
          have HB5 := Lib.hid (HB2.out.trans (hb5.mono HB2.out.size))
          have MB5 := Lib.hid hz5
          clear k0 k1 k2 k3 k4 k5 k6 k7 k8 k9 k10 x0 x1 x2 x3 x4 x5 x6 x7 x8 x9 x10
          have m0 : w5.cell? ⟨w.heap.size + 1, 0, none⟩ = some (.bool false) := (hz5).cell 0
          have f0 := (hz5).frozen 0
          have m1 : w5.cell? ⟨w.heap.size + 1, 1, none⟩ = some (.bool false) := (hz5).cell 1
          have f1 := (hz5).frozen 1
          have m2 : w5.cell? ⟨w.heap.size + 1, 2, none⟩ = some (.int .u8 0) := (hz5).cell 2
          have f2 := (hz5).frozen 2
          have m3 : w5.cell? ⟨w.heap.size + 1, 3, none⟩ = some (.int .u8 0) := (hz5).cell 3
          have f3 := (hz5).frozen 3
          have m4 : w5.cell? ⟨w.heap.size + 1, 4, none⟩ = some (.int .u8 0) := (hz5).cell 4
          have f4 := (hz5).frozen 4
          have m5 : w5.cell? ⟨w.heap.size + 1, 5, none⟩ = some (.int .u8 0) := (hz5).cell 5
          have f5 := (hz5).frozen 5
          have m6 : w5.cell? ⟨w.heap.size + 1, 6, none⟩ = some (.int .u32 0) := (hz5).cell 6
          have f6 := (hz5).frozen 6
          have m7 : w5.cell? ⟨w.heap.size + 1, 7, none⟩ = some (.int .u8 0) := (hz5).cell 7
          have f7 := (hz5).frozen 7
          have m8 : w5.cell? ⟨w.heap.size + 1, 8, none⟩ = some (.int .u32 0) := (hz5).cell 8
          have f8 := (hz5).frozen 8
          have m9 : w5.cell? ⟨w.heap.size + 1, 9, none⟩ = some (.int .u8 0) := (hz5).cell 9
          have f9 := (hz5).frozen 9
          have m10 : w5.cell? ⟨w.heap.size + 1, 10, none⟩ = some (.int .u8 0) := (hz5).cell 10
          have f10 := (hz5).frozen 10
          clear hz5 hb5
          go_wp2_with fail
          refine bodyPost_gen (fun V => Blk V (w.heap.size + 1) 72 #[.bool y.inn, .bool y.node, .int .u8 y.r.form, .int .u8 y.r.top, .int .u8 y.r.bot, .int .u8 y.r.lo.tag, .int .u32 y.r.lo.pos, .int .u8 y.r.hi.tag, .int .u32 y.r.hi.pos, .int .u8 y.tag, .int .u8 y.l] ∧ Below w.heap.size w V) ⟨(MB5.out).rest11 _ _ _ _ _ _ _ _ _ _ _, below_rest11 _ _ _ _ _ _ _ _ _ _ _ (Nat.le_succ _) (HB5.out)⟩ ?_
          rintro V ⟨hv, hbv⟩
          have v0 : V.cell? ⟨w.heap.size + 1, 0, none⟩ = some (.bool y.inn) := hv.cell 0
          have v1 : V.cell? ⟨w.heap.size + 1, 1, none⟩ = some (.bool y.node) := hv.cell 1
          have v2 : V.cell? ⟨w.heap.size + 1, 2, none⟩ = some (.int .u8 y.r.form) := hv.cell 2
          have v3 : V.cell? ⟨w.heap.size + 1, 3, none⟩ = some (.int .u8 y.r.top) := hv.cell 3
          have v4 : V.cell? ⟨w.heap.size + 1, 4, none⟩ = some (.int .u8 y.r.bot) := hv.cell 4
          have v5 : V.cell? ⟨w.heap.size + 1, 5, none⟩ = some (.int .u8 y.r.lo.tag) := hv.cell 5
          have v6 : V.cell? ⟨w.heap.size + 1, 6, none⟩ = some (.int .u32 y.r.lo.pos) := hv.cell 6
          have v7 : V.cell? ⟨w.heap.size + 1, 7, none⟩ = some (.int .u8 y.r.hi.tag) := hv.cell 7
          have v8 : V.cell? ⟨w.heap.size + 1, 8, none⟩ = some (.int .u32 y.r.hi.pos) := hv.cell 8
          have v9 : V.cell? ⟨w.heap.size + 1, 9, none⟩ = some (.int .u8 y.tag) := hv.cell 9
          have v10 : V.cell? ⟨w.heap.size + 1, 10, none⟩ = some (.int .u8 y.l) := hv.cell 10
          have HBV := Lib.hid hbv
          clear hv hbv
          clear m0 f0 m1 f1 m2 f2 m3 f3 m4 f4 m5 f5 m6 f6 m7 f7 m8 f8 m9 f9 m10 f10
          refine bodyPost_ret (v := .agg #[.bool y.inn, .bool y.node, .int .u8 y.r.form, .int .u8 y.r.top, .int .u8 y.r.bot, .int .u8 y.r.lo.tag, .int .u32 y.r.lo.pos, .int .u8 y.r.hi.tag, .int .u32 y.r.hi.pos, .int .u8 y.tag, .int .u8 y.l]) ?_ rfl ⟨by rw [HEQ.out]; rfl, HBV.out⟩
          simp [results, Tryz.results53, go_sem, *]
        · have h3b : (form == 3) = false := by simpa using h3
          have HEQ0 : Hid (halfR cs n f ⟨true, true, ⟨form, tp, bot, ⟨lt, lp⟩, ⟨ht, hp⟩⟩, tag, l⟩ false = atR cs ⟨lt, lp⟩ (l + 1)) := Lib.hid (by rw [HPOST.out]; simp [htb2])
          obtain ⟨y, hy⟩ : ∃ y, y = atR cs ⟨lt, lp⟩ (l + 1) := ⟨_, rfl⟩
          have HEQ : Hid (halfR cs n f ⟨true, true, ⟨form, tp, bot, ⟨lt, lp⟩, ⟨ht, hp⟩⟩, tag, l⟩ false = y) := Lib.hid (by rw [HEQ0.out, hy])
          have HCA : Hid (Calls Tryz.prog 52 #[.pointer (some ⟨cb, 0, none⟩), .agg #[.int .u8 lt, .int .u32 lp], .int .u8 (l + 1)] V fun e w' => e = .returned (.agg #[.bool y.inn, .bool y.node, .int .u8 y.r.form, .int .u8 y.r.top, .int .u8 y.r.bot, .int .u8 y.r.lo.tag, .int .u32 y.r.lo.pos, .int .u8 y.r.hi.tag, .int .u32 y.r.hi.pos, .int .u8 y.tag, .int .u8 y.l]) ∧ Below V.heap.size V w') := Lib.hid ((hLO.out V HST2.out.1 HST2.out.2).mono fun _ _ q => ⟨by rw [q.1, hy]; rfl, q.2⟩)
          clear hy
          go_wp2_with fail
          refine HCA.out.mono ?_
          rintro e w5 ⟨rfl, hb5⟩
          have hz5 := Blk.onB MB2.out hb5
          have HB5 := Lib.hid (HB2.out.trans (hb5.mono HB2.out.size))
          have MB5 := Lib.hid hz5
          clear k0 k1 k2 k3 k4 k5 k6 k7 k8 k9 k10 x0 x1 x2 x3 x4 x5 x6 x7 x8 x9 x10
          have m0 : w5.cell? ⟨w.heap.size + 1, 0, none⟩ = some (.bool false) := (hz5).cell 0
          have f0 := (hz5).frozen 0
          have m1 : w5.cell? ⟨w.heap.size + 1, 1, none⟩ = some (.bool false) := (hz5).cell 1
          have f1 := (hz5).frozen 1
          have m2 : w5.cell? ⟨w.heap.size + 1, 2, none⟩ = some (.int .u8 0) := (hz5).cell 2
          have f2 := (hz5).frozen 2
          have m3 : w5.cell? ⟨w.heap.size + 1, 3, none⟩ = some (.int .u8 0) := (hz5).cell 3
          have f3 := (hz5).frozen 3
          have m4 : w5.cell? ⟨w.heap.size + 1, 4, none⟩ = some (.int .u8 0) := (hz5).cell 4
          have f4 := (hz5).frozen 4
          have m5 : w5.cell? ⟨w.heap.size + 1, 5, none⟩ = some (.int .u8 0) := (hz5).cell 5
          have f5 := (hz5).frozen 5
          have m6 : w5.cell? ⟨w.heap.size + 1, 6, none⟩ = some (.int .u32 0) := (hz5).cell 6
          have f6 := (hz5).frozen 6
          have m7 : w5.cell? ⟨w.heap.size + 1, 7, none⟩ = some (.int .u8 0) := (hz5).cell 7
          have f7 := (hz5).frozen 7
          have m8 : w5.cell? ⟨w.heap.size + 1, 8, none⟩ = some (.int .u32 0) := (hz5).cell 8
          have f8 := (hz5).frozen 8
          have m9 : w5.cell? ⟨w.heap.size + 1, 9, none⟩ = some (.int .u8 0) := (hz5).cell 9
          have f9 := (hz5).frozen 9
          have m10 : w5.cell? ⟨w.heap.size + 1, 10, none⟩ = some (.int .u8 0) := (hz5).cell 10
          have f10 := (hz5).frozen 10
          clear hz5 hb5
          go_wp2_with fail
          refine bodyPost_gen (fun V => Blk V (w.heap.size + 1) 72 #[.bool y.inn, .bool y.node, .int .u8 y.r.form, .int .u8 y.r.top, .int .u8 y.r.bot, .int .u8 y.r.lo.tag, .int .u32 y.r.lo.pos, .int .u8 y.r.hi.tag, .int .u32 y.r.hi.pos, .int .u8 y.tag, .int .u8 y.l] ∧ Below w.heap.size w V) ⟨(MB5.out).rest11 _ _ _ _ _ _ _ _ _ _ _, below_rest11 _ _ _ _ _ _ _ _ _ _ _ (Nat.le_succ _) (HB5.out)⟩ ?_
          rintro V ⟨hv, hbv⟩
          have v0 : V.cell? ⟨w.heap.size + 1, 0, none⟩ = some (.bool y.inn) := hv.cell 0
          have v1 : V.cell? ⟨w.heap.size + 1, 1, none⟩ = some (.bool y.node) := hv.cell 1
          have v2 : V.cell? ⟨w.heap.size + 1, 2, none⟩ = some (.int .u8 y.r.form) := hv.cell 2
          have v3 : V.cell? ⟨w.heap.size + 1, 3, none⟩ = some (.int .u8 y.r.top) := hv.cell 3
          have v4 : V.cell? ⟨w.heap.size + 1, 4, none⟩ = some (.int .u8 y.r.bot) := hv.cell 4
          have v5 : V.cell? ⟨w.heap.size + 1, 5, none⟩ = some (.int .u8 y.r.lo.tag) := hv.cell 5
          have v6 : V.cell? ⟨w.heap.size + 1, 6, none⟩ = some (.int .u32 y.r.lo.pos) := hv.cell 6
          have v7 : V.cell? ⟨w.heap.size + 1, 7, none⟩ = some (.int .u8 y.r.hi.tag) := hv.cell 7
          have v8 : V.cell? ⟨w.heap.size + 1, 8, none⟩ = some (.int .u32 y.r.hi.pos) := hv.cell 8
          have v9 : V.cell? ⟨w.heap.size + 1, 9, none⟩ = some (.int .u8 y.tag) := hv.cell 9
          have v10 : V.cell? ⟨w.heap.size + 1, 10, none⟩ = some (.int .u8 y.l) := hv.cell 10
          have HBV := Lib.hid hbv
          clear hv hbv
          clear m0 f0 m1 f1 m2 f2 m3 f3 m4 f4 m5 f5 m6 f6 m7 f7 m8 f8 m9 f9 m10 f10
          refine bodyPost_ret (v := .agg #[.bool y.inn, .bool y.node, .int .u8 y.r.form, .int .u8 y.r.top, .int .u8 y.r.bot, .int .u8 y.r.lo.tag, .int .u32 y.r.lo.pos, .int .u8 y.r.hi.tag, .int .u32 y.r.hi.pos, .int .u8 y.tag, .int .u8 y.l]) ?_ rfl ⟨by rw [HEQ.out]; rfl, HBV.out⟩
          simp [results, Tryz.results53, go_sem, *]
    · have htb2 : (tp == bot) = false := by simpa using htb
      cases one with
      | true =>
        by_cases h3 : form = 3
        · have h3b : (form == 3) = true := by simpa using h3
          clear h3
          have HEQ0 : Hid (halfR cs n f ⟨true, true, ⟨form, tp, bot, ⟨lt, lp⟩, ⟨ht, hp⟩⟩, tag, l⟩ true = atR cs ⟨ht, hp⟩ (l + 1)) := Lib.hid (by rw [HPOST.out]; simp [htb2, h3b])
          obtain ⟨y, hy⟩ : ∃ y, y = atR cs ⟨ht, hp⟩ (l + 1) := ⟨_, rfl⟩
          have HEQ : Hid (halfR cs n f ⟨true, true, ⟨form, tp, bot, ⟨lt, lp⟩, ⟨ht, hp⟩⟩, tag, l⟩ true = y) := Lib.hid (by rw [HEQ0.out, hy])
          have HCA : Hid (Calls Tryz.prog 52 #[.pointer (some ⟨cb, 0, none⟩), .agg #[.int .u8 ht, .int .u32 hp], .int .u8 (l + 1)] V fun e w' => e = .returned (.agg #[.bool y.inn, .bool y.node, .int .u8 y.r.form, .int .u8 y.r.top, .int .u8 y.r.bot, .int .u8 y.r.lo.tag, .int .u32 y.r.lo.pos, .int .u8 y.r.hi.tag, .int .u32 y.r.hi.pos, .int .u8 y.tag, .int .u8 y.l]) ∧ Below V.heap.size V w') := Lib.hid ((hHI.out V HST2.out.1 HST2.out.2).mono fun _ _ q => ⟨by rw [q.1, hy]; rfl, q.2⟩)
          clear hy
          go_wp2_with fail
          refine HCA.out.mono ?_
          rintro e w5 ⟨rfl, hb5⟩
          have hz5 := Blk.onB MB2.out hb5
          have HB5 := Lib.hid (HB2.out.trans (hb5.mono HB2.out.size))
          have MB5 := Lib.hid hz5
          clear k0 k1 k2 k3 k4 k5 k6 k7 k8 k9 k10 x0 x1 x2 x3 x4 x5 x6 x7 x8 x9 x10
          have m0 : w5.cell? ⟨w.heap.size + 1, 0, none⟩ = some (.bool false) := (hz5).cell 0
          have f0 := (hz5).frozen 0
          have m1 : w5.cell? ⟨w.heap.size + 1, 1, none⟩ = some (.bool false) := (hz5).cell 1
          have f1 := (hz5).frozen 1
          have m2 : w5.cell? ⟨w.heap.size + 1, 2, none⟩ = some (.int .u8 0) := (hz5).cell 2
          have f2 := (hz5).frozen 2
          have m3 : w5.cell? ⟨w.heap.size + 1, 3, none⟩ = some (.int .u8 0) := (hz5).cell 3
          have f3 := (hz5).frozen 3
          have m4 : w5.cell? ⟨w.heap.size + 1, 4, none⟩ = some (.int .u8 0) := (hz5).cell 4
          have f4 := (hz5).frozen 4
          have m5 : w5.cell? ⟨w.heap.size + 1, 5, none⟩ = some (.int .u8 0) := (hz5).cell 5
          have f5 := (hz5).frozen 5
          have m6 : w5.cell? ⟨w.heap.size + 1, 6, none⟩ = some (.int .u32 0) := (hz5).cell 6
          have f6 := (hz5).frozen 6
          have m7 : w5.cell? ⟨w.heap.size + 1, 7, none⟩ = some (.int .u8 0) := (hz5).cell 7
          have f7 := (hz5).frozen 7
          have m8 : w5.cell? ⟨w.heap.size + 1, 8, none⟩ = some (.int .u32 0) := (hz5).cell 8
          have f8 := (hz5).frozen 8
          have m9 : w5.cell? ⟨w.heap.size + 1, 9, none⟩ = some (.int .u8 0) := (hz5).cell 9
          have f9 := (hz5).frozen 9
          have m10 : w5.cell? ⟨w.heap.size + 1, 10, none⟩ = some (.int .u8 0) := (hz5).cell 10
          have f10 := (hz5).frozen 10
          clear hz5 hb5
          go_wp2_with fail
          refine bodyPost_gen (fun V => Blk V (w.heap.size + 1) 72 #[.bool y.inn, .bool y.node, .int .u8 y.r.form, .int .u8 y.r.top, .int .u8 y.r.bot, .int .u8 y.r.lo.tag, .int .u32 y.r.lo.pos, .int .u8 y.r.hi.tag, .int .u32 y.r.hi.pos, .int .u8 y.tag, .int .u8 y.l] ∧ Below w.heap.size w V) ⟨(MB5.out).rest11 _ _ _ _ _ _ _ _ _ _ _, below_rest11 _ _ _ _ _ _ _ _ _ _ _ (Nat.le_succ _) (HB5.out)⟩ ?_
          rintro V ⟨hv, hbv⟩
          have v0 : V.cell? ⟨w.heap.size + 1, 0, none⟩ = some (.bool y.inn) := hv.cell 0
          have v1 : V.cell? ⟨w.heap.size + 1, 1, none⟩ = some (.bool y.node) := hv.cell 1
          have v2 : V.cell? ⟨w.heap.size + 1, 2, none⟩ = some (.int .u8 y.r.form) := hv.cell 2
          have v3 : V.cell? ⟨w.heap.size + 1, 3, none⟩ = some (.int .u8 y.r.top) := hv.cell 3
          have v4 : V.cell? ⟨w.heap.size + 1, 4, none⟩ = some (.int .u8 y.r.bot) := hv.cell 4
          have v5 : V.cell? ⟨w.heap.size + 1, 5, none⟩ = some (.int .u8 y.r.lo.tag) := hv.cell 5
          have v6 : V.cell? ⟨w.heap.size + 1, 6, none⟩ = some (.int .u32 y.r.lo.pos) := hv.cell 6
          have v7 : V.cell? ⟨w.heap.size + 1, 7, none⟩ = some (.int .u8 y.r.hi.tag) := hv.cell 7
          have v8 : V.cell? ⟨w.heap.size + 1, 8, none⟩ = some (.int .u32 y.r.hi.pos) := hv.cell 8
          have v9 : V.cell? ⟨w.heap.size + 1, 9, none⟩ = some (.int .u8 y.tag) := hv.cell 9
          have v10 : V.cell? ⟨w.heap.size + 1, 10, none⟩ = some (.int .u8 y.l) := hv.cell 10
          have HBV := Lib.hid hbv
          clear hv hbv
          clear m0 f0 m1 f1 m2 f2 m3 f3 m4 f4 m5 f5 m6 f6 m7 f7 m8 f8 m9 f9 m10 f10
          refine bodyPost_ret (v := .agg #[.bool y.inn, .bool y.node, .int .u8 y.r.form, .int .u8 y.r.top, .int .u8 y.r.bot, .int .u8 y.r.lo.tag, .int .u32 y.r.lo.pos, .int .u8 y.r.hi.tag, .int .u32 y.r.hi.pos, .int .u8 y.tag, .int .u8 y.l]) ?_ rfl ⟨by rw [HEQ.out]; rfl, HBV.out⟩
          simp [results, Tryz.results53, go_sem, *]
        · have h3b : (form == 3) = false := by simpa using h3
          have HEQ : Hid (halfR cs n f ⟨true, true, ⟨form, tp, bot, ⟨lt, lp⟩, ⟨ht, hp⟩⟩, tag, l⟩ true = ⟨true, true, ⟨form, tp + 1, bot, ⟨lt, lp⟩, ⟨ht, hp⟩⟩, tag, l + 1⟩) := Lib.hid (by rw [HPOST.out]; simp [h3b, htb2])
          have hz5 := MB2.out
          have m0 : V.cell? ⟨w.heap.size + 1, 0, none⟩ = some (.bool false) := (hz5).cell 0
          have f0 := (hz5).frozen 0
          have m1 : V.cell? ⟨w.heap.size + 1, 1, none⟩ = some (.bool false) := (hz5).cell 1
          have f1 := (hz5).frozen 1
          have m2 : V.cell? ⟨w.heap.size + 1, 2, none⟩ = some (.int .u8 0) := (hz5).cell 2
          have f2 := (hz5).frozen 2
          have m3 : V.cell? ⟨w.heap.size + 1, 3, none⟩ = some (.int .u8 0) := (hz5).cell 3
          have f3 := (hz5).frozen 3
          have m4 : V.cell? ⟨w.heap.size + 1, 4, none⟩ = some (.int .u8 0) := (hz5).cell 4
          have f4 := (hz5).frozen 4
          have m5 : V.cell? ⟨w.heap.size + 1, 5, none⟩ = some (.int .u8 0) := (hz5).cell 5
          have f5 := (hz5).frozen 5
          have m6 : V.cell? ⟨w.heap.size + 1, 6, none⟩ = some (.int .u32 0) := (hz5).cell 6
          have f6 := (hz5).frozen 6
          have m7 : V.cell? ⟨w.heap.size + 1, 7, none⟩ = some (.int .u8 0) := (hz5).cell 7
          have f7 := (hz5).frozen 7
          have m8 : V.cell? ⟨w.heap.size + 1, 8, none⟩ = some (.int .u32 0) := (hz5).cell 8
          have f8 := (hz5).frozen 8
          have m9 : V.cell? ⟨w.heap.size + 1, 9, none⟩ = some (.int .u8 0) := (hz5).cell 9
          have f9 := (hz5).frozen 9
          have m10 : V.cell? ⟨w.heap.size + 1, 10, none⟩ = some (.int .u8 0) := (hz5).cell 10
          have f10 := (hz5).frozen 10
          clear hz5
          go_wp2_with fail
          refine bodyPost_gen (fun V => Blk V (w.heap.size + 1) 72 #[.bool true, .bool true, .int .u8 form, .int .u8 (tp + 1), .int .u8 bot, .int .u8 lt, .int .u32 lp, .int .u8 ht, .int .u32 hp, .int .u8 tag, .int .u8 (l + 1)] ∧ Below w.heap.size w V) ⟨(MB2.out).rest11 _ _ _ _ _ _ _ _ _ _ _, below_rest11 _ _ _ _ _ _ _ _ _ _ _ (Nat.le_succ _) (HB2.out)⟩ ?_
          rintro V ⟨hv, hbv⟩
          have v0 : V.cell? ⟨w.heap.size + 1, 0, none⟩ = some (.bool true) := hv.cell 0
          have v1 : V.cell? ⟨w.heap.size + 1, 1, none⟩ = some (.bool true) := hv.cell 1
          have v2 : V.cell? ⟨w.heap.size + 1, 2, none⟩ = some (.int .u8 form) := hv.cell 2
          have v3 : V.cell? ⟨w.heap.size + 1, 3, none⟩ = some (.int .u8 (tp + 1)) := hv.cell 3
          have v4 : V.cell? ⟨w.heap.size + 1, 4, none⟩ = some (.int .u8 bot) := hv.cell 4
          have v5 : V.cell? ⟨w.heap.size + 1, 5, none⟩ = some (.int .u8 lt) := hv.cell 5
          have v6 : V.cell? ⟨w.heap.size + 1, 6, none⟩ = some (.int .u32 lp) := hv.cell 6
          have v7 : V.cell? ⟨w.heap.size + 1, 7, none⟩ = some (.int .u8 ht) := hv.cell 7
          have v8 : V.cell? ⟨w.heap.size + 1, 8, none⟩ = some (.int .u32 hp) := hv.cell 8
          have v9 : V.cell? ⟨w.heap.size + 1, 9, none⟩ = some (.int .u8 tag) := hv.cell 9
          have v10 : V.cell? ⟨w.heap.size + 1, 10, none⟩ = some (.int .u8 (l + 1)) := hv.cell 10
          have HBV := Lib.hid hbv
          clear hv hbv
          clear k0 k1 k2 k3 k4 k5 k6 k7 k8 k9 k10 x0 x1 x2 x3 x4 x5 x6 x7 x8 x9 x10 m0 f0 m1 f1 m2 f2 m3 f3 m4 f4 m5 f5 m6 f6 m7 f7 m8 f8 m9 f9 m10 f10
          refine bodyPost_ret (v := .agg #[.bool true, .bool true, .int .u8 form, .int .u8 (tp + 1), .int .u8 bot, .int .u8 lt, .int .u32 lp, .int .u8 ht, .int .u32 hp, .int .u8 tag, .int .u8 (l + 1)]) ?_ rfl ⟨by rw [HEQ.out]; rfl, HBV.out⟩
          simp [results, Tryz.results53, go_sem, *]
      | false =>
        by_cases h3 : form = 3
        · have h3b : (form == 3) = true := by simpa using h3
          clear h3
          have HEQ : Hid (halfR cs n f ⟨true, true, ⟨form, tp, bot, ⟨lt, lp⟩, ⟨ht, hp⟩⟩, tag, l⟩ false = ⟨true, true, ⟨form, tp + 1, bot, ⟨lt, lp⟩, ⟨ht, hp⟩⟩, tag, l + 1⟩) := Lib.hid (by rw [HPOST.out]; simp [htb2])
          have hz5 := MB2.out
          have m0 : V.cell? ⟨w.heap.size + 1, 0, none⟩ = some (.bool false) := (hz5).cell 0
          have f0 := (hz5).frozen 0
          have m1 : V.cell? ⟨w.heap.size + 1, 1, none⟩ = some (.bool false) := (hz5).cell 1
          have f1 := (hz5).frozen 1
          have m2 : V.cell? ⟨w.heap.size + 1, 2, none⟩ = some (.int .u8 0) := (hz5).cell 2
          have f2 := (hz5).frozen 2
          have m3 : V.cell? ⟨w.heap.size + 1, 3, none⟩ = some (.int .u8 0) := (hz5).cell 3
          have f3 := (hz5).frozen 3
          have m4 : V.cell? ⟨w.heap.size + 1, 4, none⟩ = some (.int .u8 0) := (hz5).cell 4
          have f4 := (hz5).frozen 4
          have m5 : V.cell? ⟨w.heap.size + 1, 5, none⟩ = some (.int .u8 0) := (hz5).cell 5
          have f5 := (hz5).frozen 5
          have m6 : V.cell? ⟨w.heap.size + 1, 6, none⟩ = some (.int .u32 0) := (hz5).cell 6
          have f6 := (hz5).frozen 6
          have m7 : V.cell? ⟨w.heap.size + 1, 7, none⟩ = some (.int .u8 0) := (hz5).cell 7
          have f7 := (hz5).frozen 7
          have m8 : V.cell? ⟨w.heap.size + 1, 8, none⟩ = some (.int .u32 0) := (hz5).cell 8
          have f8 := (hz5).frozen 8
          have m9 : V.cell? ⟨w.heap.size + 1, 9, none⟩ = some (.int .u8 0) := (hz5).cell 9
          have f9 := (hz5).frozen 9
          have m10 : V.cell? ⟨w.heap.size + 1, 10, none⟩ = some (.int .u8 0) := (hz5).cell 10
          have f10 := (hz5).frozen 10
          clear hz5
          go_wp2_with fail
          refine bodyPost_gen (fun V => Blk V (w.heap.size + 1) 72 #[.bool true, .bool true, .int .u8 form, .int .u8 (tp + 1), .int .u8 bot, .int .u8 lt, .int .u32 lp, .int .u8 ht, .int .u32 hp, .int .u8 tag, .int .u8 (l + 1)] ∧ Below w.heap.size w V) ⟨(MB2.out).rest11 _ _ _ _ _ _ _ _ _ _ _, below_rest11 _ _ _ _ _ _ _ _ _ _ _ (Nat.le_succ _) (HB2.out)⟩ ?_
          rintro V ⟨hv, hbv⟩
          have v0 : V.cell? ⟨w.heap.size + 1, 0, none⟩ = some (.bool true) := hv.cell 0
          have v1 : V.cell? ⟨w.heap.size + 1, 1, none⟩ = some (.bool true) := hv.cell 1
          have v2 : V.cell? ⟨w.heap.size + 1, 2, none⟩ = some (.int .u8 form) := hv.cell 2
          have v3 : V.cell? ⟨w.heap.size + 1, 3, none⟩ = some (.int .u8 (tp + 1)) := hv.cell 3
          have v4 : V.cell? ⟨w.heap.size + 1, 4, none⟩ = some (.int .u8 bot) := hv.cell 4
          have v5 : V.cell? ⟨w.heap.size + 1, 5, none⟩ = some (.int .u8 lt) := hv.cell 5
          have v6 : V.cell? ⟨w.heap.size + 1, 6, none⟩ = some (.int .u32 lp) := hv.cell 6
          have v7 : V.cell? ⟨w.heap.size + 1, 7, none⟩ = some (.int .u8 ht) := hv.cell 7
          have v8 : V.cell? ⟨w.heap.size + 1, 8, none⟩ = some (.int .u32 hp) := hv.cell 8
          have v9 : V.cell? ⟨w.heap.size + 1, 9, none⟩ = some (.int .u8 tag) := hv.cell 9
          have v10 : V.cell? ⟨w.heap.size + 1, 10, none⟩ = some (.int .u8 (l + 1)) := hv.cell 10
          have HBV := Lib.hid hbv
          clear hv hbv
          clear k0 k1 k2 k3 k4 k5 k6 k7 k8 k9 k10 x0 x1 x2 x3 x4 x5 x6 x7 x8 x9 x10 m0 f0 m1 f1 m2 f2 m3 f3 m4 f4 m5 f5 m6 f6 m7 f7 m8 f8 m9 f9 m10 f10
          refine bodyPost_ret (v := .agg #[.bool true, .bool true, .int .u8 form, .int .u8 (tp + 1), .int .u8 bot, .int .u8 lt, .int .u32 lp, .int .u8 ht, .int .u32 hp, .int .u8 tag, .int .u8 (l + 1)]) ?_ rfl ⟨by rw [HEQ.out]; rfl, HBV.out⟩
          simp [results, Tryz.results53, go_sem, *]
        · have h3b : (form == 3) = false := by simpa using h3
          have HEQ : Hid (halfR cs n f ⟨true, true, ⟨form, tp, bot, ⟨lt, lp⟩, ⟨ht, hp⟩⟩, tag, l⟩ false = ⟨true, true, ⟨form, tp + 1, bot, ⟨lt, lp⟩, ⟨ht, hp⟩⟩, tag, l + 1⟩) := Lib.hid (by rw [HPOST.out]; simp [htb2])
          have hz5 := MB2.out
          have m0 : V.cell? ⟨w.heap.size + 1, 0, none⟩ = some (.bool false) := (hz5).cell 0
          have f0 := (hz5).frozen 0
          have m1 : V.cell? ⟨w.heap.size + 1, 1, none⟩ = some (.bool false) := (hz5).cell 1
          have f1 := (hz5).frozen 1
          have m2 : V.cell? ⟨w.heap.size + 1, 2, none⟩ = some (.int .u8 0) := (hz5).cell 2
          have f2 := (hz5).frozen 2
          have m3 : V.cell? ⟨w.heap.size + 1, 3, none⟩ = some (.int .u8 0) := (hz5).cell 3
          have f3 := (hz5).frozen 3
          have m4 : V.cell? ⟨w.heap.size + 1, 4, none⟩ = some (.int .u8 0) := (hz5).cell 4
          have f4 := (hz5).frozen 4
          have m5 : V.cell? ⟨w.heap.size + 1, 5, none⟩ = some (.int .u8 0) := (hz5).cell 5
          have f5 := (hz5).frozen 5
          have m6 : V.cell? ⟨w.heap.size + 1, 6, none⟩ = some (.int .u32 0) := (hz5).cell 6
          have f6 := (hz5).frozen 6
          have m7 : V.cell? ⟨w.heap.size + 1, 7, none⟩ = some (.int .u8 0) := (hz5).cell 7
          have f7 := (hz5).frozen 7
          have m8 : V.cell? ⟨w.heap.size + 1, 8, none⟩ = some (.int .u32 0) := (hz5).cell 8
          have f8 := (hz5).frozen 8
          have m9 : V.cell? ⟨w.heap.size + 1, 9, none⟩ = some (.int .u8 0) := (hz5).cell 9
          have f9 := (hz5).frozen 9
          have m10 : V.cell? ⟨w.heap.size + 1, 10, none⟩ = some (.int .u8 0) := (hz5).cell 10
          have f10 := (hz5).frozen 10
          clear hz5
          go_wp2_with fail
          refine bodyPost_gen (fun V => Blk V (w.heap.size + 1) 72 #[.bool true, .bool true, .int .u8 form, .int .u8 (tp + 1), .int .u8 bot, .int .u8 lt, .int .u32 lp, .int .u8 ht, .int .u32 hp, .int .u8 tag, .int .u8 (l + 1)] ∧ Below w.heap.size w V) ⟨(MB2.out).rest11 _ _ _ _ _ _ _ _ _ _ _, below_rest11 _ _ _ _ _ _ _ _ _ _ _ (Nat.le_succ _) (HB2.out)⟩ ?_
          rintro V ⟨hv, hbv⟩
          have v0 : V.cell? ⟨w.heap.size + 1, 0, none⟩ = some (.bool true) := hv.cell 0
          have v1 : V.cell? ⟨w.heap.size + 1, 1, none⟩ = some (.bool true) := hv.cell 1
          have v2 : V.cell? ⟨w.heap.size + 1, 2, none⟩ = some (.int .u8 form) := hv.cell 2
          have v3 : V.cell? ⟨w.heap.size + 1, 3, none⟩ = some (.int .u8 (tp + 1)) := hv.cell 3
          have v4 : V.cell? ⟨w.heap.size + 1, 4, none⟩ = some (.int .u8 bot) := hv.cell 4
          have v5 : V.cell? ⟨w.heap.size + 1, 5, none⟩ = some (.int .u8 lt) := hv.cell 5
          have v6 : V.cell? ⟨w.heap.size + 1, 6, none⟩ = some (.int .u32 lp) := hv.cell 6
          have v7 : V.cell? ⟨w.heap.size + 1, 7, none⟩ = some (.int .u8 ht) := hv.cell 7
          have v8 : V.cell? ⟨w.heap.size + 1, 8, none⟩ = some (.int .u32 hp) := hv.cell 8
          have v9 : V.cell? ⟨w.heap.size + 1, 9, none⟩ = some (.int .u8 tag) := hv.cell 9
          have v10 : V.cell? ⟨w.heap.size + 1, 10, none⟩ = some (.int .u8 (l + 1)) := hv.cell 10
          have HBV := Lib.hid hbv
          clear hv hbv
          clear k0 k1 k2 k3 k4 k5 k6 k7 k8 k9 k10 x0 x1 x2 x3 x4 x5 x6 x7 x8 x9 x10 m0 f0 m1 f1 m2 f2 m3 f3 m4 f4 m5 f5 m6 f6 m7 f7 m8 f8 m9 f9 m10 f10
          refine bodyPost_ret (v := .agg #[.bool true, .bool true, .int .u8 form, .int .u8 (tp + 1), .int .u8 bot, .int .u8 lt, .int .u32 lp, .int .u8 ht, .int .u32 hp, .int .u8 tag, .int .u8 (l + 1)]) ?_ rfl ⟨by rw [HEQ.out]; rfl, HBV.out⟩
          simp [results, Tryz.results53, go_sem, *]
end Go.Proofs.YtpjciaomhfeeeaaGreat
