/- Contracts: member.Nth, First, Last, Rank. Contracts: member.First, Last. Contract: member.Rank. -/
import Derived.Test.YtciokbngjfeihaaGreatRnkN
import Derived.Test.YtciokbngjfeihaaGreatMbrC
import Derived.Test.YtciokbngjfeihaaGreatMbMay
import Derived.Test.YtciokbngjfeihaaGreatMai
section
namespace Go.Proofs.YtciokbngjfeihaaGreat
open Go Go.RowKit Go.Maps
set_option linter.unusedSimpArgs false
set_option linter.unusedVariables false

def PairOut (w : World) (a : Int) (er : Nat) (x : Ending) (w' : World) : Prop := x = .returned (.tuple #[.int .i64 a, .int .u8 (er : Int)]) ∧ Below w.heap.size w w'
/-- what a built store and an order are for member -/
structure MbAt (w : World) (F G : List Nat) (gs go n room : Nat) (cs : List (Option Rec)) (free : List Int) (ps ls : List Int) : Prop where
  st : StoreAt w F gs n room cs free
  od : OrdAt w G go ps ls
  fit : Fits ps ls
  hcs : ∀ id r, recAt cs id = some r → r.Wf ∧ r.top ≤ r.bot ∧ r.bot < n
theorem MbAt.on {w w' : World} {F G : List Nat} {gs go n room : Nat} {cs : List (Option Rec)} {free : List Int} {ps ls : List Int} (h : MbAt w F G gs go n room cs free ps ls) (hb : Below w.heap.size w w') : MbAt w' F G gs go n room cs free ps ls := ⟨h.st.on hb, h.od.on hb, h.fit, h.hcs⟩
theorem MbAt.tl {w : World} {F G : List Nat} {gs go n room cb q : Nat} {cs : List (Option Rec)} {free : List Int} {ps ls : List Int} {f : Int} (h : MbAt w F G gs go n room cs free ps ls) (hC : CastAt w cb gs go f n) (hF : ∀ k ∈ F, k < q) (hc : cb < q) : TlAt w F gs go n room cb cs free f q :=
  ⟨h.st, hC, h.hcs, fun hm => Nat.lt_irrefl _ (hF q hm), Nat.ne_of_lt hc⟩
theorem hbt {w w' w'' : World} {q : Nat} (h : Below w.heap.size w w') (hc : Chg [q] w' w'') (hq : w.heap.size ≤ q) : Below w.heap.size w w'' := h.trans (hc.below h.size (fun x hx => by simp at hx; subst hx; exact hq))
def nthC (cs : List (Option Rec)) (n : Nat) (ps : List Int) (f : Int) (e : Edg) (k : Int) : Int × Nat :=
  if startC cs n ps.length f e ≠ 0 then (0, startC cs n ps.length f e) else if k < 0 ∨ (cntR cs n f n (atR cs e 0) : Int) ≤ k then (0, 11) else ((upM ps n (nthR cs n f n (atR cs e 0) k.toNat 0) : Nat), 0)

set_option maxRecDepth 200000 in
set_option maxHeartbeats 16000000 in
theorem nthTop_any (F G : List Nat) (gs go n room : Nat) (cs : List (Option Rec)) (free : List Int) (ps ls : List Int) (f : Int) (e : Edg) (k : Int) (w : World) (h : MbAt w F G gs go n room cs free ps ls) (hf : 0 ≤ f ∧ f ≤ 255) (he : e.Wf) (hk : -9223372036854775808 ≤ k ∧ k ≤ 9223372036854775807) :
    Calls Tryz.prog 16 #[.pointer (some ⟨gs, 0, none⟩), .pointer (some ⟨go, 0, none⟩), .int .u8 f, .agg #[.int .u8 e.tag, .int .u32 e.pos], .int .i64 k] w (PairOut w (nthC cs n ps f e k).1 (nthC cs n ps f e k).2) := by
  have hn16 := h.st.ok.n16
  obtain ⟨W, hW⟩ : ∃ W, W = w.alloc (.cells #[.int .u8 e.tag, .int .u32 e.pos] 26) := ⟨_, rfl⟩
  have hbW : Below w.heap.size w W := by rw [hW]; exact (Below.refl _ _).alloc (Nat.le_refl _) _
  have hK : Blk W w.heap.size 26 #[.int .u8 e.tag, .int .u32 e.pos] := by rw [hW]; exact Blk.new w _ _
  have j0 : W.cell? ⟨w.heap.size, 0, none⟩ = some (.int .u8 e.tag) := hK.cell 0
  have j1 : W.cell? ⟨w.heap.size, 1, none⟩ = some (.int .u32 e.pos) := hK.cell 1
  have HST := Lib.hid (start_any F G gs go n room cs free ps ls f e W (h.st.on hbW) (h.od.on hbW) hf he h.fit.perm.1)
  have HB := Lib.hid hbW
  have HM := Lib.hid (h.on hbW)
  have HWW := Lib.hid hW
  obtain ⟨out, hout⟩ : ∃ out, out = nthC cs n ps f e k := ⟨_, rfl⟩
  rw [← hout]
  unfold nthC at hout
  have HOUT := Lib.hid hout
  have HE := Lib.hid he
  clear h hbW hK he hf hout
  go_enter Tryz.func16, Tryz.ntmps16
  go_upto_region 1 with fail
  rw [← HWW.out]
  clear hW
  go_wp2_with fail
  refine HST.out.mono ?_
  rintro x w1 ⟨ho, hb1⟩
  have HB1 := Lib.hid (HB.out.trans (hb1.mono HB.out.size))
  have HM1 := Lib.hid (HM.out.on hb1)
  clear j0 j1 hb1 HST HM
  rcases ho with ⟨hne, rfl⟩ | ⟨heq, cb, rfl, hca, hcb⟩
  · have HR : Hid (out = (0, startC cs n ps.length f e)) := Lib.hid (by rw [HOUT.out, if_pos hne])
    obtain ⟨code, hcode⟩ : ∃ code, code = startC cs n ps.length f e := ⟨_, rfl⟩
    rw [← hcode] at hne HR ⊢
    have t1 : ((code : Int) != 0) = true := by simpa using hne
    have t2 : (code != 0) = true := by simpa using hne
    clear hcode hne HOUT
    unfold Rst.cells Rst.nil Rec.nil Edg.nil
    go_wp2_with fail
    go_ret2
    exact ⟨by rw [HR.out]; rfl, HB1.out.alloc HB1.out.size _⟩
  · obtain ⟨y, hy⟩ : ∃ y, y = atR cs e 0 := ⟨_, rfl⟩
    rw [if_neg (by simpa using heq), ← hy] at HOUT
    have hpl : ps.length = n := (startC_zero heq).1.symm
    have hok : RstOk n (0 : Nat) y := by rw [hy]; exact atR_ok (by omega) HE.out (by omega) HM1.out.hcs
    rw [← hy]
    unfold Rst.cells
    obtain ⟨W2, hW2⟩ : ∃ W2, W2 = (w1.alloc (.cells #[.bool y.inn, .bool y.node, .int .u8 y.r.form, .int .u8 y.r.top, .int .u8 y.r.bot, .int .u8 y.r.lo.tag, .int .u32 y.r.lo.pos, .int .u8 y.r.hi.tag, .int .u32 y.r.hi.pos, .int .u8 y.tag, .int .u8 y.l] 78)).alloc (.map #[] 0) := ⟨_, rfl⟩
    have hb2 : Below w1.heap.size w1 W2 := by rw [hW2]; exact ((Below.refl _ _).alloc (Nat.le_refl _) _).alloc (by simp) _
    have hY : Blk W2 w1.heap.size 78 #[.bool y.inn, .bool y.node, .int .u8 y.r.form, .int .u8 y.r.top, .int .u8 y.r.bot, .int .u8 y.r.lo.tag, .int .u32 y.r.lo.pos, .int .u8 y.r.hi.tag, .int .u32 y.r.hi.pos, .int .u8 y.tag, .int .u8 y.l] := by rw [hW2]; exact (Blk.new _ _ _).alloc _
    have hT : TallyC cs n f W2 (w1.heap.size + 1) 0 := by
      have := Tally.made (R := plainElem Tryz.prog 3) (zd := .lit (.int .i64 0)) (good := goodC cs n f) (w1.alloc (.cells #[.bool y.inn, .bool y.node, .int .u8 y.r.form, .int .u8 y.r.top, .int .u8 y.r.bot, .int .u8 y.r.lo.tag, .int .u32 y.r.lo.pos, .int .u8 y.r.hi.tag, .int .u32 y.r.hi.pos, .int .u8 y.tag, .int .u8 y.l] 78))
      rw [World.size_alloc] at this
      rw [hW2]; exact this
    have hTl : TlAt W2 F gs go n room cb cs free f (w1.heap.size + 1) := (HM1.out.on hb2).tl (hca.onB hb2) (fun k hk => by have := HM1.out.st.lt k hk; omega) (by have := Blk.lt hca; omega)
    have hO2 : OrdAt W2 G go ps ls := HM1.out.od.on hb2
    have hqG : w1.heap.size + 1 ∉ G := fun hm => by have := HM1.out.od.lt _ hm; omega
    have HB2 := Lib.hid (HB1.out.trans (hb2.mono HB1.out.size))
    have HW2 := Lib.hid hW2
    have hp16 := pow_le16 hn16
    have HCO := Lib.hid (count_any F gs go n room cb cs free f (w1.heap.size + 1) n y 0 0 W2 (by omega) hok hTl hT (by omega))
    have HNT := Lib.hid (fun (kn : Nat) W' (hc : Chg [w1.heap.size + 1] W2 W') (hT' : TallyC cs n f W' (w1.heap.size + 1) (0 + (2 ^ n - 1))) (hkn : kn < cntR cs n f n y) => nth_any F G gs go n room cb cs free ps ls f (w1.heap.size + 1) n y 0 (0 + (2 ^ n - 1)) kn W' (by omega) hok (hTl.chg hc) (hO2.chg hc (fun k hk hm => by simp at hm; subst hm; exact hqG hk)) HM1.out.fit hqG hpl hT' (by omega) hkn)
    have HYY := Lib.hid hY
    have HQB := Lib.hid (show w.heap.size ≤ w1.heap.size + 1 by have := HB1.out.size; omega)
    generalize hcn : cntR cs (↑n) f n y = cn at *
    have k0 : W2.cell? ⟨w1.heap.size, 0, none⟩ = some (.bool y.inn) := hY.cell 0
    obtain ⟨k0, k1, k2, k3, k4, k5, k6, k7, k8, k9, k10⟩ := cells11 hY
    have hkl := hY.lt
    clear hW2 hy heq hca hcb hb2 hY hT hTl hO2 hqG hp16 hok hpl
    go_wp2_with fail
    rw [show ∀ W, (Instr.makeMap 99 none).run Tryz.prog W = .ok (.map (some W.heap.size)) (W.alloc (.map #[] 0)) from fun _ => rfl]
    simp only [Result.andThen]
    rw [Oper.upon_value, World.size_alloc, ← HW2.out]
    by_cases hk0 : k < 0
    · have HR : Hid (out = (0, 11)) := Lib.hid (by rw [HOUT.out, if_pos (.inl hk0)])
      go_wp2_with fail
      go_ret2
      exact ⟨by rw [HR.out]; rfl, HB2.out⟩
    · obtain ⟨kn, rfl⟩ : ∃ kn : Nat, k = kn := ⟨k.toNat, by omega⟩
      go_wp2_with fail
      refine HCO.out.mono ?_
      rintro x w3 ⟨rfl, ht3, hc3⟩
      have HB3 := Lib.hid (hbt HB2.out hc3 HQB.out)
      have hY3 := HYY.out.chg hc3 (by simp)
      have H3 := Lib.hid (And.intro ht3 hc3)
      by_cases hkn : kn < cn
      · have hd : decide ((cn : Int) ≤ (kn : Int)) = false := by simpa using hkn
        have HR : Hid (out = (((upM ps n (nthR cs n f n y kn 0) : Nat) : Int), 0)) := Lib.hid (by rw [HOUT.out, if_neg (by omega)]; rfl)
        obtain ⟨v0, v1, v2, v3, v4, v5, v6, v7, v8, v9, v10⟩ := cells11 hY3
        clear k0 k1 k2 k3 k4 k5 k6 k7 k8 k9 k10 ht3 hc3 hY3
        go_wp2_with fail
        refine (HNT.out kn _ H3.out.2 H3.out.1 hkn).mono ?_
        rintro x w4 ⟨rfl, ht4, hc4⟩
        have HB4 := Lib.hid (hbt HB3.out hc4 HQB.out)
        clear ht4 hc4 v0 v1 v2 v3 v4 v5 v6 v7 v8 v9 v10
        go_wp2_with fail
        go_ret2
        exact ⟨by rw [HR.out]; rfl, HB4.out⟩
      · have hd : decide ((cn : Int) ≤ (kn : Int)) = true := by simpa using hkn
        have HR : Hid (out = (0, 11)) := Lib.hid (by rw [HOUT.out, if_pos (.inr (by omega))])
        clear ht3 hc3 hY3
        go_wp2_with fail
        go_ret2
        exact ⟨by rw [HR.out]; rfl, HB3.out⟩
end Go.Proofs.YtciokbngjfeihaaGreat
end

section
namespace Go.Proofs.YtciokbngjfeihaaGreat
open Go Go.RowKit Go.Maps
set_option linter.unusedSimpArgs false
set_option linter.unusedVariables false

set_option maxRecDepth 200000 in
set_option maxHeartbeats 16000000 in
theorem firstTop_any (F G : List Nat) (gs go n room : Nat) (cs : List (Option Rec)) (free : List Int) (ps ls : List Int) (f : Int) (e : Edg) (w : World) (h : MbAt w F G gs go n room cs free ps ls) (hf : 0 ≤ f ∧ f ≤ 255) (he : e.Wf) :
    Calls Tryz.prog 18 #[.pointer (some ⟨gs, 0, none⟩), .pointer (some ⟨go, 0, none⟩), .int .u8 f, .agg #[.int .u8 e.tag, .int .u32 e.pos]] w (PairOut w (nthC cs n ps f e 0).1 (nthC cs n ps f e 0).2) := by
  obtain ⟨W, hW⟩ : ∃ W, W = w.alloc (.cells #[.int .u8 e.tag, .int .u32 e.pos] 26) := ⟨_, rfl⟩
  have hbW : Below w.heap.size w W := by rw [hW]; exact (Below.refl _ _).alloc (Nat.le_refl _) _
  have hK : Blk W w.heap.size 26 #[.int .u8 e.tag, .int .u32 e.pos] := by rw [hW]; exact Blk.new w _ _
  have j0 : W.cell? ⟨w.heap.size, 0, none⟩ = some (.int .u8 e.tag) := hK.cell 0
  have j1 : W.cell? ⟨w.heap.size, 1, none⟩ = some (.int .u32 e.pos) := hK.cell 1
  have HST := Lib.hid (nthTop_any F G gs go n room cs free ps ls f e 0 W (h.on hbW) hf he (by omega))
  have HB := Lib.hid hbW
  have HWW := Lib.hid hW
  clear h hbW hK he hf
  generalize (nthC cs n ps f e 0).1 = a at *
  generalize (nthC cs n ps f e 0).2 = c at *
  go_enter Tryz.func18, Tryz.ntmps18
  go_upto_region 1 with fail
  rw [← HWW.out]
  clear hW
  go_wp2_with fail
  refine HST.out.mono ?_
  rintro x w1 ⟨rfl, hb1⟩
  have HB1 := Lib.hid (HB.out.trans (hb1.mono HB.out.size))
  clear hb1
  go_wp2_with fail
  go_ret2
  exact ⟨rfl, HB1.out⟩
def lastC (cs : List (Option Rec)) (n : Nat) (ps : List Int) (f : Int) (e : Edg) : Int × Nat :=
  if startC cs n ps.length f e ≠ 0 then (0, startC cs n ps.length f e) else if (atR cs e 0).inn = false then (0, 11) else ((upM ps n (nthR cs n f n (atR cs e 0) (cntR cs n f n (atR cs e 0) - 1) 0) : Nat), 0)
set_option maxRecDepth 200000 in
set_option maxHeartbeats 16000000 in
theorem lastTop_any (F G : List Nat) (gs go n room : Nat) (cs : List (Option Rec)) (free : List Int) (ps ls : List Int) (f : Int) (e : Edg) (w : World) (h : MbAt w F G gs go n room cs free ps ls) (hf : 0 ≤ f ∧ f ≤ 255) (he : e.Wf) (hpos_of : startC cs n ps.length f e = 0 → (atR cs e 0).inn = true → 0 < cntR cs n f n (atR cs e 0)) :
    Calls Tryz.prog 19 #[.pointer (some ⟨gs, 0, none⟩), .pointer (some ⟨go, 0, none⟩), .int .u8 f, .agg #[.int .u8 e.tag, .int .u32 e.pos]] w (PairOut w (lastC cs n ps f e).1 (lastC cs n ps f e).2) := by
  have hn16 := h.st.ok.n16
  obtain ⟨W, hW⟩ : ∃ W, W = w.alloc (.cells #[.int .u8 e.tag, .int .u32 e.pos] 26) := ⟨_, rfl⟩
  have hbW : Below w.heap.size w W := by rw [hW]; exact (Below.refl _ _).alloc (Nat.le_refl _) _
  have hK : Blk W w.heap.size 26 #[.int .u8 e.tag, .int .u32 e.pos] := by rw [hW]; exact Blk.new w _ _
  have j0 : W.cell? ⟨w.heap.size, 0, none⟩ = some (.int .u8 e.tag) := hK.cell 0
  have j1 : W.cell? ⟨w.heap.size, 1, none⟩ = some (.int .u32 e.pos) := hK.cell 1
  have HST := Lib.hid (start_any F G gs go n room cs free ps ls f e W (h.st.on hbW) (h.od.on hbW) hf he h.fit.perm.1)
  have HB := Lib.hid hbW
  have HM := Lib.hid (h.on hbW)
  have HWW := Lib.hid hW
  obtain ⟨out, hout⟩ : ∃ out, out = lastC cs n ps f e := ⟨_, rfl⟩
  rw [← hout]
  unfold lastC at hout
  have HOUT := Lib.hid hout
  have HE := Lib.hid he
  clear h hbW hK he hf hout
  go_enter Tryz.func19, Tryz.ntmps19
  go_upto_region 1 with fail
  rw [← HWW.out]
  clear hW
  go_wp2_with fail
  refine HST.out.mono ?_
  rintro x w1 ⟨ho, hb1⟩
  have HB1 := Lib.hid (HB.out.trans (hb1.mono HB.out.size))
  have HM1 := Lib.hid (HM.out.on hb1)
  clear j0 j1 hb1 HST HM
  rcases ho with ⟨hne, rfl⟩ | ⟨heq, cb, rfl, hca, hcb⟩
  · have HR : Hid (out = (0, startC cs n ps.length f e)) := Lib.hid (by rw [HOUT.out, if_pos hne])
    obtain ⟨code, hcode⟩ : ∃ code, code = startC cs n ps.length f e := ⟨_, rfl⟩
    rw [← hcode] at hne HR ⊢
    have t1 : ((code : Int) != 0) = true := by simpa using hne
    have t2 : (code != 0) = true := by simpa using hne
    clear hcode hne HOUT
    unfold Rst.cells Rst.nil Rec.nil Edg.nil
    go_wp2_with fail
    go_ret2
    exact ⟨by rw [HR.out]; rfl, HB1.out.alloc HB1.out.size _⟩
  · obtain ⟨y, hy⟩ : ∃ y, y = atR cs e 0 := ⟨_, rfl⟩
    rw [if_neg (by simpa using heq), ← hy] at HOUT
    have hpl : ps.length = n := (startC_zero heq).1.symm
    have hok : RstOk n (0 : Nat) y := by rw [hy]; exact atR_ok (by omega) HE.out (by omega) HM1.out.hcs
    rw [← hy]
    unfold Rst.cells
    obtain ⟨W2, hW2⟩ : ∃ W2, W2 = (w1.alloc (.cells #[.bool y.inn, .bool y.node, .int .u8 y.r.form, .int .u8 y.r.top, .int .u8 y.r.bot, .int .u8 y.r.lo.tag, .int .u32 y.r.lo.pos, .int .u8 y.r.hi.tag, .int .u32 y.r.hi.pos, .int .u8 y.tag, .int .u8 y.l] 78)).alloc (.map #[] 0) := ⟨_, rfl⟩
    have hb2 : Below w1.heap.size w1 W2 := by rw [hW2]; exact ((Below.refl _ _).alloc (Nat.le_refl _) _).alloc (by simp) _
    have hY : Blk W2 w1.heap.size 78 #[.bool y.inn, .bool y.node, .int .u8 y.r.form, .int .u8 y.r.top, .int .u8 y.r.bot, .int .u8 y.r.lo.tag, .int .u32 y.r.lo.pos, .int .u8 y.r.hi.tag, .int .u32 y.r.hi.pos, .int .u8 y.tag, .int .u8 y.l] := by rw [hW2]; exact (Blk.new _ _ _).alloc _
    have hT : TallyC cs n f W2 (w1.heap.size + 1) 0 := by
      have := Tally.made (R := plainElem Tryz.prog 3) (zd := .lit (.int .i64 0)) (good := goodC cs n f) (w1.alloc (.cells #[.bool y.inn, .bool y.node, .int .u8 y.r.form, .int .u8 y.r.top, .int .u8 y.r.bot, .int .u8 y.r.lo.tag, .int .u32 y.r.lo.pos, .int .u8 y.r.hi.tag, .int .u32 y.r.hi.pos, .int .u8 y.tag, .int .u8 y.l] 78))
      rw [World.size_alloc] at this
      rw [hW2]; exact this
    have hTl : TlAt W2 F gs go n room cb cs free f (w1.heap.size + 1) := (HM1.out.on hb2).tl (hca.onB hb2) (fun k hk => by have := HM1.out.st.lt k hk; omega) (by have := Blk.lt hca; omega)
    have hO2 : OrdAt W2 G go ps ls := HM1.out.od.on hb2
    have hqG : w1.heap.size + 1 ∉ G := fun hm => by have := HM1.out.od.lt _ hm; omega
    have HB2 := Lib.hid (HB1.out.trans (hb2.mono HB1.out.size))
    have HW2 := Lib.hid hW2
    have hp16 := pow_le16 hn16
    have HCO := Lib.hid (count_any F gs go n room cb cs free f (w1.heap.size + 1) n y 0 0 W2 (by omega) hok hTl hT (by omega))
    have HNT := Lib.hid (fun (kn : Nat) W' (hc : Chg [w1.heap.size + 1] W2 W') (hT' : TallyC cs n f W' (w1.heap.size + 1) (0 + (2 ^ n - 1))) (hkn : kn < cntR cs n f n y) => nth_any F G gs go n room cb cs free ps ls f (w1.heap.size + 1) n y 0 (0 + (2 ^ n - 1)) kn W' (by omega) hok (hTl.chg hc) (hO2.chg hc (fun k hk hm => by simp at hm; subst hm; exact hqG hk)) HM1.out.fit hqG hpl hT' (by omega) hkn)
    have HYY := Lib.hid hY
    have HQB := Lib.hid (show w.heap.size ≤ w1.heap.size + 1 by have := HB1.out.size; omega)
    have HPOS : Hid (y.inn = true → 0 < cntR cs n f n y) := Lib.hid (by rw [hy]; exact hpos_of heq)
    have HT2 := Lib.hid hT
    have HCF := Lib.hid (fun W' (hc : Chg [w1.heap.size + 1] W2 W') (hT' : TallyC cs n f W' (w1.heap.size + 1) 0) => count_any F gs go n room cb cs free f (w1.heap.size + 1) n y 0 0 W' (by omega) hok (hTl.chg hc) hT' (by omega))
    have hcle := cntR_le (cs := cs) (n := n) (f := f) n y
    have hcle2 := pow_le16 hn16
    generalize hcn : cntR cs (↑n) f n y = cn at *
    have HCN := Lib.hid hcn
    have k0 : W2.cell? ⟨w1.heap.size, 0, none⟩ = some (.bool y.inn) := hY.cell 0
    obtain ⟨k0, k1, k2, k3, k4, k5, k6, k7, k8, k9, k10⟩ := cells11 hY
    have hkl := hY.lt
    clear hW2 hy heq hca hcb hb2 hY hT hTl hO2 hqG hp16 hok hpl
    go_wp2_with fail
    rw [show ∀ W, (Instr.makeMap 99 none).run Tryz.prog W = .ok (.map (some W.heap.size)) (W.alloc (.map #[] 0)) from fun _ => rfl]
    simp only [Result.andThen]
    rw [Oper.upon_value, World.size_alloc, ← HW2.out]
    cases hyi : y.inn with
    | false =>
      have HR : Hid (out = (0, 11)) := Lib.hid (by rw [HOUT.out, hyi]; rfl)
      rw [hyi] at k0
      go_wp2_with fail
      go_ret2
      exact ⟨by rw [HR.out]; rfl, HB2.out⟩
    | true =>
      have hpos : 0 < cn := HPOS.out hyi
      have HR : Hid (out = (((upM ps n (nthR cs n f n y (cn - 1) 0) : Nat) : Int), 0)) := Lib.hid (by rw [HOUT.out, hyi]; rfl)
      have HNX := Lib.hid (fun W' (hc : Chg [w1.heap.size + 1] W2 W') hT' => HNT.out (cn - 1) W' hc hT' (by omega))
      have hsb : IntKind.i64.wrap ((cn : Int) - 1) = ((cn - 1 : Nat) : Int) := by rw [IntWalk.i64_in _ ⟨by omega, by omega⟩]; omega
      have hsb2 : (cn : Int) - 1 = ((cn - 1 : Nat) : Int) := by omega
      have HSB := Lib.hid hsb2
      rw [← hsb2] at hsb
      have HNX' : Hid (∀ W', Chg [w1.heap.size + 1] W2 W' → TallyC cs n f W' (w1.heap.size + 1) (0 + (2 ^ n - 1)) → Calls Tryz.prog 45 #[.pointer (some ⟨cb, 0, none⟩), .agg #[.bool y.inn, .bool y.node, .int .u8 y.r.form, .int .u8 y.r.top, .int .u8 y.r.bot, .int .u8 y.r.lo.tag, .int .u32 y.r.lo.pos, .int .u8 y.r.hi.tag, .int .u32 y.r.hi.pos, .int .u8 y.tag, .int .u8 y.l], .int .i64 ((cn : Int) - 1), .map (some (w1.heap.size + 1))] W' (TlPost cs n f (upM ps n (nthR cs n f n y (cn - 1) 0)) W' (w1.heap.size + 1) (0 + (2 ^ n - 1) + 2 ^ n))) := Lib.hid (fun W' hc hT' => by rw [HSB.out]; exact HNX.out W' hc hT')
      have FACTS : Hid (∀ W', Chg [w1.heap.size + 1] W2 W' → W'.cell? ⟨w1.heap.size, 0, none⟩ = some (.bool y.inn) ∧ W'.cell? ⟨w1.heap.size, 1, none⟩ = some (.bool y.node) ∧ W'.cell? ⟨w1.heap.size, 2, none⟩ = some (.int .u8 y.r.form) ∧ W'.cell? ⟨w1.heap.size, 3, none⟩ = some (.int .u8 y.r.top) ∧ W'.cell? ⟨w1.heap.size, 4, none⟩ = some (.int .u8 y.r.bot) ∧ W'.cell? ⟨w1.heap.size, 5, none⟩ = some (.int .u8 y.r.lo.tag) ∧ W'.cell? ⟨w1.heap.size, 6, none⟩ = some (.int .u32 y.r.lo.pos) ∧ W'.cell? ⟨w1.heap.size, 7, none⟩ = some (.int .u8 y.r.hi.tag) ∧ W'.cell? ⟨w1.heap.size, 8, none⟩ = some (.int .u32 y.r.hi.pos) ∧ W'.cell? ⟨w1.heap.size, 9, none⟩ = some (.int .u8 y.tag) ∧ W'.cell? ⟨w1.heap.size, 10, none⟩ = some (.int .u8 y.l)) := Lib.hid (fun W' hW' => cells11 (HYY.out.chg hW' (by simp)))
      have c0 : Chg [w1.heap.size + 1] W2 W2 := Chg.refl _ _
      have h0 : (0 : Int) ≤ (cn : Int) - 1 := by omega
      clear hsb2
      have HCO' := Lib.hid (fun W' (hc : Chg [w1.heap.size + 1] W2 W') (hT' : TallyC cs n f W' (w1.heap.size + 1) 0) => HCF.out W' hc hT')
      rw [hyi] at k0 HCO' HNX' FACTS
      go_wp2_with fail
      go_region_held3 (fun w' => w'.cell? ⟨w1.heap.size, 0, none⟩ = some (.bool true) ∧ w'.cell? ⟨w1.heap.size, 1, none⟩ = some (.bool y.node) ∧ w'.cell? ⟨w1.heap.size, 2, none⟩ = some (.int .u8 y.r.form) ∧ w'.cell? ⟨w1.heap.size, 3, none⟩ = some (.int .u8 y.r.top) ∧ w'.cell? ⟨w1.heap.size, 4, none⟩ = some (.int .u8 y.r.bot) ∧ w'.cell? ⟨w1.heap.size, 5, none⟩ = some (.int .u8 y.r.lo.tag) ∧ w'.cell? ⟨w1.heap.size, 6, none⟩ = some (.int .u32 y.r.lo.pos) ∧ w'.cell? ⟨w1.heap.size, 7, none⟩ = some (.int .u8 y.r.hi.tag) ∧ w'.cell? ⟨w1.heap.size, 8, none⟩ = some (.int .u32 y.r.hi.pos) ∧ w'.cell? ⟨w1.heap.size, 9, none⟩ = some (.int .u8 y.tag) ∧ w'.cell? ⟨w1.heap.size, 10, none⟩ = some (.int .u8 y.l)) ((refine FACTS.out _ ?_; with_reducible (first | exact c0 | exact c0.drew | exact c1 | exact c1.drew | exact c2 | exact c2.drew))) (first | ((with_reducible show Calls _ 45 _ _ _); refine (HNX'.out _ (by with_reducible (first | exact c1 | exact c1.drew)) (by first | (with_reducible exact ht3) | exact Tally.keep ht3 rfl)).mono ?_; rintro x w4 ⟨rfl, ht4, hc4⟩; have c2 : Chg [w1.heap.size + 1] W2 w4 := (by with_reducible (first | exact chg_thenC c1 hc4 | exact chg_thenC c1.drew hc4)); clear hc4) | ((with_reducible show Calls _ 44 _ _ _); refine (HCO'.out _ (by with_reducible (first | exact c0 | exact c0.drew)) (by first | (with_reducible exact HT2.out) | exact Tally.keep HT2.out rfl)).mono ?_; rintro x w3 ⟨rfl, ht3, hc3⟩; have c1 : Chg [w1.heap.size + 1] W2 w3 := (by with_reducible (first | exact chg_thenC c0 hc3 | exact chg_thenC c0.drew hc3)); clear hc3) | fail)
      have HB4 : Hid (∀ W', Chg [w1.heap.size + 1] W2 W' → Below w.heap.size w W') := Lib.hid (fun W' hc => hbt HB2.out hc HQB.out)
      refine world_gen (fun U => Below w.heap.size w U) (by first | exact HB4.out _ c2 | exact HB4.out _ c2.drew) ?_
      intro U hU
      clear k0 k1 k2 k3 k4 k5 k6 k7 k8 k9 k10 c0 c1 c2 ht3 ht4
      go_wp2_with fail
      go_ret2
      exact ⟨by rw [HR.out]; rfl, hU⟩
end Go.Proofs.YtciokbngjfeihaaGreat
end

section
namespace Go.Proofs.YtciokbngjfeihaaGreat
open Go Go.RowKit Go.Maps
set_option linter.unusedSimpArgs false
set_option linter.unusedVariables false

def rankC (cs : List (Option Rec)) (n : Nat) (ps : List Int) (f : Int) (e : Edg) (x : Int) : Int × Nat :=
  if startC cs n ps.length f e ≠ 0 then (0, startC cs n ps.length f e) else if x < 0 ∨ ((2 ^ n : Nat) : Int) ≤ x then (0, 1) else ((rankR cs n f (rdown x.toNat ps).testBit n (atR cs e 0) : Nat), 0)
set_option maxRecDepth 200000 in
set_option maxHeartbeats 16000000 in
theorem rankTop_any (F G : List Nat) (gs go n room : Nat) (cs : List (Option Rec)) (free : List Int) (ps ls : List Int) (f : Int) (e : Edg) (xv : Int) (w : World) (h : MbAt w F G gs go n room cs free ps ls) (hf : 0 ≤ f ∧ f ≤ 255) (he : e.Wf) (hk : -9223372036854775808 ≤ xv ∧ xv ≤ 9223372036854775807) :
    Calls Tryz.prog 17 #[.pointer (some ⟨gs, 0, none⟩), .pointer (some ⟨go, 0, none⟩), .int .u8 f, .agg #[.int .u8 e.tag, .int .u32 e.pos], .int .i64 xv] w (PairOut w (rankC cs n ps f e xv).1 (rankC cs n ps f e xv).2) := by
  have hn16 := h.st.ok.n16
  obtain ⟨W, hW⟩ : ∃ W, W = w.alloc (.cells #[.int .u8 e.tag, .int .u32 e.pos] 26) := ⟨_, rfl⟩
  have hbW : Below w.heap.size w W := by rw [hW]; exact (Below.refl _ _).alloc (Nat.le_refl _) _
  have hK : Blk W w.heap.size 26 #[.int .u8 e.tag, .int .u32 e.pos] := by rw [hW]; exact Blk.new w _ _
  have j0 : W.cell? ⟨w.heap.size, 0, none⟩ = some (.int .u8 e.tag) := hK.cell 0
  have j1 : W.cell? ⟨w.heap.size, 1, none⟩ = some (.int .u32 e.pos) := hK.cell 1
  have HST := Lib.hid (start_any F G gs go n room cs free ps ls f e W (h.st.on hbW) (h.od.on hbW) hf he h.fit.perm.1)
  have HB := Lib.hid hbW
  have HM := Lib.hid (h.on hbW)
  have HWW := Lib.hid hW
  obtain ⟨out, hout⟩ : ∃ out, out = rankC cs n ps f e xv := ⟨_, rfl⟩
  rw [← hout]
  unfold rankC at hout
  have HOUT := Lib.hid hout
  have HE := Lib.hid he
  clear h hbW hK he hf hout
  go_enter Tryz.func17, Tryz.ntmps17
  go_upto_region 1 with fail
  rw [← HWW.out]
  clear hW
  go_wp2_with fail
  refine HST.out.mono ?_
  rintro x w1 ⟨ho, hb1⟩
  have HB1 := Lib.hid (HB.out.trans (hb1.mono HB.out.size))
  have HM1 := Lib.hid (HM.out.on hb1)
  clear j0 j1 hb1 HST HM
  rcases ho with ⟨hne, rfl⟩ | ⟨heq, cb, rfl, hca, hcb⟩
  · have HR : Hid (out = (0, startC cs n ps.length f e)) := Lib.hid (by rw [HOUT.out, if_pos hne])
    obtain ⟨code, hcode⟩ : ∃ code, code = startC cs n ps.length f e := ⟨_, rfl⟩
    rw [← hcode] at hne HR ⊢
    have t1 : ((code : Int) != 0) = true := by simpa using hne
    have t2 : (code != 0) = true := by simpa using hne
    clear hcode hne HOUT
    unfold Rst.cells Rst.nil Rec.nil Edg.nil
    go_wp2_with fail
    go_ret2
    exact ⟨by rw [HR.out]; rfl, HB1.out.alloc HB1.out.size _⟩
  · obtain ⟨y0, hy⟩ : ∃ y, y = atR cs e 0 := ⟨_, rfl⟩
    rw [if_neg (by simpa using heq), ← hy] at HOUT
    have hpl : ps.length = n := (startC_zero heq).1.symm
    have hok : RstOk n (0 : Nat) y0 := by rw [hy]; exact atR_ok (by omega) HE.out (by omega) HM1.out.hcs
    rw [← hy]
    unfold Rst.cells
    have c3 : (w1.alloc (.cells #[.bool y0.inn, .bool y0.node, .int .u8 y0.r.form, .int .u8 y0.r.top, .int .u8 y0.r.bot, .int .u8 y0.r.lo.tag, .int .u32 y0.r.lo.pos, .int .u8 y0.r.hi.tag, .int .u32 y0.r.hi.pos, .int .u8 y0.tag, .int .u8 y0.l] 78)).cell? ⟨cb, 3, none⟩ = some (.int .i64 (n : Nat)) := (hca.onB ((Below.refl _ _).alloc (Nat.le_refl _) _)).cell 3
    have hcl := Blk.lt hca
    have hsh : wrap64 (2 ^ n) = ((2 ^ n : Nat) : Int) := wrap64_pow n (by omega)
    have hp16 := pow_le16 hn16
    have HNL : Hid (w1.heap.size ∉ F ∧ cb ≠ w1.heap.size) := Lib.hid ⟨fun hm => by have := HM1.out.st.lt _ hm; omega, by have := Blk.lt hca; omega⟩
    have HS3 := Lib.hid (And.intro hca (And.intro hcb (And.intro hpl hok)))
    clear hy heq hca hcb hpl hok
    by_cases hx0 : xv < 0
    · have HR : Hid (out = (0, 1)) := Lib.hid (by rw [HOUT.out, if_pos (.inl hx0)])
      go_wp2_with fail
      go_ret2
      exact ⟨by rw [HR.out]; rfl, HB1.out.alloc HB1.out.size _⟩
    · obtain ⟨x, rfl⟩ : ∃ x : Nat, xv = x := ⟨xv.toNat, by omega⟩
      have e2 : ((2 : Int) ^ n) = ((2 ^ n : Nat) : Int) := by simp
      by_cases hx1 : x < 2 ^ n
      · have h1 : (x : Int) < (2 : Int) ^ n := by rw [e2]; omega
        clear e2
        obtain ⟨Wa, hWa⟩ : ∃ Wa, Wa = w1.alloc (.cells #[.bool y0.inn, .bool y0.node, .int .u8 y0.r.form, .int .u8 y0.r.top, .int .u8 y0.r.bot, .int .u8 y0.r.lo.tag, .int .u32 y0.r.lo.pos, .int .u8 y0.r.hi.tag, .int .u32 y0.r.hi.pos, .int .u8 y0.tag, .int .u8 y0.l] 78) := ⟨_, rfl⟩
        have hba : Below w1.heap.size w1 Wa := by rw [hWa]; exact (Below.refl _ _).alloc (Nat.le_refl _) _
        have hLa : Blk Wa w1.heap.size 78 #[.bool y0.inn, .bool y0.node, .int .u8 y0.r.form, .int .u8 y0.r.top, .int .u8 y0.r.bot, .int .u8 y0.r.lo.tag, .int .u32 y0.r.lo.pos, .int .u8 y0.r.hi.tag, .int .u32 y0.r.hi.pos, .int .u8 y0.tag, .int .u8 y0.l] := by rw [hWa]; exact Blk.new _ _ _
        obtain ⟨hca, hcb, hpl, hok⟩ := HS3.out
        have hdn := orderDown_yes G go ps ls x Wa (HM1.out.od.on hba) HM1.out.fit (by rw [hpl]; exact hx1)
        rw [downM_eq HM1.out.fit] at hdn
        have HDN := Lib.hid hdn
        have hyl : rdown x ps < 2 ^ n := by have := rdown_lt x ps; rw [hpl] at this; exact this
        have HR : Hid (out = (((rankR cs n f (rdown x ps).testBit n y0 : Nat) : Int), 0)) := Lib.hid (by rw [HOUT.out, if_neg (by omega), Int.toNat_natCast])

        have HBA := Lib.hid (HB1.out.trans (hba.mono HB1.out.size))
        have HMA := Lib.hid (HM1.out.on hba)
        have HCAA := Lib.hid (hca.onB hba)
        have HLA := Lib.hid hLa
        have HOK := Lib.hid hok
        have HQ1 : Hid (w.heap.size ≤ w1.heap.size) := Lib.hid HB1.out.size
        have HWA := Lib.hid hWa
        generalize rdown x ps = yv at *
        have hy16 : yv < 65536 := by omega
        clear hba hLa hca hcb hok hdn hWa HS3 HOUT HM1 HB1
        go_wp2_with fail
        rw [← HWA.out]
        refine HDN.out.mono ?_
        rintro e' wb ⟨rfl, hbb⟩
        obtain ⟨W2, hW2⟩ : ∃ W2, W2 = wb.alloc (.map #[] 0) := ⟨_, rfl⟩
        have hb2 : Below Wa.heap.size Wa W2 := by rw [hW2]; exact hbb.alloc hbb.size _
        obtain ⟨q, hq⟩ : ∃ q, q = wb.heap.size := ⟨_, rfl⟩
        have hT : TallyC cs n f W2 q 0 := by
          have := Tally.made (R := plainElem Tryz.prog 3) (zd := .lit (.int .i64 0)) (good := goodC cs n f) wb
          rw [hW2, hq]; exact this
        have hqa : Wa.heap.size ≤ q := by rw [hq]; exact hbb.size
        have hla := HLA.out.lt
        have hTl : TlAt W2 F gs go n room cb cs free f q := (HMA.out.on hb2).tl (HCAA.out.onB hb2) (fun k hk => by have := HMA.out.st.lt k hk; omega) (by have := Blk.lt HCAA.out; omega)
        have hne : ¬ w1.heap.size = q := by omega
        have hF1 : w1.heap.size ∉ F ∧ cb ≠ w1.heap.size := HNL.out
        have HCC : Hid (∀ W', Chg [q, w1.heap.size] W2 W' → TlAt W' F gs go n room cb cs free f q) := Lib.hid (fun W' h =>
          ⟨hTl.st.chg h (fun k hk hm => by
            simp at hm
            rcases hm with rfl | rfl
            · exact hTl.qF hk
            · exact hF1.1 hk), hTl.ca.chg h (by simp; exact ⟨hTl.qc, hF1.2⟩), hTl.hcs, hTl.qF, hTl.qc⟩)
        have HB2 := Lib.hid (HBA.out.trans (hb2.mono HBA.out.size))
        have HL2 := Lib.hid (HLA.out.onB hb2)
        have HT2 := Lib.hid hT
        have HQ := Lib.hid (show w.heap.size ≤ q by have := HBA.out.size; omega)
        have HW2 := Lib.hid hW2
        have HQQ := Lib.hid hq
        have c3 : W2.cell? ⟨cb, 3, none⟩ = some (.int .i64 (n : Nat)) := hTl.ca.cell 3
        have hcl2 := Blk.lt hTl.ca
        clear hb2 hT hTl hqa hla hF1 hW2 hq hbb
        go_wp2_with fail
        rw [show ∀ W, (Instr.makeMap 99 none).run Tryz.prog W = .ok (.map (some W.heap.size)) (W.alloc (.map #[] 0)) from fun _ => rfl]
        simp only [Result.andThen]
        rw [Oper.upon_value, ← HW2.out, ← HQQ.out]
        go_wp2_with fail
        go_loopw [17, 18] (fun nv kv wr => ∃ (m' c' N' : Nat) (x' : Rst), kv = .int .i64 ((m' : Int) - 1) ∧ nv = .int .i64 (c' : Int) ∧ m' ≤ n ∧ Hid (RstOk n (n - m' : Nat) x' ∧ c' + rankR cs n f yv.testBit m' x' = rankR cs n f yv.testBit n y0 ∧ c' + 2 ^ m' ≤ 2 ^ n ∧ Blk wr w1.heap.size 78 #[.bool x'.inn, .bool x'.node, .int .u8 x'.r.form, .int .u8 x'.r.top, .int .u8 x'.r.bot, .int .u8 x'.r.lo.tag, .int .u32 x'.r.lo.pos, .int .u8 x'.r.hi.tag, .int .u32 x'.r.hi.pos, .int .u8 x'.tag, .int .u8 x'.l] ∧ TallyC cs n f wr q N' ∧ N' + 2 ^ m' ≤ 2 ^ n ∧ Chg [q, w1.heap.size] W2 wr)) (fun _ kv _ => (intOf kv + 1).toNat)
        case atStart => exact ⟨n, 0, 0, y0, rfl, rfl, Nat.le_refl _, Lib.hid ⟨by rw [Nat.sub_self]; exact HOK.out, Nat.zero_add _, by omega, HL2.out, HT2.out, by omega, Chg.refl _ _⟩⟩
        case round =>
          obtain ⟨m', c', N', x', rfl, rfl, hmm, HRR⟩ := hrel
          have hkb := HRR.out.2.2.2.1
          have hch := HRR.out.2.2.2.2.2.2
          have hkl := hkb.lt
          have hc65 := HRR.out.2.2.1
          have hp2 := Nat.two_pow_pos m'
          have k0 : wr.cell? ⟨w1.heap.size, 0, none⟩ = some (.bool x'.inn) := hkb.cell 0
          cases m' with
          | zero =>
            have hres : c' = rankR cs n f yv.testBit n y0 := by have := HRR.out.2.1; rw [rankR] at this; omega
            have HRES := Lib.hid hres
            have HBX := Lib.hid (HB2.out.trans (hch.below (B := w.heap.size) HB2.out.size (fun z hz => by
              simp at hz
              rcases hz with rfl | rfl
              · exact HQ.out
              · exact HQ1.out)))
            clear hkb hch hres HRR
            go_wp2_with fail
            go_ret2
            exact ⟨by rw [HR.out, ← HRES.out]; rfl, HBX.out⟩
          | succ m' =>
            rw [show (((m' + 1 : Nat) : Int) - 1) = (m' : Int) by omega]
            cases hin : x'.inn with
            | false =>
              have hres : c' = rankR cs n f yv.testBit n y0 := by have := HRR.out.2.1; rw [rankR, hin] at this; simpa using this
              have HRES := Lib.hid hres
              have HBX := Lib.hid (HB2.out.trans (hch.below (B := w.heap.size) HB2.out.size (fun z hz => by
                simp at hz
                rcases hz with rfl | rfl
                · exact HQ.out
                · exact HQ1.out)))
              rw [hin] at k0
              clear hkb hch hres HRR
              go_wp2_with fail
              go_ret2
              exact ⟨by rw [HR.out, ← HRES.out]; rfl, HBX.out⟩
            | true =>
              have HIN := Lib.hid hin
              obtain ⟨xa, hxa⟩ : ∃ xa, xa = halfR cs n f x' false := ⟨_, rfl⟩
              obtain ⟨xb, hxb⟩ : ∃ xb, xb = halfR cs n f x' true := ⟨_, rfl⟩
              have hhalf : ∀ (one : Bool) (y' : Rst) W', y' = halfR cs n f x' one → TlAt W' F gs go n room cb cs free f q → Calls Tryz.prog 47 #[.pointer (some ⟨cb, 0, none⟩), .agg #[.bool true, .bool x'.node, .int .u8 x'.r.form, .int .u8 x'.r.top, .int .u8 x'.r.bot, .int .u8 x'.r.lo.tag, .int .u32 x'.r.lo.pos, .int .u8 x'.r.hi.tag, .int .u32 x'.r.hi.pos, .int .u8 x'.tag, .int .u8 x'.l], .bool one] W' fun e w' => e = .returned (.agg #[.bool y'.inn, .bool y'.node, .int .u8 y'.r.form, .int .u8 y'.r.top, .int .u8 y'.r.bot, .int .u8 y'.r.lo.tag, .int .u32 y'.r.lo.pos, .int .u8 y'.r.hi.tag, .int .u32 y'.r.hi.pos, .int .u8 y'.tag, .int .u8 y'.l]) ∧ Below W'.heap.size W' w' := fun one y' W' hy' h' => by
                have := half_any F gs go n room cb cs free f x' _ one W' h'.st h'.ca HRR.out.1 HIN.out (by omega) h'.hcs
                unfold Rst.cells at this
                rw [HIN.out] at this
                rw [hy']
                exact this
              have HHA := Lib.hid (fun W' (h : Chg [q, w1.heap.size] W2 W') => hhalf false xa W' hxa (HCC.out W' h))
              have HHB := Lib.hid (fun W' (h : Chg [q, w1.heap.size] W2 W') => hhalf true xb W' hxb (HCC.out W' h))
              have oka : RstOk n (n - m' : Nat) xa := by
                rw [hxa, show n - m' = (n - (m' + 1)) + 1 by omega]
                exact halfR_ok (by omega) (by omega) HRR.out.1 hin (by omega) (HCC.out W2 (Chg.refl _ _)).hcs
              have okb : RstOk n (n - m' : Nat) xb := by
                rw [hxb, show n - m' = (n - (m' + 1)) + 1 by omega]
                exact halfR_ok (by omega) (by omega) HRR.out.1 hin (by omega) (HCC.out W2 (Chg.refl _ _)).hcs
              have hps : 2 ^ (m' + 1) = 2 * 2 ^ m' := by rw [Nat.pow_succ]; omega
              have hNN := HRR.out.2.2.2.2.2.1
              have hrk := HRR.out.2.1
              rw [rankR, if_pos hin] at hrk
              have HCO := Lib.hid (fun W' (h : Chg [q, w1.heap.size] W2 W') (hT' : TallyC cs n f W' q N') => count_any F gs go n room cb cs free f q m' xa (n - m') N' W' (by omega) oka (HCC.out W' h) hT' (by omega))
              have hca := cntR_le (cs := cs) (n := n) (f := f) m' xa
              have HTN := Lib.hid HRR.out.2.2.2.2.1
              have HOA := Lib.hid oka
              have HOB := Lib.hid okb
              rw [hin] at hkb
              have HKB := Lib.hid hkb
              have HCH := Lib.hid hch
              have hbt := bit_test yv (by omega) (m' : Int) (by omega)
              rw [Int.toNat_natCast] at hbt
              clear k0
              obtain ⟨k0, k1, k2, k3, k4, k5, k6, k7, k8, k9, k10⟩ := cells11 hkb
              have hnq : ¬ q = w1.heap.size := fun h => hne h.symm
              have hp2' := Nat.two_pow_pos m'
              cases hb : yv.testBit m' with
              | false =>
                rw [hb] at hbt hrk
                have hbb : (bits BinOp.and IntKind.i64 ((yv : Int) / 2 ^ m') 1 == 1) = false := by rw [hbt]; rfl
                rw [if_neg (by simp), ← hxa, Nat.zero_add] at hrk
                have HRK := Lib.hid hrk
                clear hbt hb hrk hxa hxb hhalf oka okb hkb hch hin HRR
                go_wp2_with fail
                refine (HHA.out _ HCH.out).mono ?_
                rintro e' w5 ⟨rfl, hb5⟩
                have K5 := HKB.out.onB hb5
                obtain ⟨⟨t0, z0⟩, ⟨t1, z1⟩, ⟨t2, z2⟩, ⟨t3, z3⟩, ⟨t4, z4⟩, ⟨t5, z5⟩, ⟨t6, z6⟩, ⟨t7, z7⟩, ⟨t8, z8⟩, ⟨t9, z9⟩, ⟨t10, z10⟩⟩ := cf11 K5
                have E1 : Hid (Blk (((((((((((w5.setCell ⟨w1.heap.size, 0, none⟩ (.bool xa.inn)).setCell ⟨w1.heap.size, 1, none⟩ (.bool xa.node)).setCell ⟨w1.heap.size, 2, none⟩ (.int .u8 xa.r.form)).setCell ⟨w1.heap.size, 3, none⟩ (.int .u8 xa.r.top)).setCell ⟨w1.heap.size, 4, none⟩ (.int .u8 xa.r.bot)).setCell ⟨w1.heap.size, 5, none⟩ (.int .u8 xa.r.lo.tag)).setCell ⟨w1.heap.size, 6, none⟩ (.int .u32 xa.r.lo.pos)).setCell ⟨w1.heap.size, 7, none⟩ (.int .u8 xa.r.hi.tag)).setCell ⟨w1.heap.size, 8, none⟩ (.int .u32 xa.r.hi.pos)).setCell ⟨w1.heap.size, 9, none⟩ (.int .u8 xa.tag)).setCell ⟨w1.heap.size, 10, none⟩ (.int .u8 xa.l)) w1.heap.size 78 #[.bool xa.inn, .bool xa.node, .int .u8 xa.r.form, .int .u8 xa.r.top, .int .u8 xa.r.bot, .int .u8 xa.r.lo.tag, .int .u32 xa.r.lo.pos, .int .u8 xa.r.hi.tag, .int .u32 xa.r.hi.pos, .int .u8 xa.tag, .int .u8 xa.l] ∧ TallyC cs n f (((((((((((w5.setCell ⟨w1.heap.size, 0, none⟩ (.bool xa.inn)).setCell ⟨w1.heap.size, 1, none⟩ (.bool xa.node)).setCell ⟨w1.heap.size, 2, none⟩ (.int .u8 xa.r.form)).setCell ⟨w1.heap.size, 3, none⟩ (.int .u8 xa.r.top)).setCell ⟨w1.heap.size, 4, none⟩ (.int .u8 xa.r.bot)).setCell ⟨w1.heap.size, 5, none⟩ (.int .u8 xa.r.lo.tag)).setCell ⟨w1.heap.size, 6, none⟩ (.int .u32 xa.r.lo.pos)).setCell ⟨w1.heap.size, 7, none⟩ (.int .u8 xa.r.hi.tag)).setCell ⟨w1.heap.size, 8, none⟩ (.int .u32 xa.r.hi.pos)).setCell ⟨w1.heap.size, 9, none⟩ (.int .u8 xa.tag)).setCell ⟨w1.heap.size, 10, none⟩ (.int .u8 xa.l)) q N' ∧ Chg [q, w1.heap.size] W2 (((((((((((w5.setCell ⟨w1.heap.size, 0, none⟩ (.bool xa.inn)).setCell ⟨w1.heap.size, 1, none⟩ (.bool xa.node)).setCell ⟨w1.heap.size, 2, none⟩ (.int .u8 xa.r.form)).setCell ⟨w1.heap.size, 3, none⟩ (.int .u8 xa.r.top)).setCell ⟨w1.heap.size, 4, none⟩ (.int .u8 xa.r.bot)).setCell ⟨w1.heap.size, 5, none⟩ (.int .u8 xa.r.lo.tag)).setCell ⟨w1.heap.size, 6, none⟩ (.int .u32 xa.r.lo.pos)).setCell ⟨w1.heap.size, 7, none⟩ (.int .u8 xa.r.hi.tag)).setCell ⟨w1.heap.size, 8, none⟩ (.int .u32 xa.r.hi.pos)).setCell ⟨w1.heap.size, 9, none⟩ (.int .u8 xa.tag)).setCell ⟨w1.heap.size, 10, none⟩ (.int .u8 xa.l))) := Lib.hid (stepE K5 (HTN.out.on hb5) hnq (chg_thenB HCH.out hb5) (by simp))
                clear k0 k1 k2 k3 k4 k5 k6 k7 k8 k9 k10 K5 hb5
                go_wp2_with fail
                go_roundw
                case rel => exact ⟨m', c', N', xa, rfl, rfl, by omega, Lib.hid ⟨HOA.out, HRK.out, by omega, E1.out.1, E1.out.2.1, by omega, E1.out.2.2⟩⟩
                case measure => simp [intOf] <;> omega
              | true =>
                rw [hb] at hbt hrk
                have hbb : (bits BinOp.and IntKind.i64 ((yv : Int) / 2 ^ m') 1 == 1) = true := by rw [hbt]; rfl
                rw [if_pos rfl, ← hxa, ← hxb] at hrk
                have HRK := Lib.hid hrk
                generalize hna : cntR cs (↑n) f m' xa = na at *
                have HRK := Lib.hid hrk
                have hna0 : (0 : Int) ≤ (c' : Int) + (na : Int) := by omega
                have hna1 : (c' : Int) + (na : Int) ≤ 1000000 := by omega
                clear hna hbt hb hrk hxa hxb hhalf oka okb hkb hch hin HRR
                go_wp2_with fail
                refine (HHA.out _ HCH.out).mono ?_
                rintro e' w4 ⟨rfl, hb4⟩
                have C4 := Lib.hid (chg_thenB HCH.out hb4)
                have T4 := Lib.hid (HTN.out.on hb4)
                have K4 := Lib.hid (HKB.out.onB hb4)
                clear hb4 k0 k1 k2 k3 k4 k5 k6 k7 k8 k9 k10
                go_wp2_with fail
                refine (HCO.out _ C4.out T4.out).mono ?_
                rintro e' w6 ⟨rfl, ht6, hc6⟩
                have C6 := Lib.hid (C4.out.trans hc6 (fun z hz => .inl (by simp at hz; subst hz; simp)))
                have T6 := Lib.hid ht6
                have K6 := Lib.hid (K4.out.chg hc6 (by simpa using hne))
                obtain ⟨k0, k1, k2, k3, k4, k5, k6, k7, k8, k9, k10⟩ := cells11 K6.out
                clear ht6 hc6
                go_wp2_with fail
                refine (HHB.out _ C6.out).mono ?_
                rintro e' w5 ⟨rfl, hb5⟩
                have K5 := K6.out.onB hb5
                obtain ⟨⟨t0, z0⟩, ⟨t1, z1⟩, ⟨t2, z2⟩, ⟨t3, z3⟩, ⟨t4, z4⟩, ⟨t5, z5⟩, ⟨t6, z6⟩, ⟨t7, z7⟩, ⟨t8, z8⟩, ⟨t9, z9⟩, ⟨t10, z10⟩⟩ := cf11 K5
                have E1 : Hid (Blk (((((((((((w5.setCell ⟨w1.heap.size, 0, none⟩ (.bool xb.inn)).setCell ⟨w1.heap.size, 1, none⟩ (.bool xb.node)).setCell ⟨w1.heap.size, 2, none⟩ (.int .u8 xb.r.form)).setCell ⟨w1.heap.size, 3, none⟩ (.int .u8 xb.r.top)).setCell ⟨w1.heap.size, 4, none⟩ (.int .u8 xb.r.bot)).setCell ⟨w1.heap.size, 5, none⟩ (.int .u8 xb.r.lo.tag)).setCell ⟨w1.heap.size, 6, none⟩ (.int .u32 xb.r.lo.pos)).setCell ⟨w1.heap.size, 7, none⟩ (.int .u8 xb.r.hi.tag)).setCell ⟨w1.heap.size, 8, none⟩ (.int .u32 xb.r.hi.pos)).setCell ⟨w1.heap.size, 9, none⟩ (.int .u8 xb.tag)).setCell ⟨w1.heap.size, 10, none⟩ (.int .u8 xb.l)) w1.heap.size 78 #[.bool xb.inn, .bool xb.node, .int .u8 xb.r.form, .int .u8 xb.r.top, .int .u8 xb.r.bot, .int .u8 xb.r.lo.tag, .int .u32 xb.r.lo.pos, .int .u8 xb.r.hi.tag, .int .u32 xb.r.hi.pos, .int .u8 xb.tag, .int .u8 xb.l] ∧ TallyC cs n f (((((((((((w5.setCell ⟨w1.heap.size, 0, none⟩ (.bool xb.inn)).setCell ⟨w1.heap.size, 1, none⟩ (.bool xb.node)).setCell ⟨w1.heap.size, 2, none⟩ (.int .u8 xb.r.form)).setCell ⟨w1.heap.size, 3, none⟩ (.int .u8 xb.r.top)).setCell ⟨w1.heap.size, 4, none⟩ (.int .u8 xb.r.bot)).setCell ⟨w1.heap.size, 5, none⟩ (.int .u8 xb.r.lo.tag)).setCell ⟨w1.heap.size, 6, none⟩ (.int .u32 xb.r.lo.pos)).setCell ⟨w1.heap.size, 7, none⟩ (.int .u8 xb.r.hi.tag)).setCell ⟨w1.heap.size, 8, none⟩ (.int .u32 xb.r.hi.pos)).setCell ⟨w1.heap.size, 9, none⟩ (.int .u8 xb.tag)).setCell ⟨w1.heap.size, 10, none⟩ (.int .u8 xb.l)) q (N' + (2 ^ m' - 1)) ∧ Chg [q, w1.heap.size] W2 (((((((((((w5.setCell ⟨w1.heap.size, 0, none⟩ (.bool xb.inn)).setCell ⟨w1.heap.size, 1, none⟩ (.bool xb.node)).setCell ⟨w1.heap.size, 2, none⟩ (.int .u8 xb.r.form)).setCell ⟨w1.heap.size, 3, none⟩ (.int .u8 xb.r.top)).setCell ⟨w1.heap.size, 4, none⟩ (.int .u8 xb.r.bot)).setCell ⟨w1.heap.size, 5, none⟩ (.int .u8 xb.r.lo.tag)).setCell ⟨w1.heap.size, 6, none⟩ (.int .u32 xb.r.lo.pos)).setCell ⟨w1.heap.size, 7, none⟩ (.int .u8 xb.r.hi.tag)).setCell ⟨w1.heap.size, 8, none⟩ (.int .u32 xb.r.hi.pos)).setCell ⟨w1.heap.size, 9, none⟩ (.int .u8 xb.tag)).setCell ⟨w1.heap.size, 10, none⟩ (.int .u8 xb.l))) := Lib.hid (stepE K5 (T6.out.on hb5) hnq (chg_thenB C6.out hb5) (by simp))
                clear k0 k1 k2 k3 k4 k5 k6 k7 k8 k9 k10 K5 hb5
                go_wp2_with fail
                go_roundw
                case rel => exact ⟨m', c' + na, N' + (2 ^ m' - 1), xb, rfl, by go_num, by omega, Lib.hid ⟨HOB.out, by have := HRK.out; omega, by omega, E1.out.1, E1.out.2.1, by omega, E1.out.2.2⟩⟩
                case measure => simp [intOf] <;> omega
      · have h1 : (2 : Int) ^ n ≤ (x : Int) := by rw [e2]; omega
        have h2 : ¬ (x : Int) < (2 : Int) ^ n := by omega
        clear e2
        have HR : Hid (out = (0, 1)) := Lib.hid (by rw [HOUT.out, if_pos (.inr (by omega))])
        go_wp2_with fail
        go_ret2
        exact ⟨by rw [HR.out]; rfl, HB1.out.alloc HB1.out.size _⟩
end Go.Proofs.YtciokbngjfeihaaGreat
end
