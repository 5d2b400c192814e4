/- Contract: member.each, inside a range over a function. Contract: member.All: which members it hands on, in which order. -/
import Derived.Test.YtpjciaomhfeeeaaGreatMbrC
import Derived.Test.YtpjciaomhfeeeaaGreatMai
import Derived.Test.YtpjciaomhfeeeaaGreatMag
import Derived.Sort.QuietIn
section
namespace Go.Proofs.YtpjciaomhfeeeaaGreat
open Go Go.RowKit Go.Shelf
set_option linter.unusedSimpArgs false
set_option linter.unusedVariables false

/-- how each ends: L has been handed on, or a part of XS, and no more is wanted -/
def EachPost (I Ix : List Nat → List Nat → World → Prop) (Fp : List Nat) (w : World) (XS L : List Nat) (e : Ending) (W' : World) : Prop :=
  (e = .returned (.bool true) ∧ ∃ Fp', Sofar I Fp w Fp' L W') ∨ (e = .returned (.bool false) ∧ ∃ Fp' pre', pre' <+: XS ∧ Ix Fp' pre' W')
/-- what each reads: it stands, apart from the body's blocks -/
structure EachAt (w : World) (Fp F G : List Nat) (gs go n room cb : Nat) (cs : List (Option Rec)) (free : List Int) (ps ls : List Int) (f : Int) : Prop where
  st : StoreAt w F gs n room cs free
  od : OrdAt w G go ps ls
  ca : CastAt w cb gs go f n
  dF : ∀ k ∈ F, k ∉ Fp
  dG : ∀ k ∈ G, k ∉ Fp
  dC : cb ∉ Fp
theorem EachAt.later {w w' : World} {Fp Fp' F G : List Nat} {gs go n room cb : Nat} {cs : List (Option Rec)} {free : List Int} {ps ls : List Int} {f : Int} (h : EachAt w Fp F G gs go n room cb cs free ps ls f) (hg : Grows Fp Fp' w) (hc : Chg Fp w w') : EachAt w' Fp' F G gs go n room cb cs free ps ls f :=
  ⟨h.st.chg hc h.dF, h.od.chg hc h.dG, Blk.chg h.ca hc h.dC, fun k hk hm => by
    rcases hg k hm with h1 | h1
    · exact h.dF k hk h1
    · have := h.st.lt k hk; omega, fun k hk hm => by
    rcases hg k hm with h1 | h1
    · exact h.dG k hk h1
    · have := h.od.lt k hk; omega, fun hm => by
    rcases hg _ hm with h1 | h1
    · exact h.dC h1
    · have := Blk.lt h.ca; omega⟩
structure EachIn (n l B : Nat) (cs : List (Option Rec)) (ps ls : List Int) (I Ix : List Nat → List Nat → World → Prop) (XS : List Nat) : Prop where
  fit : Fits ps ls
  pl : ps.length = n
  hcs : ∀ id r, recAt cs id = some r → r.Wf ∧ r.top ≤ r.bot ∧ r.bot < n
  hI : Local B I
  bI : Bounded I
  hY : ∀ Fp pre x W1, I Fp pre W1 → B ≤ W1.heap.size → pre ++ [x] <+: XS → YieldAt Fence.wide 0 Tryz.prog l #[.int .i64 (x : Nat)] W1 (RoundPost I Ix Fp (pre ++ [x]) W1)
set_option maxRecDepth 100000 in
set_option maxHeartbeats 4000000 in
theorem castUp_any (G : List Nat) (gs go n cb y : Nat) (ps ls : List Int) (f : Int) (w : World) (hO : OrdAt w G go ps ls) (hf : Fits ps ls) (hn : ps.length = n) (hC : CastAt w cb gs go f n) (hy : y < 2 ^ n) :
    Calls Tryz.prog 25 #[.pointer (some ⟨cb, 0, none⟩), .int .i64 (y : Nat)] w fun e w' => e = .returned (.int .i64 (upM ps n y : Nat)) ∧ Below w.heap.size w w' := by
  have hU := orderUp_yes G go ps ls y w hO hf (by rw [hn]; exact hy)
  rw [hn] at hU
  have HU := Lib.hid hU
  have c1 : w.cell? ⟨cb, 1, none⟩ = some (.pointer (some ⟨go, 0, none⟩)) := hC.cell 1
  clear hO hf hn hC hU
  go_enter Tryz.func25, Tryz.ntmps25
  go_wp2_with fail
  refine HU.out.mono ?_
  rintro e w1 ⟨rfl, hb⟩
  go_wp2_with fail
  go_ret
  exact ⟨rfl, hb⟩
theorem same_grows (Fp : List Nat) (w : World) : Grows Fp Fp w := fun k hk => .inl hk
theorem sofar_below {I : List Nat → List Nat → World → Prop} {B : Nat} {Fp pre : List Nat} {w w' : World} (hI : Local B I) (hB : B ≤ w.heap.size) (h : I Fp pre w) (hb : Below w.heap.size w w') : Sofar I Fp w Fp pre w' :=
  ⟨chg_local (hI.later hB) h hb, same_grows _ _, chg_of_below hb⟩
theorem sofar_next {I : List Nat → List Nat → World → Prop} {Fp Fp1 Fp2 p1 p2 : List Nat} {w w1 w2 : World} (h : Sofar I Fp w Fp1 p1 w1) (k : Sofar I Fp1 w1 Fp2 p2 w2) : Sofar I Fp w Fp2 p2 w2 :=
  ⟨k.1, grows_chg h.2.1 h.2.2 k.2.1 k.2.2⟩
set_option maxRecDepth 200000 in
set_option maxHeartbeats 32000000 in
theorem each_any (F G : List Nat) (gs go n room cb l B : Nat) (cs : List (Option Rec)) (free : List Int) (ps ls : List Int) (f : Int) (I Ix : List Nat → List Nat → World → Prop) (XS : List Nat) (E : EachIn n l B cs ps ls I Ix XS) :
    ∀ (m : Nat) (x : Rst) (lv y : Nat) (Fp pre : List Nat) (w : World), lv + m = n → RstOk n lv x → y < 2 ^ lv → B ≤ w.heap.size → EachAt w Fp F G gs go n room cb cs free ps ls f → I Fp pre w → pre ++ (memR cs n f m x y).map (upM ps n) <+: XS →
    CallsIn Fence.wide 0 Tryz.prog 41 #[.pointer (some ⟨cb, 0, none⟩), .agg #[.bool x.inn, .bool x.node, .int .u8 x.r.form, .int .u8 x.r.top, .int .u8 x.r.bot, .int .u8 x.r.lo.tag, .int .u32 x.r.lo.pos, .int .u8 x.r.hi.tag, .int .u32 x.r.hi.pos, .int .u8 x.tag, .int .u8 x.l], .int .i64 (y : Nat), .func (.yield l) #[] #[]] w (EachPost I Ix Fp w XS (pre ++ (memR cs n f m x y).map (upM ps n))) := by
  intro m
  induction m with
  | zero =>
    intro x lv y Fp pre w hm hx hy hBw hE hs hpre
    have hn16 := hE.st.ok.n16
    obtain ⟨W, hW⟩ : ∃ W, W = w.alloc (.cells #[.bool x.inn, .bool x.node, .int .u8 x.r.form, .int .u8 x.r.top, .int .u8 x.r.bot, .int .u8 x.r.lo.tag, .int .u32 x.r.lo.pos, .int .u8 x.r.hi.tag, .int .u32 x.r.hi.pos, .int .u8 x.tag, .int .u8 x.l] 72) := ⟨_, rfl⟩
    have hbW : Below w.heap.size w W := by rw [hW]; exact (Below.refl _ _).alloc (Nat.le_refl _) _
    have hK : Blk W w.heap.size 72 #[.bool x.inn, .bool x.node, .int .u8 x.r.form, .int .u8 x.r.top, .int .u8 x.r.bot, .int .u8 x.r.lo.tag, .int .u32 x.r.lo.pos, .int .u8 x.r.hi.tag, .int .u32 x.r.hi.pos, .int .u8 x.tag, .int .u8 x.l] := by rw [hW]; exact Blk.new w _ _
    have hsW : Sofar I Fp w Fp pre W := sofar_below E.hI hBw hs hbW
    have hEW := hE.later hsW.2.1 hsW.2.2
    have k0 := hK.cell 0
    have hkf : w.heap.size ∉ Fp := fun hm => by have := E.bI Fp pre w hs _ hm; omega
    cases hin : x.inn with
    | false =>
      have HFIN : Hid (EachPost I Ix Fp w XS (pre ++ (memR cs n f 0 x y).map (upM ps n)) (.returned (.bool true)) W) := Lib.hid (.inl ⟨rfl, Fp, by
        rw [memR, if_neg (by simp [hin])]
        simpa using hsW⟩)
      rw [hin] at hK k0 hW
      have HWW := Lib.hid hW
      clear hs hE hEW hsW hK hbW E hpre hx
      refine callsIn_of_wp Tryz.func41 rfl trivial ?_ rfl
      simp only [Tryz.ntmps41, List.size_toArray, List.length_cons, List.length_nil, Nat.reduceAdd, Nat.reduceSub, Array.replicate_succ, Array.replicate_zero, List.push_toArray, List.append_toArray, List.nil_append, List.cons_append]
      gi_wp2_with fail
      rw [← HWW.out]
      go_ret
      exact HFIN.out
    | true =>
      have hl := hx.l hin
      have hl0 : x.l = (n : Int) := by omega
      rw [memR, if_pos hin] at hpre ⊢
      simp only [List.map_cons, List.map_nil] at hpre ⊢
      have hUP := fun W' (hW' : Below W.heap.size W W') => castUp_any G gs go n cb y ps ls f W' (hEW.od.on hW') E.fit E.pl (Blk.onB hEW.ca hW') (Nat.lt_of_lt_of_le hy (Nat.pow_le_pow_right (by omega) (by omega)))
      have HUP := Lib.hid hUP
      have k10 : W.cell? ⟨w.heap.size, 10, none⟩ = some (.int .u8 x.l) := hK.cell 10
      rw [hl0] at k10
      have c3 : W.cell? ⟨cb, 3, none⟩ = some (.int .i64 (n : Nat)) := hEW.ca.cell 3
      have hcl := Blk.lt hEW.ca
      have hkl := hK.lt
      have HS := Lib.hid hsW
      have hcv : IntKind.i64.wrap (n : Int) = (n : Int) := IntWalk.i64_in _ ⟨by omega, by omega⟩
      have HE := Lib.hid E
      have HPRE := Lib.hid (And.intro hpre (Nat.le_trans hBw hbW.size))
      rw [hin] at k0 hW
      clear hl hl0
      have HWW := Lib.hid hW
      clear hs hE hEW hsW hK hbW E hpre hx hUP hW
      refine callsIn_of_wp Tryz.func41 rfl trivial ?_ rfl
      simp only [Tryz.ntmps41, List.size_toArray, List.length_cons, List.length_nil, Nat.reduceAdd, Nat.reduceSub, Array.replicate_succ, Array.replicate_zero, List.push_toArray, List.append_toArray, List.nil_append, List.cons_append]
      gi_wp2_with fail
      rw [← HWW.out]
      gi_quiet (fail)
      gi_wp2_with fail
      refine ⟨trivial, rfl, ?_⟩
      refine (callsIn_wide.2 (HUP.out _ (below_drewN (Below.refl _ _) _))).mono ?_
      rintro e w2 ⟨rfl, hb2⟩
      have hb02 : Below W.heap.size W w2 := (below_drewN (Below.refl _ _) _).trans hb2
      have hs2 := sofar_next HS.out (sofar_below HE.out.hI HPRE.out.2 HS.out.1 hb02)
      obtain ⟨fn, tmps, assign, body, hy', hR'⟩ := HE.out.hY Fp pre (upM ps n y) w2 hs2.1 (Nat.le_trans HPRE.out.2 hb02.size) HPRE.out.1
      have HRR := Lib.hid hR'
      have HS2 := Lib.hid hs2
      clear hR' hs2 hb2 hb02
      gi_wp2_with fail
      refine ⟨rfl, HRR.out.mono ?_⟩
      rintro e W3 ⟨Fp', hgr, hch, (⟨rfl, hi3⟩ | ⟨rfl, hi3⟩)⟩
      · have HF : Hid (EachPost I Ix Fp w XS (pre ++ [upM ps n y]) (.returned (.bool true)) W3) := Lib.hid (.inl ⟨rfl, Fp', sofar_next HS2.out ⟨hi3, hgr, hch⟩⟩)
        clear hgr hch hi3 hy'
        gi_wp2_with fail
        go_ret
        exact HF.out
      · have HF : Hid (EachPost I Ix Fp w XS (pre ++ [upM ps n y]) (.returned (.bool false)) W3) := Lib.hid (.inr ⟨rfl, Fp', _, HPRE.out.1, hi3⟩)
        clear hgr hch hi3 hy'
        gi_wp2_with fail
        go_ret
        exact HF.out
  | succ m ih =>
    intro x lv y Fp pre w hm hx hy hBw hE hs hpre
    have hn16 := hE.st.ok.n16
    obtain ⟨W, hW⟩ : ∃ W, W = w.alloc (.cells #[.bool x.inn, .bool x.node, .int .u8 x.r.form, .int .u8 x.r.top, .int .u8 x.r.bot, .int .u8 x.r.lo.tag, .int .u32 x.r.lo.pos, .int .u8 x.r.hi.tag, .int .u32 x.r.hi.pos, .int .u8 x.tag, .int .u8 x.l] 72) := ⟨_, rfl⟩
    have hbW : Below w.heap.size w W := by rw [hW]; exact (Below.refl _ _).alloc (Nat.le_refl _) _
    have hK : Blk W w.heap.size 72 #[.bool x.inn, .bool x.node, .int .u8 x.r.form, .int .u8 x.r.top, .int .u8 x.r.bot, .int .u8 x.r.lo.tag, .int .u32 x.r.lo.pos, .int .u8 x.r.hi.tag, .int .u32 x.r.hi.pos, .int .u8 x.tag, .int .u8 x.l] := by rw [hW]; exact Blk.new w _ _
    have hsW : Sofar I Fp w Fp pre W := sofar_below E.hI hBw hs hbW
    have hEW := hE.later hsW.2.1 hsW.2.2
    have k0 := hK.cell 0
    have hkf : w.heap.size ∉ Fp := fun hm => by have := E.bI Fp pre w hs _ hm; omega
    cases hin : x.inn with
    | false =>
      have HFIN : Hid (EachPost I Ix Fp w XS (pre ++ (memR cs n f (m + 1) x y).map (upM ps n)) (.returned (.bool true)) W) := Lib.hid (.inl ⟨rfl, Fp, by
        rw [memR, if_neg (by simp [hin])]
        simpa using hsW⟩)
      rw [hin] at hK k0 hW
      have HWW := Lib.hid hW
      clear hs hE hEW hsW hK hbW E hpre hx ih
      refine callsIn_of_wp Tryz.func41 rfl trivial ?_ rfl
      simp only [Tryz.ntmps41, List.size_toArray, List.length_cons, List.length_nil, Nat.reduceAdd, Nat.reduceSub, Array.replicate_succ, Array.replicate_zero, List.push_toArray, List.append_toArray, List.nil_append, List.cons_append]
      gi_wp2_with fail
      rw [← HWW.out]
      go_ret
      exact HFIN.out
    | true =>
      have hl := hx.l hin
      have hll : x.l < (n : Int) := by omega
      have hl0 := hx.ln
      have L0 : Hid (memR cs n f (m + 1) x y = memR cs n f m (halfR cs n f x false) (2 * y) ++ memR cs n f m (halfR cs n f x true) (2 * y + 1)) := Lib.hid (by rw [memR, if_pos hin])
      obtain ⟨xa, hxa⟩ : ∃ xa, xa = halfR cs n f x false := ⟨_, rfl⟩
      obtain ⟨xb, hxb⟩ : ∃ xb, xb = halfR cs n f x true := ⟨_, rfl⟩
      rw [← hxa, ← hxb] at L0
      have oka : RstOk n (lv + 1 : Nat) xa := by rw [hxa]; exact halfR_ok (by omega) (by omega) hx hin (by omega) E.hcs
      have okb : RstOk n (lv + 1 : Nat) xb := by rw [hxb]; exact halfR_ok (by omega) (by omega) hx hin (by omega) E.hcs
      have hhalf : ∀ (one : Bool) (y' : Rst) W' Fp', y' = halfR cs n f x one → EachAt W' Fp' F G gs go n room cb cs free ps ls f → Calls Tryz.prog 53 #[.pointer (some ⟨cb, 0, none⟩), .agg #[.bool true, .bool x.node, .int .u8 x.r.form, .int .u8 x.r.top, .int .u8 x.r.bot, .int .u8 x.r.lo.tag, .int .u32 x.r.lo.pos, .int .u8 x.r.hi.tag, .int .u32 x.r.hi.pos, .int .u8 x.tag, .int .u8 x.l], .bool one] W' fun e w' => e = .returned (.agg #[.bool y'.inn, .bool y'.node, .int .u8 y'.r.form, .int .u8 y'.r.top, .int .u8 y'.r.bot, .int .u8 y'.r.lo.tag, .int .u32 y'.r.lo.pos, .int .u8 y'.r.hi.tag, .int .u32 y'.r.hi.pos, .int .u8 y'.tag, .int .u8 y'.l]) ∧ Below W'.heap.size W' w' := fun one y' W' Fp' hy' h' => by
        have := half_any F gs go n room cb cs free f x lv one W' h'.st h'.ca hx hin (by omega) E.hcs
        unfold Rst.cells at this
        rw [hin] at this
        rw [hy']
        exact this
      have HHALF := Lib.hid hhalf
      have HX := Lib.hid (And.intro hxa (And.intro hxb (And.intro oka okb)))
      have HIH := Lib.hid ih
      have HP : Hid (2 * y < 2 ^ (lv + 1) ∧ 2 * y + 1 < 2 ^ (lv + 1) ∧ lv + 1 + m = n ∧ y < 65536) := Lib.hid (by
        have h1 : 2 ^ (lv + 1) = 2 * 2 ^ lv := by rw [Nat.pow_succ, Nat.mul_comm]
        have h2 : 2 ^ lv ≤ 2 ^ 16 := Nat.pow_le_pow_right (by omega) (by omega)
        omega)
      have hy16 := HP.out.2.2.2
      rw [hin] at hK
      have k0 : W.cell? ⟨w.heap.size, 0, none⟩ = some (.bool true) := (hK).cell 0
      have k1 : W.cell? ⟨w.heap.size, 1, none⟩ = some (.bool x.node) := (hK).cell 1
      have k2 : W.cell? ⟨w.heap.size, 2, none⟩ = some (.int .u8 x.r.form) := (hK).cell 2
      have k3 : W.cell? ⟨w.heap.size, 3, none⟩ = some (.int .u8 x.r.top) := (hK).cell 3
      have k4 : W.cell? ⟨w.heap.size, 4, none⟩ = some (.int .u8 x.r.bot) := (hK).cell 4
      have k5 : W.cell? ⟨w.heap.size, 5, none⟩ = some (.int .u8 x.r.lo.tag) := (hK).cell 5
      have k6 : W.cell? ⟨w.heap.size, 6, none⟩ = some (.int .u32 x.r.lo.pos) := (hK).cell 6
      have k7 : W.cell? ⟨w.heap.size, 7, none⟩ = some (.int .u8 x.r.hi.tag) := (hK).cell 7
      have k8 : W.cell? ⟨w.heap.size, 8, none⟩ = some (.int .u32 x.r.hi.pos) := (hK).cell 8
      have k9 : W.cell? ⟨w.heap.size, 9, none⟩ = some (.int .u8 x.tag) := (hK).cell 9
      have k10 : W.cell? ⟨w.heap.size, 10, none⟩ = some (.int .u8 x.l) := (hK).cell 10
      have c3 : W.cell? ⟨cb, 3, none⟩ = some (.int .i64 (n : Nat)) := hEW.ca.cell 3
      have hcl := Blk.lt hEW.ca
      have hkl := hK.lt
      have HS := Lib.hid hsW
      have HEW := Lib.hid hEW
      have HK := Lib.hid hK
      have hcv : IntKind.i64.wrap x.l = x.l := IntWalk.i64_in _ ⟨by omega, by omega⟩
      have hne : (x.l == (n : Int)) = false := by rw [beq_eq_false_iff_ne]; omega
      have HE := Lib.hid E
      have HPRE := Lib.hid (And.intro hpre (And.intro (Nat.le_trans hBw hbW.size) hkf))
      rw [hin] at hW
      have HWW := Lib.hid hW
      clear hs hE hEW hsW hK hbW E hpre hx hW ih hhalf hxa hxb oka okb hkf hl
      refine callsIn_of_wp Tryz.func41 rfl trivial ?_ rfl
      simp only [Tryz.ntmps41, List.size_toArray, List.length_cons, List.length_nil, Nat.reduceAdd, Nat.reduceSub, Array.replicate_succ, Array.replicate_zero, List.push_toArray, List.append_toArray, List.nil_append, List.cons_append]
      gi_wp2_with fail
      rw [← HWW.out]
      gi_quiet (fail)
      gi_wp2_with fail
      refine ⟨trivial, rfl, ?_⟩
      refine (callsIn_wide.2 (HHALF.out false xa _ Fp HX.out.1 (HEW.out.later (same_grows _ _) (chg_of_below (below_drewN (Below.refl _ _) _))))).mono ?_
      rintro e w2 ⟨rfl, hb2⟩
      have hb02 : Below W.heap.size W w2 := (below_drewN (Below.refl _ _) _).trans hb2
      have hs2 := sofar_next HS.out (sofar_below HE.out.hI HPRE.out.2.1 HS.out.1 hb02)
      have hE2 := HEW.out.later (same_grows Fp W) (chg_of_below hb02)
      have hK2 := Blk.onB HK.out hb02
      have hpa : pre ++ (memR cs n f m xa (2 * y)).map (upM ps n) <+: XS := by
        refine List.IsPrefix.trans ?_ HPRE.out.1
        rw [L0.out, List.map_append, ← List.append_assoc]
        exact List.prefix_append _ _
      have HC1 := HIH.out xa (lv + 1) (2 * y) Fp pre w2 HP.out.2.2.1 HX.out.2.2.1 HP.out.1 (Nat.le_trans HPRE.out.2.1 hb02.size) hE2 hs2.1 hpa
      rw [show ((2 * y : Nat) : Int) = 2 * (y : Int) by omega] at HC1
      have HC1' := Lib.hid HC1
      have H2 := Lib.hid (And.intro hs2 (And.intro hE2 hK2))
      have hB2 := Lib.hid (Nat.le_trans HPRE.out.2.1 hb02.size)
      have hk2 := hK2.lt
      clear HC1 hs2 hE2 hK2 hb02 hb2 hpa k0 k1 k2 k3 k4 k5 k6 k7 k8 k9 k10 c3
      gi_wp2_with fail
      refine ⟨trivial, rfl, ?_⟩
      refine HC1'.out.mono ?_
      rintro e w3 (⟨rfl, Fp1, hs3⟩ | ⟨rfl, Fp1, pre1, hp1, hix⟩)
      · obtain ⟨hs2, hE2, hK2⟩ := H2.out
        have hE3 := hE2.later hs3.2.1 hs3.2.2
        have hK3 := hK2.chg hs3.2.2 HPRE.out.2.2
        have hs03 := sofar_next hs2 hs3
        have k0 : w3.cell? ⟨w.heap.size, 0, none⟩ = some (.bool true) := (hK3).cell 0
        have k1 : w3.cell? ⟨w.heap.size, 1, none⟩ = some (.bool x.node) := (hK3).cell 1
        have k2 : w3.cell? ⟨w.heap.size, 2, none⟩ = some (.int .u8 x.r.form) := (hK3).cell 2
        have k3 : w3.cell? ⟨w.heap.size, 3, none⟩ = some (.int .u8 x.r.top) := (hK3).cell 3
        have k4 : w3.cell? ⟨w.heap.size, 4, none⟩ = some (.int .u8 x.r.bot) := (hK3).cell 4
        have k5 : w3.cell? ⟨w.heap.size, 5, none⟩ = some (.int .u8 x.r.lo.tag) := (hK3).cell 5
        have k6 : w3.cell? ⟨w.heap.size, 6, none⟩ = some (.int .u32 x.r.lo.pos) := (hK3).cell 6
        have k7 : w3.cell? ⟨w.heap.size, 7, none⟩ = some (.int .u8 x.r.hi.tag) := (hK3).cell 7
        have k8 : w3.cell? ⟨w.heap.size, 8, none⟩ = some (.int .u32 x.r.hi.pos) := (hK3).cell 8
        have k9 : w3.cell? ⟨w.heap.size, 9, none⟩ = some (.int .u8 x.tag) := (hK3).cell 9
        have k10 : w3.cell? ⟨w.heap.size, 10, none⟩ = some (.int .u8 x.l) := (hK3).cell 10
        have hk3 := hK3.lt
        have HC2 := Lib.hid (HHALF.out true xb w3 Fp1 HX.out.2.1 hE3)
        have H3 := Lib.hid (And.intro hs03 (And.intro hE3 (Nat.le_trans hB2.out hs3.2.2.size)))
        clear hs2 hE2 hK2 hE3 hK3 hs03 hs3
        gi_wp2_with fail
        refine ⟨trivial, rfl, ?_⟩
        refine (callsIn_wide.2 HC2.out).mono ?_
        rintro e w4 ⟨rfl, hb4⟩
        have hs4 := sofar_next H3.out.1 (sofar_below HE.out.hI H3.out.2.2 H3.out.1.1 hb4)
        have hE4 := H3.out.2.1.later (same_grows Fp1 w3) (chg_of_below hb4)
        have hpb : (pre ++ (memR cs n f m xa (2 * y)).map (upM ps n)) ++ (memR cs n f m xb (2 * y + 1)).map (upM ps n) <+: XS := by
          have := HPRE.out.1
          rwa [L0.out, List.map_append, ← List.append_assoc] at this
        have HC3 := HIH.out xb (lv + 1) (2 * y + 1) Fp1 _ w4 HP.out.2.2.1 HX.out.2.2.2 HP.out.2.1 (Nat.le_trans H3.out.2.2 hb4.size) hE4 hs4.1 hpb
        rw [show ((2 * y + 1 : Nat) : Int) = 2 * (y : Int) + 1 by omega] at HC3
        have HC3' := Lib.hid HC3
        have H4 := Lib.hid hs4
        clear HC3 hs4 hE4 hb4 hpb k0 k1 k2 k3 k4 k5 k6 k7 k8 k9 k10
        gi_wp2_with fail
        refine ⟨trivial, rfl, ?_⟩
        refine HC3'.out.mono ?_
        rintro e w5 (⟨rfl, Fp2, hs5⟩ | ⟨rfl, Fp2, pre2, hp2, hix⟩)
        · have HF : Hid (EachPost I Ix Fp w XS (pre ++ (memR cs n f (m + 1) x y).map (upM ps n)) (.returned (.bool true)) w5) := Lib.hid (.inl ⟨rfl, Fp2, by
            rw [L0.out, List.map_append, ← List.append_assoc]
            exact sofar_next H4.out hs5⟩)
          clear hs5
          gi_wp2_with fail
          go_ret
          exact HF.out
        · have HF : Hid (EachPost I Ix Fp w XS (pre ++ (memR cs n f (m + 1) x y).map (upM ps n)) (.returned (.bool false)) w5) := Lib.hid (.inr ⟨rfl, Fp2, pre2, hp2, hix⟩)
          clear hp2 hix
          gi_wp2_with fail
          go_ret
          exact HF.out
      · have HF : Hid (EachPost I Ix Fp w XS (pre ++ (memR cs n f (m + 1) x y).map (upM ps n)) (.returned (.bool false)) w3) := Lib.hid (.inr ⟨rfl, Fp1, pre1, hp1, hix⟩)
        clear hp1 hix
        gi_wp2_with fail
        refine ⟨trivial, ?_⟩
        gi_wp2_with fail
        refine ⟨trivial, ?_⟩
        gi_wp2_with fail
        go_ret
        exact HF.out
end Go.Proofs.YtpjciaomhfeeeaaGreat
end

section
namespace Go.Proofs.YtpjciaomhfeeeaaGreat
open Go Go.RowKit Go.Shelf
set_option linter.unusedSimpArgs false
set_option linter.unusedVariables false

/-- the members that All hands on -/
def allM (cs : List (Option Rec)) (n : Nat) (ps : List Int) (f : Int) (e : Edg) : List Nat := if startC cs n ps.length f e ≠ 0 then [] else (memR cs n f n (atR cs e 0) 0).map (upM ps n)
def allR (F G : List Nat) (bs bo bf be : Nat) (k : Nat) : Prop := k ∈ F ∨ k ∈ G ∨ k = bs ∨ k = bo ∨ k = bf ∨ k = be
set_option maxRecDepth 200000 in
set_option maxHeartbeats 16000000 in
theorem all_runs (F G : List Nat) (gs go n room bs bo bf be : Nat) (cs : List (Option Rec)) (free : List Int) (ps ls : List Int) (f : Int) (e : Edg) (w : World) (h : StoreAt w F gs n room cs free) (hO : OrdAt w G go ps ls) (hfit : Fits ps ls) (hf : 0 ≤ f ∧ f ≤ 255) (he : e.Wf)
    (hcs : ∀ id r, recAt cs id = some r → r.Wf ∧ r.top ≤ r.bot ∧ r.bot < n)
    (k0 : Blk w bs 28 #[.pointer (some ⟨gs, 0, none⟩)]) (k1 : Blk w bo 33 #[.pointer (some ⟨go, 0, none⟩)]) (k2 : Blk w bf 32 #[.int .u8 f]) (k3 : Blk w be 26 #[.int .u8 e.tag, .int .u32 e.pos]) :
    SeqRuns Tryz.prog 40 #[.pointer (some ⟨bs, 0, none⟩), .pointer (some ⟨bo, 0, none⟩), .pointer (some ⟨bf, 0, none⟩), .pointer (some ⟨be, 0, none⟩)] (fun x : Nat => #[Value.int .i64 (x : Int)]) (allR F G bs bo bf be) (allM cs n ps f e) w := by
  intro l I Ix Fp0 W hW hR hI hIx bI bIx hY h0
  have hS := h.on hW
  have hOW := hO.on hW
  have c0 : W.cell? ⟨bs, 0, none⟩ = some (.pointer (some ⟨gs, 0, none⟩)) := (Blk.onB k0 hW).cell 0
  have c1 : W.cell? ⟨bo, 0, none⟩ = some (.pointer (some ⟨go, 0, none⟩)) := (Blk.onB k1 hW).cell 0
  have c2 : W.cell? ⟨bf, 0, none⟩ = some (.int .u8 f) := (Blk.onB k2 hW).cell 0
  have c3 : W.cell? ⟨be, 0, none⟩ = some (.int .u8 e.tag) := (Blk.onB k3 hW).cell 0
  have c4 : W.cell? ⟨be, 1, none⟩ = some (.int .u32 e.pos) := (Blk.onB k3 hW).cell 1
  have HST := Lib.hid (start_any F G gs go n room cs free ps ls f e W hS hOW hf he hfit.perm.1)
  have HI := Lib.hid (And.intro hI (And.intro bI h0))
  have HY := Lib.hid hY
  have HR := Lib.hid hR
  have HS := Lib.hid (And.intro hS (And.intro hOW (And.intro hfit hcs)))
  obtain ⟨xs, hxs⟩ : ∃ xs, xs = allM cs n ps f e := ⟨_, rfl⟩
  rw [← hxs] at HY ⊢
  have HXS := Lib.hid hxs
  clear h hO hfit hcs k0 k1 k2 k3 hW hS hOW hI bI hIx bIx hY h0 hR hxs
  refine callsIn_of_wp Tryz.func40 rfl trivial ?_ rfl
  simp only [Tryz.ntmps40, List.size_toArray, List.length_cons, List.length_nil, Nat.reduceAdd, Nat.reduceSub, Array.replicate_succ, Array.replicate_zero, List.push_toArray, List.append_toArray, List.nil_append, List.cons_append]
  gi_wp2_with fail
  refine ⟨trivial, rfl, ?_⟩
  refine (callsIn_wide.2 HST.out).mono ?_
  rintro x w1 ⟨ho, hb1⟩
  have HB1 := Lib.hid hb1
  clear c0 c1 c2 c3 c4 hb1
  rcases ho with ⟨hne, rfl⟩ | ⟨heq, cb, rfl, hca, hcb⟩
  · have HX : Hid (xs = []) := Lib.hid (by rw [HXS.out]; unfold allM; rw [if_pos hne])
    obtain ⟨code, hcode⟩ : ∃ code, code = startC cs n ps.length f e := ⟨_, rfl⟩
    rw [← hcode] at hne ⊢
    have t1 : ((code : Int) == 0) = false := by rw [beq_eq_false_iff_ne]; omega
    have t2 : (code == 0) = false := by rw [beq_eq_false_iff_ne]; omega
    clear hcode hne
    unfold Rst.cells Rst.nil Rec.nil Edg.nil
    gi_wp2_with fail
    go_end0
    exact ⟨⟨_, rfl⟩, Fp0, .inl (by rw [HX.out]; exact chg_local HI.out.1 HI.out.2.2 (HB1.out.trans ((Below.refl w1.heap.size w1).alloc (Nat.le_refl _) _ |>.mono HB1.out.size)))⟩
  · have HX : Hid (xs = (memR cs n f n (atR cs e 0) 0).map (upM ps n)) := Lib.hid (by rw [HXS.out]; unfold allM; rw [if_neg (by simpa using heq)])
    obtain ⟨y, hy⟩ : ∃ y, y = atR cs e 0 := ⟨_, rfl⟩
    have hpl : ps.length = n := by
      unfold startC at heq
      split at heq
      · cases heq
      · rename_i h; simpa using (Eq.symm (by simpa using h))
    have hoky : RstOk n (0 : Nat) y := by rw [hy]; exact atR_ok (by omega) he (by omega) HS.out.2.2.2
    rw [← hy] at HX ⊢
    clear hy heq
    obtain ⟨hS, hOW, hfit, hcs⟩ := HS.out
    have hS1 := hS.on HB1.out
    have hO1 := hOW.on HB1.out
    have E : EachIn n l W.heap.size cs ps ls I Ix xs := ⟨hfit, hpl, hcs, HI.out.1, HI.out.2.1, HY.out⟩
    have hbd : ∀ k ∈ Fp0, k < W.heap.size := HI.out.2.1 Fp0 [] W HI.out.2.2
    have hEA : EachAt w1 Fp0 F G gs go n room cb cs free ps ls f := ⟨hS1, hO1, hca, fun k hk hm => HR.out k hm (.inl hk), fun k hk hm => HR.out k hm (.inr (.inl hk)), fun hm => by have := hbd _ hm; omega⟩
    have HEA := Lib.hid (And.intro hEA (And.intro hoky (And.intro E hpl)))
    clear hS hOW hfit hcs hS1 hO1 E hbd hEA hca hoky
    unfold Rst.cells
    gi_wp2_with fail
    have hba : Below w1.heap.size w1 (w1.alloc (.cells #[.bool y.inn, .bool y.node, .int .u8 y.r.form, .int .u8 y.r.top, .int .u8 y.r.bot, .int .u8 y.r.lo.tag, .int .u32 y.r.lo.pos, .int .u8 y.r.hi.tag, .int .u32 y.r.hi.pos, .int .u8 y.tag, .int .u8 y.l] 72)) := (Below.refl _ _).alloc (Nat.le_refl _) _
    refine ⟨trivial, rfl, ?_⟩
    refine (each_any F G gs go n room cb l W.heap.size cs free ps ls f I Ix xs HEA.out.2.2.1 n y 0 0 Fp0 [] _ (by omega) HEA.out.2.1 (by decide) (Nat.le_trans HB1.out.size hba.size) (HEA.out.1.later (same_grows _ _) (chg_of_below hba)) (chg_local HI.out.1 HI.out.2.2 (HB1.out.trans (hba.mono HB1.out.size))) (by rw [List.nil_append, ← HX.out]; exact List.prefix_refl _)).mono ?_
    rintro e' w5 (⟨rfl, Fp1, hs5⟩ | ⟨rfl, Fp1, pre1, hp1, hix⟩)
    · have HF : Hid (I Fp1 xs w5) := Lib.hid (by rw [HX.out]; exact hs5.1)
      clear hs5 hba
      gi_wp2_with fail
      go_end0
      exact ⟨⟨_, rfl⟩, Fp1, .inl HF.out⟩
    · have HF : Hid (pre1 <+: xs ∧ Ix Fp1 pre1 w5) := Lib.hid ⟨hp1, hix⟩
      clear hp1 hix hba
      gi_wp2_with fail
      go_end0
      exact ⟨⟨_, rfl⟩, Fp1, .inr ⟨pre1, HF.out.1, HF.out.2⟩⟩
end Go.Proofs.YtpjciaomhfeeeaaGreat
end
