/- Contract: member.best: the first of the members that cost least; what it keeps. -/
import Derived.Test.YtpjciaomhfeeeaaGreatMal
import Derived.Test.YtpjciaomhfeeeaaGreatRnkN
import Derived.Test.YtpjciaomhfeeeaaGreatMan
import Derived.Test.YtpjciaomhfeeeaaGreatMn
namespace Go.Proofs.YtpjciaomhfeeeaaGreat
open Go Go.RowKit Go.Maps
set_option linter.unusedSimpArgs false
set_option linter.unusedVariables false

abbrev fndV (b : Fnd) : Value := .agg #[.bool b.inn, .int .i64 b.cost, .int .i64 (b.y : Int)]
/-- how a kept element reads -/
def readF (v : Value) : Option (DataW Unit × List MemPlace) :=
  match v with
  | .agg cs => (match cs.toList with
    | [.bool b, .int .i64 c, .int .i64 y] => some (.agg [.lit (.bool b), .lit (.int .i64 c), .lit (.int .i64 y)], [])
    | _ => none)
  | _ => none
theorem readF_inv {v : Value} {d : DataW Unit} {ps : List MemPlace} (h : readF v = some (d, ps)) : ∃ b c y, v = .agg #[.bool b, .int .i64 c, .int .i64 y] ∧ d = .agg [.lit (.bool b), .lit (.int .i64 c), .lit (.int .i64 y)] := by
  unfold readF at h
  split at h
  · rename_i cs
    split at h
    · rename_i b c y hl
      injection h with h
      injection h with h1 _
      refine ⟨b, c, y, ?_, h1.symm⟩
      congr 1
      apply Array.ext'
      simpa using hl
    · cases h
  · cases h
theorem readF_mk (b : Bool) (c y : Int) : readF (.agg #[.bool b, .int .i64 c, .int .i64 y]) = some (.agg [.lit (.bool b), .lit (.int .i64 c), .lit (.int .i64 y)], []) := rfl
theorem elem_fnd : ElemR readF 78 (.agg #[.bool false, .int .i64 0, .int .i64 0]) (.agg [.lit (.bool false), .lit (.int .i64 0), .lit (.int .i64 0)]) where
  inj := fun v v' d ps ps' h h' => by
    obtain ⟨b, c, y, rfl, e1⟩ := readF_inv h
    obtain ⟨b', c', y', rfl, e2⟩ := readF_inv h'
    rw [e1] at e2
    simp at e2
    obtain ⟨rfl, rfl, rfl⟩ := e2
    rfl
  zero := fun w => by kernel_rfl
  zd := rfl
def goodB (cs : List (Option Rec)) (n : Nat) (f : Int) (ct : Nat → Int) (x : Rst) (v : Value) : Prop := x.inn = true → v = fndV (bestR cs n f ct ((n : Int) - x.l).toNat x.l.toNat x)
abbrev TallyB (cs : List (Option Rec)) (n : Nat) (f : Int) (ct : Nat → Int) := Tally readF (.agg [.lit (.bool false), .lit (.int .i64 0), .lit (.int .i64 0)]) (goodB cs n f ct)
def BstPost (cs : List (Option Rec)) (n : Nat) (f : Int) (ct : Nat → Int) (b : Fnd) (w : World) (q N : Nat) (e : Ending) (w' : World) : Prop := e = .returned (fndV b) ∧ TallyB cs n f ct w' q N ∧ Chg [q] w w'
theorem bestR_out {cs : List (Option Rec)} {n f : Int} {ct : Nat → Int} {m l : Nat} {x : Rst} (h : x.inn = false) : bestR cs n f ct m l x = ⟨false, 0, 0⟩ := by
  cases m with
  | zero => rw [bestR, h]; rfl
  | succ m => rw [bestR, h]; rfl
/-- what is least costs no more than the levels allow, and is a number of so many bits -/
theorem bestR_bound {cs : List (Option Rec)} {n f : Int} {ct : Nat → Int} (M : Int) (hM : 0 ≤ M) (hct : ∀ l, -M ≤ ct l ∧ ct l ≤ M) : ∀ (m l : Nat) (x : Rst), -(m * M) ≤ (bestR cs n f ct m l x).cost ∧ (bestR cs n f ct m l x).cost ≤ m * M ∧ (bestR cs n f ct m l x).y < 2 ^ m
  | 0, l, x => by
    rw [bestR]
    split <;> simp
  | m + 1, l, x => by
    rw [bestR]
    have e1 : ((m + 1 : Nat) : Int) * M = (m : Int) * M + M := by rw [Int.natCast_add, Int.add_mul]; simp
    have h0 : 0 ≤ (m : Int) * M := Int.mul_nonneg (by omega) hM
    have hp : 2 ^ (m + 1) = 2 ^ m + 2 ^ m := by rw [Nat.pow_succ]; omega
    have hp1 := Nat.two_pow_pos m
    obtain ⟨a1, a2, a3⟩ := bestR_bound (cs := cs) (n := n) (f := f) M hM hct m (l + 1) (halfR cs n f x false)
    obtain ⟨b1, b2, b3⟩ := bestR_bound (cs := cs) (n := n) (f := f) M hM hct m (l + 1) (halfR cs n f x true)
    have hl := hct l
    rw [e1]
    split
    · unfold joinF
      split
      · simp only
        rw [or_add b3]
        exact ⟨by omega, by omega, by omega⟩
      · exact ⟨by omega, by omega, by omega⟩
    · simp only
      exact ⟨by omega, by omega, by omega⟩

section
variable {R : Value → Option (DataW Unit × List MemPlace)} {zd : DataW Unit} {good : Rst → Value → Prop} {q N : Nat} {W U : World} {g1 g2 : Nat} {T1 T2 : TypeId} {c1 : Array Value} {a0 a1 a2 : Value}
theorem stepB1 (v : Value) (hC : Chg [q] W U) (hT : Tally R zd good U q N) (hP : Blk U g1 T1 c1) (hQ : Blk U g2 T2 #[a0, a1, a2]) (h12 : g1 ≠ g2) (hq : q ≠ g2) (hW : W.heap.size ≤ g2) :
    Chg [q] W (U.setCell ⟨g2, 1, none⟩ v) ∧ Tally R zd good (U.setCell ⟨g2, 1, none⟩ v) q N ∧ Blk (U.setCell ⟨g2, 1, none⟩ v) g1 T1 c1 ∧ Blk (U.setCell ⟨g2, 1, none⟩ v) g2 T2 #[a0, v, a2] :=
  ⟨hC.setCell (p := ⟨g2, 1, none⟩) (.inr hW) v, hT.keep (Below.heap_setCell _ ⟨g2, 1, none⟩ _ q hq), hP.far (p := ⟨g2, 1, none⟩) h12 v, by have := hQ.set_ 1 v; simpa using this⟩
theorem stepB2 (v : Value) (hC : Chg [q] W U) (hT : Tally R zd good U q N) (hP : Blk U g1 T1 c1) (hQ : Blk U g2 T2 #[a0, a1, a2]) (h12 : g1 ≠ g2) (hq : q ≠ g2) (hW : W.heap.size ≤ g2) :
    Chg [q] W (U.setCell ⟨g2, 2, none⟩ v) ∧ Tally R zd good (U.setCell ⟨g2, 2, none⟩ v) q N ∧ Blk (U.setCell ⟨g2, 2, none⟩ v) g1 T1 c1 ∧ Blk (U.setCell ⟨g2, 2, none⟩ v) g2 T2 #[a0, a1, v] :=
  ⟨hC.setCell (p := ⟨g2, 2, none⟩) (.inr hW) v, hT.keep (Below.heap_setCell _ ⟨g2, 2, none⟩ _ q hq), hP.far (p := ⟨g2, 2, none⟩) h12 v, by have := hQ.set_ 2 v; simpa using this⟩
end
theorem Blk.set3a {w : World} {g : Nat} {T : TypeId} {a0 a1 a2 : Value} (h : Blk w g T #[a0, a1, a2]) (v0 v1 v2 : Value) : Blk (((w.setCell ⟨g, 0, none⟩ v0).setCell ⟨g, 1, none⟩ v1).setCell ⟨g, 2, none⟩ v2) g T #[v0, v1, v2] := by
  have := ((h.set_ 0 v0).set_ 1 v1).set_ 2 v2
  simpa using this
theorem finR {R : Value → Option (DataW Unit × List MemPlace)} {zd : DataW Unit} {good : Rst → Value → Prop} {q N : Nat} {W U : World} {g : Nat} {T : TypeId} {a0 a1 a2 : Value} (v0 v1 v2 : Value) (hR : Blk U g T #[a0, a1, a2]) (hC : Chg [q] W U) (hT : Tally R zd good U q N) (hW : g ∈ [q] ∨ W.heap.size ≤ g) (hq : q ≠ g) :
    Blk (((U.setCell ⟨g, 0, none⟩ v0).setCell ⟨g, 1, none⟩ v1).setCell ⟨g, 2, none⟩ v2) g T #[v0, v1, v2] ∧ Tally R zd good (((U.setCell ⟨g, 0, none⟩ v0).setCell ⟨g, 1, none⟩ v1).setCell ⟨g, 2, none⟩ v2) q N ∧ Chg [q] W (((U.setCell ⟨g, 0, none⟩ v0).setCell ⟨g, 1, none⟩ v1).setCell ⟨g, 2, none⟩ v2) :=
  ⟨hR.set3a v0 v1 v2, hT.keep (by rw [Below.heap_setCell _ ⟨g, 2, none⟩ _ q hq, Below.heap_setCell _ ⟨g, 1, none⟩ _ q hq, Below.heap_setCell _ ⟨g, 0, none⟩ _ q hq]), ((hC.setCell (p := ⟨g, 0, none⟩) hW v0).setCell (p := ⟨g, 1, none⟩) hW v1).setCell (p := ⟨g, 2, none⟩) hW v2⟩
theorem Blk.set3 {w : World} {g : Nat} {T : TypeId} {a0 a1 a2 : Value} (h : Blk w g T #[a0, a1, a2]) (v0 v1 v2 : Value) : Blk (((w.setCell ⟨g, 0, none⟩ v0).setCell ⟨g, 1, none⟩ v1).setCell ⟨g, 2, none⟩ v2) g T #[v0, v1, v2] := by
  have := ((h.set_ 0 v0).set_ 1 v1).set_ 2 v2
  simpa using this
theorem fin3 {w V : World} {B g : Nat} {T : TypeId} {a0 a1 a2 v0 v1 v2 : Value} (h : Blk V g T #[a0, a1, a2]) (hg : B ≤ g) (hb : Below B w V) : Blk (((V.setCell ⟨g, 0, none⟩ v0).setCell ⟨g, 1, none⟩ v1).setCell ⟨g, 2, none⟩ v2) g T #[v0, v1, v2] ∧ Below B w (((V.setCell ⟨g, 0, none⟩ v0).setCell ⟨g, 1, none⟩ v1).setCell ⟨g, 2, none⟩ v2) :=
  ⟨h.set3 _ _ _, ((hb.setCell (p := ⟨g, 0, none⟩) hg v0).setCell (p := ⟨g, 1, none⟩) hg v1).setCell (p := ⟨g, 2, none⟩) hg v2⟩
set_option maxRecDepth 200000 in
set_option maxHeartbeats 16000000 in
theorem best_any (F G : List Nat) (gs go n room cb : Nat) (cs : List (Option Rec)) (free : List Int) (ps ls : List Int) (f : Int) (q : Nat) (A : Option Addr) (c : Nat) (ks : List Int) (ct : Nat → Int) (hct : ∀ l, l < n → ct l = ks[(ps[l]?.getD 0).toNat]?.getD 0) (hcb : ∀ l, -1099511627776 ≤ ct l ∧ ct l ≤ 1099511627776) (hfit : Fits ps ls) (hpl : ps.length = n) (hkl0 : ks.length = n) (hqG : q ∉ G) :
    ∀ (m : Nat) (x : Rst) (lv N : Nat) (w : World), lv + m = n → RstOk n lv x → TlAt w F gs go n room cb cs free f q → OrdAt w G go ps ls → Ints w q A ks → TallyB cs n f ct w q N → N + 2 ^ m ≤ 1000000 →
    Calls Tryz.prog 24 #[.pointer (some ⟨cb, 0, none⟩), .agg #[.bool x.inn, .bool x.node, .int .u8 x.r.form, .int .u8 x.r.top, .int .u8 x.r.bot, .int .u8 x.r.lo.tag, .int .u32 x.r.lo.pos, .int .u8 x.r.hi.tag, .int .u32 x.r.hi.pos, .int .u8 x.tag, .int .u8 x.l], .slice A n c, .map (some q)] w (BstPost cs n f ct (bestR cs n f ct m lv x) w q (N + (2 ^ m - 1))) := by
  intro m
  induction m with
  | zero =>
    intro x lv N w hm hx hC hO hI hT hN
    have hn16 := hC.st.ok.n16
    cases hin : x.inn with
    | false =>
      have HFIN : Hid (∀ W', Below w.heap.size w W' → BstPost cs n f ct (bestR cs n f ct 0 lv x) w q (N + (2 ^ 0 - 1)) (.returned (.agg #[.bool false, .int .i64 0, .int .i64 0])) W') := Lib.hid (fun W' hb => ⟨by rw [bestR_out hin]; rfl, hT.on hb, chg_of_below hb⟩)
      clear hC hO hI hx hT
      go_enter Tryz.func24, Tryz.ntmps24
      go_wp2_with fail
      refine bodyPost_ret (v := .agg #[.bool false, .int .i64 0, .int .i64 0]) (by simp [results, Tryz.results24, go_sem]) rfl (HFIN.out _ (((Below.refl _ _).alloc (Nat.le_refl _) _).alloc (by simp) _))
    | true =>
      have hl := hx.l hin
      have hl0 : x.l = (n : Int) := by omega
      obtain ⟨W, hW⟩ : ∃ W, W = (w.alloc (.cells #[.bool x.inn, .bool x.node, .int .u8 x.r.form, .int .u8 x.r.top, .int .u8 x.r.bot, .int .u8 x.r.lo.tag, .int .u32 x.r.lo.pos, .int .u8 x.r.hi.tag, .int .u32 x.r.hi.pos, .int .u8 x.tag, .int .u8 x.l] 72)).alloc (.cells #[.bool false, .int .i64 0, .int .i64 0] 78) := ⟨_, rfl⟩
      have hbW : Below w.heap.size w W := by rw [hW]; exact ((Below.refl _ _).alloc (Nat.le_refl _) _).alloc (by simp) _
      have hK : Blk W w.heap.size 72 #[.bool x.inn, .bool x.node, .int .u8 x.r.form, .int .u8 x.r.top, .int .u8 x.r.bot, .int .u8 x.r.lo.tag, .int .u32 x.r.lo.pos, .int .u8 x.r.hi.tag, .int .u32 x.r.hi.pos, .int .u8 x.tag, .int .u8 x.l] := by rw [hW]; exact (Blk.new _ _ _).alloc _
      have hR : Blk W (w.heap.size + 1) 78 #[.bool false, .int .i64 0, .int .i64 0] := by rw [hW]; exact Blk.new_at (by simp) _ _
      have HFIN : Hid (∀ W', Below w.heap.size w W' → BstPost cs n f ct (bestR cs n f ct 0 lv x) w q (N + (2 ^ 0 - 1)) (.returned (.agg #[.bool true, .int .i64 0, .int .i64 0])) W') := Lib.hid (fun W' hb => ⟨by rw [bestR, if_pos hin]; rfl, hT.on hb, chg_of_below hb⟩)
      have k0 : W.cell? ⟨w.heap.size, 0, none⟩ = some (.bool x.inn) := hK.cell 0
      have k10 : W.cell? ⟨w.heap.size, 10, none⟩ = some (.int .u8 x.l) := hK.cell 10
      rw [hl0] at k10
      rw [hin] at k0 hW
      have c3 : W.cell? ⟨cb, 3, none⟩ = some (.int .i64 (n : Nat)) := (hC.ca.onB hbW).cell 3
      have hcv : IntKind.i64.wrap (n : Int) = (n : Int) := IntWalk.i64_in _ ⟨by omega, by omega⟩
      have HB := Lib.hid hbW
      have HR := Lib.hid hR
      have HWW := Lib.hid hW
      clear hC hO hI hx hT hl hl0 hW hK hR hbW
      go_enter Tryz.func24, Tryz.ntmps24
      go_wp2_with fail
      rw [← HWW.out]
      go_quiet (fail)
      refine world_gen (fun V => Below W.heap.size W V) (below_drewN (Below.refl _ _) _) ?_
      intro V hbV
      have hRV := HR.out.onB hbV
      have HRV := Lib.hid hRV
      have HBV := Lib.hid (HB.out.trans (hbV.mono HB.out.size))
      have r0 : V.cell? ⟨w.heap.size + 1, 0, none⟩ = some (.bool false) := hRV.cell 0
      have r1 : V.cell? ⟨w.heap.size + 1, 1, none⟩ = some (.int .i64 0) := hRV.cell 1
      have r2 : V.cell? ⟨w.heap.size + 1, 2, none⟩ = some (.int .i64 0) := hRV.cell 2
      have s0 := hRV.frozen 0
      have s1 := hRV.frozen 1
      have s2 := hRV.frozen 2
      clear hbV hRV k0 k10 c3 hcv
      go_wp2_with fail
      refine bodyPost_gen (fun U => Blk U (w.heap.size + 1) 78 #[.bool true, .int .i64 0, .int .i64 0] ∧ Below w.heap.size w U) (fin3 HRV.out (Nat.le_succ _) HBV.out) ?_
      rintro U ⟨hU, hbU⟩
      have u0 : U.cell? ⟨w.heap.size + 1, 0, none⟩ = some (.bool true) := hU.cell 0
      have u1 : U.cell? ⟨w.heap.size + 1, 1, none⟩ = some (.int .i64 0) := hU.cell 1
      have u2 : U.cell? ⟨w.heap.size + 1, 2, none⟩ = some (.int .i64 0) := hU.cell 2
      have HBU := Lib.hid hbU
      clear r0 r1 r2 s0 s1 s2 hU hbU
      refine bodyPost_ret (v := .agg #[.bool true, .int .i64 0, .int .i64 0]) ?_ rfl (HFIN.out _ HBU.out)
      simp [results, Tryz.results24, go_sem, u0, u1, u2]
  | succ m ih =>
    intro x lv N w hm hx hC hO hI hT hN
    have hn16 := hC.st.ok.n16
    have hp16 := pow_le16 (m := m + 1) (by omega)
    have hp1 := Nat.two_pow_pos m
    have hps : 2 ^ (m + 1) = 2 * 2 ^ m := by rw [Nat.pow_succ]; omega
    cases hin : x.inn with
    | false =>
      have HFIN : Hid (∀ W', Below w.heap.size w W' → BstPost cs n f ct (bestR cs n f ct (m + 1) lv x) w q (N + (2 ^ (m + 1) - 1)) (.returned (.agg #[.bool false, .int .i64 0, .int .i64 0])) W') := Lib.hid (fun W' hb => ⟨by rw [bestR_out hin]; rfl, (hT.on hb).mono (by omega), chg_of_below hb⟩)
      clear hC hO hI hx hT ih hp16 hp1 hps
      go_enter Tryz.func24, Tryz.ntmps24
      go_wp2_with fail
      refine bodyPost_ret (v := .agg #[.bool false, .int .i64 0, .int .i64 0]) (by simp [results, Tryz.results24, go_sem]) rfl (HFIN.out _ (((Below.refl _ _).alloc (Nat.le_refl _) _).alloc (by simp) _))
    | true =>
      have hl := hx.l hin
      have hll : x.l < (n : Int) := by omega
      have hl0 := hx.ln
      have hlv : ((n : Int) - x.l).toNat = m + 1 := by omega
      have hlt : x.l.toNat = lv := by omega
      obtain ⟨xa, hxa⟩ : ∃ xa, xa = halfR cs n f x false := ⟨_, rfl⟩
      obtain ⟨xb, hxb⟩ : ∃ xb, xb = halfR cs n f x true := ⟨_, rfl⟩
      have oka : RstOk n (lv + 1 : Nat) xa := by rw [hxa]; exact halfR_ok (by omega) (by omega) hx hin (by omega) hC.hcs
      have okb : RstOk n (lv + 1 : Nat) xb := by rw [hxb]; exact halfR_ok (by omega) (by omega) hx hin (by omega) hC.hcs
      have hbest : bestR cs n f ct (m + 1) lv x = joinF m (ct lv) (bestR cs n f ct m (lv + 1) xa) (bestR cs n f ct m (lv + 1) xb) := by rw [bestR, if_pos hin, hxa, hxb]
      have hbA := bestR_bound (cs := cs) (n := n) (f := f) (ct := ct) 1099511627776 (by omega) hcb m (lv + 1) xa
      have hbB := bestR_bound (cs := cs) (n := n) (f := f) (ct := ct) 1099511627776 (by omega) hcb m (lv + 1) xb
      have hhalf : ∀ (one : Bool) (y' : Rst) W', y' = halfR cs n f x one → TlAt W' F gs go n room cb cs free f q → Calls Tryz.prog 53 #[.pointer (some ⟨cb, 0, none⟩), .agg #[.bool true, .bool x.node, .int .u8 x.r.form, .int .u8 x.r.top, .int .u8 x.r.bot, .int .u8 x.r.lo.tag, .int .u32 x.r.lo.pos, .int .u8 x.r.hi.tag, .int .u32 x.r.hi.pos, .int .u8 x.tag, .int .u8 x.l], .bool one] W' fun e w' => e = .returned (.agg #[.bool y'.inn, .bool y'.node, .int .u8 y'.r.form, .int .u8 y'.r.top, .int .u8 y'.r.bot, .int .u8 y'.r.lo.tag, .int .u32 y'.r.lo.pos, .int .u8 y'.r.hi.tag, .int .u32 y'.r.hi.pos, .int .u8 y'.tag, .int .u8 y'.l]) ∧ Below W'.heap.size W' w' := fun one y' W' hy' h' => by
        have := half_any F gs go n room cb cs free f x lv one W' h'.st h'.ca hx hin (by omega) hC.hcs
        unfold Rst.cells at this
        rw [hin] at this
        rw [hy']
        exact this
      obtain ⟨W, hW⟩ : ∃ W, W = (w.alloc (.cells #[.bool x.inn, .bool x.node, .int .u8 x.r.form, .int .u8 x.r.top, .int .u8 x.r.bot, .int .u8 x.r.lo.tag, .int .u32 x.r.lo.pos, .int .u8 x.r.hi.tag, .int .u32 x.r.hi.pos, .int .u8 x.tag, .int .u8 x.l] 72)).alloc (.cells #[.bool false, .int .i64 0, .int .i64 0] 78) := ⟨_, rfl⟩
      have hbW : Below w.heap.size w W := by rw [hW]; exact ((Below.refl _ _).alloc (Nat.le_refl _) _).alloc (by simp) _
      have hK : Blk W w.heap.size 72 #[.bool x.inn, .bool x.node, .int .u8 x.r.form, .int .u8 x.r.top, .int .u8 x.r.bot, .int .u8 x.r.lo.tag, .int .u32 x.r.lo.pos, .int .u8 x.r.hi.tag, .int .u32 x.r.hi.pos, .int .u8 x.tag, .int .u8 x.l] := by rw [hW]; exact (Blk.new _ _ _).alloc _
      have hR : Blk W (w.heap.size + 1) 78 #[.bool false, .int .i64 0, .int .i64 0] := by rw [hW]; exact Blk.new_at (by simp) _ _
      rw [hin] at hK hW
      have hqw : q < w.heap.size := hT.lt
      have hCW := hC.chg (chg_of_below hbW)
      have hTW := hT.on hbW
      have hOW := hO.on hbW
      have hIW : Ints W q A ks := hI.keep (fun p hp => hbW.cell (by omega))
      have HWF : Hid (RstWf x) := Lib.hid (hx.wf' (by omega))
      have HLK := Lib.hid (fun V (hV : Below W.heap.size W V) => (hTW.on hV).look elem_fnd Tryz.underlying80 (hx.wf' (by omega)))
      have HTW := Lib.hid hTW
      have HBW := Lib.hid hbW
      have HKK := Lib.hid hK
      have HRR := Lib.hid hR
      have hkl := hK.lt
      have hrl := hR.lt
      have HCC := Lib.hid (fun W' (h : Chg [q] W W') => hCW.chg h)
      have HOC : Hid (∀ W', Chg [q] W W' → OrdAt W' G go ps ls) := Lib.hid (fun W' h => hOW.chg h (fun k hk hm => by simp at hm; subst hm; exact hqG hk))
      have HIC : Hid (∀ W', Chg [q] W W' → Ints W' q A ks) := Lib.hid (fun W' h => hIW.keep (fun p hp => h.cell (by omega) (by simp; omega)))
      have FACTS : Hid (∀ W', Chg [q] W W' → W'.cell? ⟨w.heap.size, 0, none⟩ = some (.bool true) ∧ W'.cell? ⟨w.heap.size, 1, none⟩ = some (.bool x.node) ∧ W'.cell? ⟨w.heap.size, 2, none⟩ = some (.int .u8 x.r.form) ∧ W'.cell? ⟨w.heap.size, 3, none⟩ = some (.int .u8 x.r.top) ∧ W'.cell? ⟨w.heap.size, 4, none⟩ = some (.int .u8 x.r.bot) ∧ W'.cell? ⟨w.heap.size, 5, none⟩ = some (.int .u8 x.r.lo.tag) ∧ W'.cell? ⟨w.heap.size, 6, none⟩ = some (.int .u32 x.r.lo.pos) ∧ W'.cell? ⟨w.heap.size, 7, none⟩ = some (.int .u8 x.r.hi.tag) ∧ W'.cell? ⟨w.heap.size, 8, none⟩ = some (.int .u32 x.r.hi.pos) ∧ W'.cell? ⟨w.heap.size, 9, none⟩ = some (.int .u8 x.tag) ∧ W'.cell? ⟨w.heap.size, 10, none⟩ = some (.int .u8 x.l)) := Lib.hid (fun W' hW' => cells11 (hK.chg hW' (by simp; omega)))
      have FR : Hid (∀ W', Chg [q] W W' → Blk W' (w.heap.size + 1) 78 #[.bool false, .int .i64 0, .int .i64 0]) := Lib.hid (fun W' hW' => hR.chg hW' (by simp; omega))
      have HHA := Lib.hid (fun W' (h : Chg [q] W W') => hhalf false xa W' hxa (hCW.chg h))
      have HHB := Lib.hid (fun W' (h : Chg [q] W W') => hhalf true xb W' hxb (hCW.chg h))
      have HCA := Lib.hid (fun W' (h : Chg [q] W W') (hT' : TallyB cs n f ct W' q N) => ih xa (lv + 1) N W' (by omega) oka (hCW.chg h) (HOC.out W' h) (HIC.out W' h) hT' (by omega))
      have HCB := Lib.hid (fun W' (h : Chg [q] W W') (hT' : TallyB cs n f ct W' q (N + (2 ^ m - 1))) => ih xb (lv + 1) (N + (2 ^ m - 1)) W' (by omega) okb (hCW.chg h) (HOC.out W' h) (HIC.out W' h) hT' (by omega))
      have c3 : W.cell? ⟨cb, 3, none⟩ = some (.int .i64 (n : Nat)) := hCW.ca.cell 3
      have hcl := Blk.lt hCW.ca
      obtain ⟨k0, k1, k2, k3, k4, k5, k6, k7, k8, k9, k10⟩ := FACTS.out W (Chg.refl _ _)
      have hcv : IntKind.i64.wrap x.l = x.l := IntWalk.i64_in _ ⟨by omega, by omega⟩
      have hne : (x.l == (n : Int)) = false := by rw [beq_eq_false_iff_ne]; omega
      have HWW := Lib.hid hW
      have HLV := Lib.hid (And.intro hlv hlt)
      have HBE := Lib.hid hbest
      have HIN := Lib.hid hin
      have HL := Lib.hid hl
      generalize bestR cs n f ct m (lv + 1) xa = pa at *
      generalize bestR cs n f ct m (lv + 1) xb = pb at *
      have HBA := Lib.hid hbA
      have HBB := Lib.hid hbB
      have hBA' : Hid (-(m * 1099511627776 : Int) ≤ pb.cost ∧ pb.cost ≤ m * 1099511627776) := Lib.hid ⟨hbB.1, hbB.2.1⟩
      have hkl' := hkl0
      have hqw1 : ¬ w.heap.size = q := by omega
      have hqw2 : ¬ w.heap.size + 1 = q := by omega
      clear hC hO hI hK hR hbW hx hT ih hp16 hp1 hhalf hW hxa hxb oka okb hCW hTW hOW hIW hlv hlt hbest hin hl hbA hbB
      go_enter Tryz.func24, Tryz.ntmps24
      go_wp2_with fail
      rw [← HWW.out]
      go_quiet (fail)
      refine world_gen (fun V => Below W.heap.size W V) (below_drewN (Below.refl _ _) _) ?_
      intro V hbV
      have cV : Chg [q] W V := chg_of_below hbV
      clear k0 k1 k2 k3 k4 k5 k6 k7 k8 k9 k10
      obtain ⟨k0, k1, k2, k3, k4, k5, k6, k7, k8, k9, k10⟩ := FACTS.out V cV
      have HBV := Lib.hid hbV
      have CV := Lib.hid cV
      rcases HLK.out V hbV with ⟨v, hrun, hg⟩ | hrun
      · have hv := hg HIN.out
        rw [HLV.out.1, HLV.out.2] at hv
        have HFND : Hid (TallyB cs n f ct V q (N + (2 ^ (m + 1) - 1)) ∧ Chg [q] w V) := Lib.hid ⟨(HTW.out.on hbV).mono (by omega), chg_of_below (HBW.out.trans (hbV.mono HBW.out.size))⟩
        have hRV := HRR.out.onB hbV
        have r0 : V.cell? ⟨w.heap.size + 1, 0, none⟩ = some (.bool false) := hRV.cell 0
        have r1 : V.cell? ⟨w.heap.size + 1, 1, none⟩ = some (.int .i64 0) := hRV.cell 1
        have r2 : V.cell? ⟨w.heap.size + 1, 2, none⟩ = some (.int .i64 0) := hRV.cell 2
        have s0 := hRV.frozen 0
        have s1 := hRV.frozen 1
        have s2 := hRV.frozen 2
        have hrV : w.heap.size + 1 < V.heap.size := by have := hbV.size; omega
        have hrn : ¬ w.heap.size + 1 = V.heap.size := by omega
        clear HBE
        generalize bestR cs n f ct (m + 1) lv x = bb at *
        subst hv
        have hqV : q < V.heap.size := by omega
        have E0 := finR (.bool bb.inn) (.int .i64 bb.cost) (.int .i64 (bb.y : Int)) hRV HFND.out.2 HFND.out.1 (.inr (Nat.le_succ _)) (by omega)
        have ER := Lib.hid (And.intro (E0.1.alloc (.cells #[.bool bb.inn, .int .i64 bb.cost, .int .i64 (bb.y : Int)] 78)) (And.intro (E0.2.1.on ((Below.refl _ _).alloc (Nat.le_refl _) (.cells #[.bool bb.inn, .int .i64 bb.cost, .int .i64 (bb.y : Int)] 78))) (E0.2.2.alloc (.cells #[.bool bb.inn, .int .i64 bb.cost, .int .i64 (bb.y : Int)] 78))))
        clear E0
        unfold restV at hrun
        rw [HIN.out] at hrun
        clear hRV hbV cV hg c3 hne hcv k0
        have k0 := (FACTS.out V CV.out).1
        go_wp2_with fail
        refine bodyPost_gen (fun U => Blk U (w.heap.size + 1) 78 #[.bool bb.inn, .int .i64 bb.cost, .int .i64 (bb.y : Int)] ∧ TallyB cs n f ct U q (N + (2 ^ (m + 1) - 1)) ∧ Chg [q] w U) ER.out ?_
        rintro U ⟨hU, tU, cU⟩
        have HU := Lib.hid (And.intro tU cU)
        have u0 : U.cell? ⟨w.heap.size + 1, 0, none⟩ = some (.bool bb.inn) := hU.cell 0
        have u1 : U.cell? ⟨w.heap.size + 1, 1, none⟩ = some (.int .i64 bb.cost) := hU.cell 1
        have u2 : U.cell? ⟨w.heap.size + 1, 2, none⟩ = some (.int .i64 (bb.y : Int)) := hU.cell 2
        clear k0 k1 k2 k3 k4 k5 k6 k7 k8 k9 k10 r0 r1 r2 s0 s1 s2 hrun tU cU hU
        refine bodyPost_ret (v := .agg #[.bool bb.inn, .int .i64 bb.cost, .int .i64 (bb.y : Int)]) ?_ rfl ⟨rfl, (by first | exact HU.out.1 | (have h9 := HU.out.1; rw [hps] at h9; exact h9)), HU.out.2⟩
        simp [results, Tryz.results24, go_sem, u0, u1, u2]
      · unfold restV at hrun
        rw [HIN.out] at hrun
        have hkV : w.heap.size < V.heap.size := by have := hbV.size; omega
        have hrV : w.heap.size + 1 < V.heap.size := by have := hbV.size; omega
        clear c3 hne hcv cV hbV
        go_upto_region 8 with fail
        refine world_gen (fun U => Below V.heap.size V U) (by with_reducible (repeat (first | exact Below.refl _ _ | refine keepC ?_ | refine Below.drew ?_))) ?_
        intro U1 hbU
        have HBU := Lib.hid (HBV.out.trans (hbU.mono HBV.out.size))
        have CU := Lib.hid (chg_of_below (F := [q]) HBU.out)
        clear k0 k1 k2 k3 k4 k5 k6 k7 k8 k9 k10 hrun hkV hrV hbU
        obtain ⟨k0, k1, k2, k3, k4, k5, k6, k7, k8, k9, k10⟩ := FACTS.out U1 CU.out
        go_wp2_with fail
        refine (HHA.out _ CU.out).mono ?_
        rintro e w2 ⟨rfl, hb2⟩
        have B2 := Lib.hid (HBU.out.trans (hb2.mono HBU.out.size))
        have C2 := Lib.hid (chg_of_below (F := [q]) B2.out)
        clear hb2 k0 k1 k2 k3 k4 k5 k6 k7 k8 k9 k10
        go_wp2_with fail
        refine (HCA.out _ C2.out (HTW.out.on B2.out)).mono ?_
        rintro e w3 ⟨rfl, ht3, hc3⟩
        have C3 := Lib.hid (chg_thenC C2.out hc3)
        have T3 := Lib.hid ht3
        have hs3 : W.heap.size ≤ w3.heap.size := C3.out.size
        clear hc3 ht3
        go_upto_region 9 with fail
        refine world_gen (fun U => Below w3.heap.size w3 U ∧ Blk U w3.heap.size 78 #[.bool pa.inn, .int .i64 pa.cost, .int .i64 (pa.y : Int)]) (by first | exact ⟨keepC (Below.refl _ _), Blk.new _ _ _⟩ | exact ⟨(keepC (Below.refl _ _)).drew, Blk.new _ _ _⟩) ?_
        rintro U3 ⟨hbU3, hP3⟩
        have C3U := Lib.hid (chg_thenB C3.out hbU3)
        have T3U := Lib.hid (T3.out.on hbU3)
        have P3 := Lib.hid hP3
        have hp3 := hP3.lt
        clear hbU3 hP3
        obtain ⟨k0, k1, k2, k3, k4, k5, k6, k7, k8, k9, k10⟩ := FACTS.out U3 C3U.out
        go_wp2_with fail
        refine (HHB.out _ C3U.out).mono ?_
        rintro e w4 ⟨rfl, hb4⟩
        have C4 := Lib.hid (chg_thenB C3U.out hb4)
        have T4 := Lib.hid (T3U.out.on hb4)
        have P4 := Lib.hid (P3.out.onB hb4)
        have hs4 : U3.heap.size ≤ w4.heap.size := hb4.size
        clear hb4 k0 k1 k2 k3 k4 k5 k6 k7 k8 k9 k10
        go_wp2_with fail
        refine (HCB.out _ C4.out T4.out).mono ?_
        rintro e w5 ⟨rfl, ht5, hc5⟩
        have C5 := Lib.hid (chg_thenC C4.out hc5)
        have T5 := Lib.hid ht5
        have P5 := Lib.hid (P4.out.chg hc5 (by simp; omega))
        have hs5 : w4.heap.size ≤ w5.heap.size := hc5.size
        clear hc5 ht5
        go_upto_region 10 with fail
        refine world_gen (fun U => Below w5.heap.size w5 U ∧ Blk U w5.heap.size 78 #[.bool pb.inn, .int .i64 pb.cost, .int .i64 (pb.y : Int)]) (by first | exact ⟨keepC (Below.refl _ _), Blk.new _ _ _⟩ | exact ⟨(keepC (Below.refl _ _)).drew, Blk.new _ _ _⟩) ?_
        rintro U5 ⟨hbU5, hQ5⟩
        have C5U := Lib.hid (chg_thenB C5.out hbU5)
        have T5U := Lib.hid (T5.out.on hbU5)
        have P5U := Lib.hid (P5.out.onB hbU5)
        have Q5 := Lib.hid hQ5
        have hq5 := hQ5.lt
        clear hbU5 hQ5
        have hC5 := HCC.out U5 C5U.out
        have hO5 := HOC.out U5 C5U.out
        have hxl : x.l = (lv : Int) := HL.out
        have hpv := hfit.perm.get (k := lv) (by rw [hpl]; omega)
        have hat : atI ps x.l = ps[lv]?.getD 0 := by unfold atI; rw [if_pos (by rw [hpl]; omega), hxl, Int.toNat_natCast]
        have hctl := hct lv (by omega)
        have hVA := Lib.hid (fun W' h => orderVar_any G go ps ls x.l W' h)
        rw [hat] at hVA
        obtain ⟨ba, oa, rfl, hba, hca⟩ := HIC.out U5 C5U.out (by rw [hkl']; omega)
        have hkc := hca (ps[lv]?.getD 0).toNat (by rw [hkl']; omega)
        rw [← hctl] at hkc
        have hcl := hcb lv
        have HA := hBA'.out
        generalize hpve : ps[lv]?.getD 0 = pv at *
        generalize ct lv = cl at *
        have q1 : U5.cell? ⟨w5.heap.size, 1, none⟩ = some (.int .i64 pb.cost) := Q5.out.cell 1
        have z1 : U5.frozen? ⟨w5.heap.size, 1, none⟩ = false := Q5.out.frozen 1
        have g1 : U5.cell? ⟨cb, 1, none⟩ = some (.pointer (some ⟨go, 0, none⟩)) := hC5.ca.cell 1
        have k10 : U5.cell? ⟨w.heap.size, 10, none⟩ = some (.int .u8 x.l) := (FACTS.out U5 C5U.out).2.2.2.2.2.2.2.2.2.2
        have hcv : IntKind.i64.wrap x.l = x.l := IntWalk.i64_in _ ⟨by omega, by omega⟩
        have hsum : IntKind.i64.wrap (pb.cost + cl) = pb.cost + cl := IntWalk.i64_in _ ⟨by omega, by omega⟩
        have hpv2 : pv < (n : Int) := by rw [hpl] at hpv; exact hpv.2
        have hpv1 : 0 ≤ pv := hpv.1
        have HO5 := Lib.hid hO5
        have HCL := Lib.hid hctl
        clear hC5 hO5 hat hctl hca hpve hxl hpv hba
        go_wp2_with fail
        go_still_tail 15, (by kernel_rfl)
        still_call ((hVA.out _ (by first | exact HO5.out | exact HO5.out.on (Below.refl _ _).drew)).mono fun _ _ ⟨a, b⟩ => ⟨a, b.symm⟩)
        repeat still_step
        refine wpStill_nil ?_
        have E6 := Lib.hid (stepB1 (.int .i64 (pb.cost + cl)) C5U.out T5U.out P5U.out Q5.out (by omega) (by omega) (by omega))
        clear q1 z1 g1 k10 hsum hkc hVA
        have q1 : U5.cell? ⟨w5.heap.size, 1, none⟩ = some (.int .i64 pb.cost) := Q5.out.cell 1
        have z1 : U5.frozen? ⟨w5.heap.size, 1, none⟩ = false := Q5.out.frozen 1
        go_upto_region 11 with fail
        refine world_gen (fun U => Chg [q] W U ∧ TallyB cs n f ct U q (N + (2 ^ m - 1) + (2 ^ m - 1)) ∧ Blk U w3.heap.size 78 #[.bool pa.inn, .int .i64 pa.cost, .int .i64 (pa.y : Int)] ∧ Blk U w5.heap.size 78 #[.bool pb.inn, .int .i64 (pb.cost + cl), .int .i64 (pb.y : Int)]) (by first | exact E6.out | (exact ⟨E6.out.1.drew, Tally.keep E6.out.2.1 rfl, E6.out.2.2.1, E6.out.2.2.2⟩)) ?_
        rintro U6 ⟨c6, t6, p6, q6⟩
        have C6 := Lib.hid c6
        have T6 := Lib.hid t6
        have P6 := Lib.hid p6
        have Q6 := Lib.hid q6
        have g3 : U6.cell? ⟨cb, 3, none⟩ = some (.int .i64 (n : Nat)) := (HCC.out U6 c6).ca.cell 3
        have k10 : U6.cell? ⟨w.heap.size, 10, none⟩ = some (.int .u8 x.l) := (FACTS.out U6 c6).2.2.2.2.2.2.2.2.2.2
        have r2 : U6.cell? ⟨w5.heap.size, 2, none⟩ = some (.int .i64 (pb.y : Int)) := q6.cell 2
        have s2 : U6.frozen? ⟨w5.heap.size, 2, none⟩ = false := q6.frozen 2
        have hxl : x.l = (lv : Int) := HL.out
        rw [hxl] at k10 hcv
        have e1 : IntKind.i64.wrap ((n : Int) - 1) = (n : Int) - 1 := IntWalk.i64_in _ ⟨by omega, by omega⟩
        have e2 : IntKind.i64.wrap ((n : Int) - 1 - (lv : Int)) = (m : Int) := by rw [show (n : Int) - 1 - (lv : Int) = (m : Int) by omega]; exact IntWalk.i64_in _ ⟨by omega, by omega⟩
        have hy := HBB.out.2.2
        have hor := or_pow pb.y (by have := pow_le16 (m := m) (by omega); omega) m (by omega)
        clear q1 z1 c6 t6 p6 q6 hxl
        go_still_tail 14, (by kernel_rfl)
        have E7 := Lib.hid (stepB2 (.int .i64 ((pb.y ||| 2 ^ m : Nat) : Int)) C6.out T6.out P6.out Q6.out (by omega) (by omega) (by omega))
        go_upto_region 12 with fail
        rw [hor]
        refine world_gen (fun U => Chg [q] W U ∧ TallyB cs n f ct U q (N + (2 ^ m - 1) + (2 ^ m - 1)) ∧ Blk U w3.heap.size 78 #[.bool pa.inn, .int .i64 pa.cost, .int .i64 (pa.y : Int)] ∧ Blk U w5.heap.size 78 #[.bool pb.inn, .int .i64 (pb.cost + cl), .int .i64 ((pb.y ||| 2 ^ m : Nat) : Int)]) (by first | exact E7.out | (exact ⟨E7.out.1.drew, Tally.keep E7.out.2.1 rfl, E7.out.2.2.1, E7.out.2.2.2⟩)) ?_
        rintro U7 ⟨c7, t7, p7, q7⟩
        have C7 := Lib.hid c7
        have T7 := Lib.hid t7
        have P7 := Lib.hid p7
        have Q7 := Lib.hid q7
        have hs7 : W.heap.size ≤ U7.heap.size := c7.size
        have l0 : U7.cell? ⟨w3.heap.size, 0, none⟩ = some (.bool pa.inn) := p7.cell 0
        have l1 : U7.cell? ⟨w3.heap.size, 1, none⟩ = some (.int .i64 pa.cost) := p7.cell 1
        have l2 : U7.cell? ⟨w3.heap.size, 2, none⟩ = some (.int .i64 (pa.y : Int)) := p7.cell 2
        have p7l := p7.lt
        have q7l := q7.lt
        clear c7 t7 p7 q7 r2 s2 g3 k10 hor e1 e2 hcv
        go_upto_region 13 with fail
        refine world_gen (fun U => Below U7.heap.size U7 U ∧ Blk U U7.heap.size 78 #[.bool pa.inn, .int .i64 pa.cost, .int .i64 (pa.y : Int)]) (by first | exact ⟨keepC (Below.refl _ _), Blk.new _ _ _⟩ | exact ⟨(keepC (Below.refl _ _)).drew, Blk.new _ _ _⟩) ?_
        rintro U8 ⟨b8, n8⟩
        have P8 := P7.out.onB b8
        have Q8 := Q7.out.onB b8
        have C8 := Lib.hid (chg_thenB C7.out b8)
        have T8 := Lib.hid (T7.out.on b8)
        have N8 := Lib.hid n8
        have hs8 := b8.size
        clear l0 l1 l2
        have l0 : U8.cell? ⟨w3.heap.size, 0, none⟩ = some (.bool pa.inn) := P8.cell 0
        have l1 : U8.cell? ⟨w3.heap.size, 1, none⟩ = some (.int .i64 pa.cost) := P8.cell 1
        have h0 : U8.cell? ⟨w5.heap.size, 0, none⟩ = some (.bool pb.inn) := Q8.cell 0
        have h1 : U8.cell? ⟨w5.heap.size, 1, none⟩ = some (.int .i64 (pb.cost + cl)) := Q8.cell 1
        have h2 : U8.cell? ⟨w5.heap.size, 2, none⟩ = some (.int .i64 ((pb.y ||| 2 ^ m : Nat) : Int)) := Q8.cell 2
        clear P8 Q8 b8 n8
        have hne7 : ¬ U7.heap.size = w5.heap.size := by omega
        have hne8 : ¬ U7.heap.size = w3.heap.size := by omega
        cases hpa : pa.inn with
        | false =>
          rw [hpa] at l0
          have HJ : Hid (joinF m cl pa pb = ⟨pb.inn, pb.cost + cl, (pb.y ||| 2 ^ m)⟩) := Lib.hid (by unfold joinF; rw [hpa]; rfl)
          have o0 : U8.cell? ⟨U7.heap.size, 0, none⟩ = some (.bool pa.inn) := N8.out.cell 0
          have o1 : U8.cell? ⟨U7.heap.size, 1, none⟩ = some (.int .i64 pa.cost) := N8.out.cell 1
          have o2 : U8.cell? ⟨U7.heap.size, 2, none⟩ = some (.int .i64 (pa.y : Int)) := N8.out.cell 2
          have f0 := N8.out.frozen 0
          have f1 := N8.out.frozen 1
          have f2 := N8.out.frozen 2
          have E9 := Lib.hid (finR (.bool pb.inn) (.int .i64 (pb.cost + cl)) (.int .i64 (((pb.y ||| 2 ^ m : Nat) : Int))) N8.out C8.out T8.out (.inr hs7) (by omega))
          go_upto_region 15 with fail
          refine world_gen (fun U => Blk U U7.heap.size 78 #[.bool pb.inn, .int .i64 (pb.cost + cl), .int .i64 (((pb.y ||| 2 ^ m : Nat) : Int))] ∧ TallyB cs n f ct U q (N + (2 ^ m - 1) + (2 ^ m - 1)) ∧ Chg [q] W U) E9.out ?_
          rintro U9 ⟨b9, t9, c9⟩
          have hv : goodB cs n f ct x (.agg #[.bool pb.inn, .int .i64 (pb.cost + cl), .int .i64 (((pb.y ||| 2 ^ m : Nat) : Int))]) := fun _ => by rw [HLV.out.1, HLV.out.2, HBE.out, HJ.out]
          obtain ⟨k0, k1, k2, k3, k4, k5, k6, k7, k8, k9, k10⟩ := FACTS.out U9 c9
          have n0 : U9.cell? ⟨U7.heap.size, 0, none⟩ = some (.bool pb.inn) := b9.cell 0
          have n1 : U9.cell? ⟨U7.heap.size, 1, none⟩ = some (.int .i64 (pb.cost + cl)) := b9.cell 1
          have n2 : U9.cell? ⟨U7.heap.size, 2, none⟩ = some (.int .i64 (((pb.y ||| 2 ^ m : Nat) : Int))) := b9.cell 2
          obtain ⟨wz, hput, tz, cz⟩ := t9.put Tryz.underlying80 HWF.out (by unfold maxLen; omega) (readF_mk _ _ _) hv
          unfold restV at hput
          rw [HIN.out] at hput
          rw [pow_m1] at tz
          have CZ := Lib.hid (chg_thenC c9 cz)
          have CZw := Lib.hid (chg_thenC (chg_of_below HBW.out) (chg_thenC c9 cz))
          have BZ := b9.chg cz (by simp; omega)
          have RZ := FR.out wz CZ.out
          have m0 : wz.cell? ⟨U7.heap.size, 0, none⟩ = some (.bool pb.inn) := BZ.cell 0
          have m1 : wz.cell? ⟨U7.heap.size, 1, none⟩ = some (.int .i64 (pb.cost + cl)) := BZ.cell 1
          have m2 : wz.cell? ⟨U7.heap.size, 2, none⟩ = some (.int .i64 (((pb.y ||| 2 ^ m : Nat) : Int))) := BZ.cell 2
          have r0 : wz.cell? ⟨w.heap.size + 1, 0, none⟩ = some (.bool false) := RZ.cell 0
          have r1 : wz.cell? ⟨w.heap.size + 1, 1, none⟩ = some (.int .i64 0) := RZ.cell 1
          have r2 : wz.cell? ⟨w.heap.size + 1, 2, none⟩ = some (.int .i64 0) := RZ.cell 2
          have s0 := RZ.frozen 0
          have s1 := RZ.frozen 1
          have s2 := RZ.frozen 2
          have ER := Lib.hid (finR (.bool pb.inn) (.int .i64 (pb.cost + cl)) (.int .i64 (((pb.y ||| 2 ^ m : Nat) : Int))) RZ CZw.out tz (.inr (Nat.le_succ _)) (by omega))
          clear tz cz BZ RZ c9 t9 b9 hv
          go_wp2_with fail
          refine bodyPost_gen (fun U => Blk U (w.heap.size + 1) 78 #[.bool pb.inn, .int .i64 (pb.cost + cl), .int .i64 (((pb.y ||| 2 ^ m : Nat) : Int))] ∧ TallyB cs n f ct U q (N + (2 ^ (m + 1) - 1)) ∧ Chg [q] w U) ER.out ?_
          rintro U ⟨hU, tU, cU⟩
          have HU := Lib.hid (And.intro tU cU)
          have u0 : U.cell? ⟨w.heap.size + 1, 0, none⟩ = some (.bool pb.inn) := hU.cell 0
          have u1 : U.cell? ⟨w.heap.size + 1, 1, none⟩ = some (.int .i64 (pb.cost + cl)) := hU.cell 1
          have u2 : U.cell? ⟨w.heap.size + 1, 2, none⟩ = some (.int .i64 (((pb.y ||| 2 ^ m : Nat) : Int))) := hU.cell 2
          clear k0 k1 k2 k3 k4 k5 k6 k7 k8 k9 k10 m0 m1 m2 r0 r1 r2 s0 s1 s2 n0 n1 n2 hput tU cU hU
          refine bodyPost_ret (v := .agg #[.bool pb.inn, .int .i64 (pb.cost + cl), .int .i64 (((pb.y ||| 2 ^ m : Nat) : Int))]) ?_ rfl ⟨by rw [HBE.out, HJ.out], (by first | exact HU.out.1 | (have h9 := HU.out.1; rw [hps] at h9; exact h9)), HU.out.2⟩
          simp [results, Tryz.results24, go_sem, u0, u1, u2]
        | true =>
          cases hpb : pb.inn with
          | false =>
            rw [hpa] at l0
            rw [hpb] at h0
            have HJ : Hid (joinF m cl pa pb = ⟨true, pa.cost, pa.y⟩) := Lib.hid (by unfold joinF; rw [hpa, hpb]; simp only [Bool.not_true, Bool.false_and, Bool.or_false, Bool.false_eq_true, if_false]; rw [← hpa])
            have E9 := Lib.hid (And.intro N8.out (And.intro T8.out C8.out))
            rw [hpa] at E9
            go_upto_region 15 with fail
            refine world_gen (fun U => Blk U U7.heap.size 78 #[.bool true, .int .i64 (pa.cost), .int .i64 ((pa.y : Int))] ∧ TallyB cs n f ct U q (N + (2 ^ m - 1) + (2 ^ m - 1)) ∧ Chg [q] W U) E9.out ?_
            rintro U9 ⟨b9, t9, c9⟩
            have hv : goodB cs n f ct x (.agg #[.bool true, .int .i64 (pa.cost), .int .i64 ((pa.y : Int))]) := fun _ => by rw [HLV.out.1, HLV.out.2, HBE.out, HJ.out]
            obtain ⟨k0, k1, k2, k3, k4, k5, k6, k7, k8, k9, k10⟩ := FACTS.out U9 c9
            have n0 : U9.cell? ⟨U7.heap.size, 0, none⟩ = some (.bool true) := b9.cell 0
            have n1 : U9.cell? ⟨U7.heap.size, 1, none⟩ = some (.int .i64 (pa.cost)) := b9.cell 1
            have n2 : U9.cell? ⟨U7.heap.size, 2, none⟩ = some (.int .i64 ((pa.y : Int))) := b9.cell 2
            obtain ⟨wz, hput, tz, cz⟩ := t9.put Tryz.underlying80 HWF.out (by unfold maxLen; omega) (readF_mk _ _ _) hv
            unfold restV at hput
            rw [HIN.out] at hput
            rw [pow_m1] at tz
            have CZ := Lib.hid (chg_thenC c9 cz)
            have CZw := Lib.hid (chg_thenC (chg_of_below HBW.out) (chg_thenC c9 cz))
            have BZ := b9.chg cz (by simp; omega)
            have RZ := FR.out wz CZ.out
            have m0 : wz.cell? ⟨U7.heap.size, 0, none⟩ = some (.bool true) := BZ.cell 0
            have m1 : wz.cell? ⟨U7.heap.size, 1, none⟩ = some (.int .i64 (pa.cost)) := BZ.cell 1
            have m2 : wz.cell? ⟨U7.heap.size, 2, none⟩ = some (.int .i64 ((pa.y : Int))) := BZ.cell 2
            have r0 : wz.cell? ⟨w.heap.size + 1, 0, none⟩ = some (.bool false) := RZ.cell 0
            have r1 : wz.cell? ⟨w.heap.size + 1, 1, none⟩ = some (.int .i64 0) := RZ.cell 1
            have r2 : wz.cell? ⟨w.heap.size + 1, 2, none⟩ = some (.int .i64 0) := RZ.cell 2
            have s0 := RZ.frozen 0
            have s1 := RZ.frozen 1
            have s2 := RZ.frozen 2
            have ER := Lib.hid (finR (.bool true) (.int .i64 (pa.cost)) (.int .i64 ((pa.y : Int))) RZ CZw.out tz (.inr (Nat.le_succ _)) (by omega))
            clear tz cz BZ RZ c9 t9 b9 hv
            go_wp2_with fail
            refine bodyPost_gen (fun U => Blk U (w.heap.size + 1) 78 #[.bool true, .int .i64 (pa.cost), .int .i64 ((pa.y : Int))] ∧ TallyB cs n f ct U q (N + (2 ^ (m + 1) - 1)) ∧ Chg [q] w U) ER.out ?_
            rintro U ⟨hU, tU, cU⟩
            have HU := Lib.hid (And.intro tU cU)
            have u0 : U.cell? ⟨w.heap.size + 1, 0, none⟩ = some (.bool true) := hU.cell 0
            have u1 : U.cell? ⟨w.heap.size + 1, 1, none⟩ = some (.int .i64 (pa.cost)) := hU.cell 1
            have u2 : U.cell? ⟨w.heap.size + 1, 2, none⟩ = some (.int .i64 ((pa.y : Int))) := hU.cell 2
            clear k0 k1 k2 k3 k4 k5 k6 k7 k8 k9 k10 m0 m1 m2 r0 r1 r2 s0 s1 s2 n0 n1 n2 hput tU cU hU
            refine bodyPost_ret (v := .agg #[.bool true, .int .i64 (pa.cost), .int .i64 ((pa.y : Int))]) ?_ rfl ⟨by rw [HBE.out, HJ.out], (by first | exact HU.out.1 | (have h9 := HU.out.1; rw [hps] at h9; exact h9)), HU.out.2⟩
            simp [results, Tryz.results24, go_sem, u0, u1, u2]
          | true =>
            by_cases hlt : pb.cost + cl < pa.cost
            · rw [hpa] at l0
              rw [hpb] at h0
              have HJ : Hid (joinF m cl pa pb = ⟨true, pb.cost + cl, (pb.y ||| 2 ^ m)⟩) := Lib.hid (by unfold joinF; rw [hpa, hpb]; simp [hlt])
              have o0 : U8.cell? ⟨U7.heap.size, 0, none⟩ = some (.bool pa.inn) := N8.out.cell 0
              have o1 : U8.cell? ⟨U7.heap.size, 1, none⟩ = some (.int .i64 pa.cost) := N8.out.cell 1
              have o2 : U8.cell? ⟨U7.heap.size, 2, none⟩ = some (.int .i64 (pa.y : Int)) := N8.out.cell 2
              have f0 := N8.out.frozen 0
              have f1 := N8.out.frozen 1
              have f2 := N8.out.frozen 2
              have E9 := Lib.hid (finR (.bool true) (.int .i64 (pb.cost + cl)) (.int .i64 (((pb.y ||| 2 ^ m : Nat) : Int))) N8.out C8.out T8.out (.inr hs7) (by omega))
              go_upto_region 15 with fail
              refine world_gen (fun U => Blk U U7.heap.size 78 #[.bool true, .int .i64 (pb.cost + cl), .int .i64 (((pb.y ||| 2 ^ m : Nat) : Int))] ∧ TallyB cs n f ct U q (N + (2 ^ m - 1) + (2 ^ m - 1)) ∧ Chg [q] W U) E9.out ?_
              rintro U9 ⟨b9, t9, c9⟩
              have hv : goodB cs n f ct x (.agg #[.bool true, .int .i64 (pb.cost + cl), .int .i64 (((pb.y ||| 2 ^ m : Nat) : Int))]) := fun _ => by rw [HLV.out.1, HLV.out.2, HBE.out, HJ.out]
              obtain ⟨k0, k1, k2, k3, k4, k5, k6, k7, k8, k9, k10⟩ := FACTS.out U9 c9
              have n0 : U9.cell? ⟨U7.heap.size, 0, none⟩ = some (.bool true) := b9.cell 0
              have n1 : U9.cell? ⟨U7.heap.size, 1, none⟩ = some (.int .i64 (pb.cost + cl)) := b9.cell 1
              have n2 : U9.cell? ⟨U7.heap.size, 2, none⟩ = some (.int .i64 (((pb.y ||| 2 ^ m : Nat) : Int))) := b9.cell 2
              obtain ⟨wz, hput, tz, cz⟩ := t9.put Tryz.underlying80 HWF.out (by unfold maxLen; omega) (readF_mk _ _ _) hv
              unfold restV at hput
              rw [HIN.out] at hput
              rw [pow_m1] at tz
              have CZ := Lib.hid (chg_thenC c9 cz)
              have CZw := Lib.hid (chg_thenC (chg_of_below HBW.out) (chg_thenC c9 cz))
              have BZ := b9.chg cz (by simp; omega)
              have RZ := FR.out wz CZ.out
              have m0 : wz.cell? ⟨U7.heap.size, 0, none⟩ = some (.bool true) := BZ.cell 0
              have m1 : wz.cell? ⟨U7.heap.size, 1, none⟩ = some (.int .i64 (pb.cost + cl)) := BZ.cell 1
              have m2 : wz.cell? ⟨U7.heap.size, 2, none⟩ = some (.int .i64 (((pb.y ||| 2 ^ m : Nat) : Int))) := BZ.cell 2
              have r0 : wz.cell? ⟨w.heap.size + 1, 0, none⟩ = some (.bool false) := RZ.cell 0
              have r1 : wz.cell? ⟨w.heap.size + 1, 1, none⟩ = some (.int .i64 0) := RZ.cell 1
              have r2 : wz.cell? ⟨w.heap.size + 1, 2, none⟩ = some (.int .i64 0) := RZ.cell 2
              have s0 := RZ.frozen 0
              have s1 := RZ.frozen 1
              have s2 := RZ.frozen 2
              have ER := Lib.hid (finR (.bool true) (.int .i64 (pb.cost + cl)) (.int .i64 (((pb.y ||| 2 ^ m : Nat) : Int))) RZ CZw.out tz (.inr (Nat.le_succ _)) (by omega))
              clear tz cz BZ RZ c9 t9 b9 hv
              go_wp2_with fail
              refine bodyPost_gen (fun U => Blk U (w.heap.size + 1) 78 #[.bool true, .int .i64 (pb.cost + cl), .int .i64 (((pb.y ||| 2 ^ m : Nat) : Int))] ∧ TallyB cs n f ct U q (N + (2 ^ (m + 1) - 1)) ∧ Chg [q] w U) ER.out ?_
              rintro U ⟨hU, tU, cU⟩
              have HU := Lib.hid (And.intro tU cU)
              have u0 : U.cell? ⟨w.heap.size + 1, 0, none⟩ = some (.bool true) := hU.cell 0
              have u1 : U.cell? ⟨w.heap.size + 1, 1, none⟩ = some (.int .i64 (pb.cost + cl)) := hU.cell 1
              have u2 : U.cell? ⟨w.heap.size + 1, 2, none⟩ = some (.int .i64 (((pb.y ||| 2 ^ m : Nat) : Int))) := hU.cell 2
              clear k0 k1 k2 k3 k4 k5 k6 k7 k8 k9 k10 m0 m1 m2 r0 r1 r2 s0 s1 s2 n0 n1 n2 hput tU cU hU
              refine bodyPost_ret (v := .agg #[.bool true, .int .i64 (pb.cost + cl), .int .i64 (((pb.y ||| 2 ^ m : Nat) : Int))]) ?_ rfl ⟨by rw [HBE.out, HJ.out], (by first | exact HU.out.1 | (have h9 := HU.out.1; rw [hps] at h9; exact h9)), HU.out.2⟩
              simp [results, Tryz.results24, go_sem, u0, u1, u2]
            · rw [hpa] at l0
              rw [hpb] at h0
              have HJ : Hid (joinF m cl pa pb = ⟨true, pa.cost, pa.y⟩) := Lib.hid (by unfold joinF; rw [hpa, hpb]; simp only [Bool.not_true, Bool.true_and, Bool.false_or, decide_eq_true_eq]; rw [if_neg hlt, ← hpa])
              have E9 := Lib.hid (And.intro N8.out (And.intro T8.out C8.out))
              rw [hpa] at E9
              go_upto_region 15 with fail
              refine world_gen (fun U => Blk U U7.heap.size 78 #[.bool true, .int .i64 (pa.cost), .int .i64 ((pa.y : Int))] ∧ TallyB cs n f ct U q (N + (2 ^ m - 1) + (2 ^ m - 1)) ∧ Chg [q] W U) E9.out ?_
              rintro U9 ⟨b9, t9, c9⟩
              have hv : goodB cs n f ct x (.agg #[.bool true, .int .i64 (pa.cost), .int .i64 ((pa.y : Int))]) := fun _ => by rw [HLV.out.1, HLV.out.2, HBE.out, HJ.out]
              obtain ⟨k0, k1, k2, k3, k4, k5, k6, k7, k8, k9, k10⟩ := FACTS.out U9 c9
              have n0 : U9.cell? ⟨U7.heap.size, 0, none⟩ = some (.bool true) := b9.cell 0
              have n1 : U9.cell? ⟨U7.heap.size, 1, none⟩ = some (.int .i64 (pa.cost)) := b9.cell 1
              have n2 : U9.cell? ⟨U7.heap.size, 2, none⟩ = some (.int .i64 ((pa.y : Int))) := b9.cell 2
              obtain ⟨wz, hput, tz, cz⟩ := t9.put Tryz.underlying80 HWF.out (by unfold maxLen; omega) (readF_mk _ _ _) hv
              unfold restV at hput
              rw [HIN.out] at hput
              rw [pow_m1] at tz
              have CZ := Lib.hid (chg_thenC c9 cz)
              have CZw := Lib.hid (chg_thenC (chg_of_below HBW.out) (chg_thenC c9 cz))
              have BZ := b9.chg cz (by simp; omega)
              have RZ := FR.out wz CZ.out
              have m0 : wz.cell? ⟨U7.heap.size, 0, none⟩ = some (.bool true) := BZ.cell 0
              have m1 : wz.cell? ⟨U7.heap.size, 1, none⟩ = some (.int .i64 (pa.cost)) := BZ.cell 1
              have m2 : wz.cell? ⟨U7.heap.size, 2, none⟩ = some (.int .i64 ((pa.y : Int))) := BZ.cell 2
              have r0 : wz.cell? ⟨w.heap.size + 1, 0, none⟩ = some (.bool false) := RZ.cell 0
              have r1 : wz.cell? ⟨w.heap.size + 1, 1, none⟩ = some (.int .i64 0) := RZ.cell 1
              have r2 : wz.cell? ⟨w.heap.size + 1, 2, none⟩ = some (.int .i64 0) := RZ.cell 2
              have s0 := RZ.frozen 0
              have s1 := RZ.frozen 1
              have s2 := RZ.frozen 2
              have ER := Lib.hid (finR (.bool true) (.int .i64 (pa.cost)) (.int .i64 ((pa.y : Int))) RZ CZw.out tz (.inr (Nat.le_succ _)) (by omega))
              clear tz cz BZ RZ c9 t9 b9 hv
              go_wp2_with fail
              refine bodyPost_gen (fun U => Blk U (w.heap.size + 1) 78 #[.bool true, .int .i64 (pa.cost), .int .i64 ((pa.y : Int))] ∧ TallyB cs n f ct U q (N + (2 ^ (m + 1) - 1)) ∧ Chg [q] w U) ER.out ?_
              rintro U ⟨hU, tU, cU⟩
              have HU := Lib.hid (And.intro tU cU)
              have u0 : U.cell? ⟨w.heap.size + 1, 0, none⟩ = some (.bool true) := hU.cell 0
              have u1 : U.cell? ⟨w.heap.size + 1, 1, none⟩ = some (.int .i64 (pa.cost)) := hU.cell 1
              have u2 : U.cell? ⟨w.heap.size + 1, 2, none⟩ = some (.int .i64 ((pa.y : Int))) := hU.cell 2
              clear k0 k1 k2 k3 k4 k5 k6 k7 k8 k9 k10 m0 m1 m2 r0 r1 r2 s0 s1 s2 n0 n1 n2 hput tU cU hU
              refine bodyPost_ret (v := .agg #[.bool true, .int .i64 (pa.cost), .int .i64 ((pa.y : Int))]) ?_ rfl ⟨by rw [HBE.out, HJ.out], (by first | exact HU.out.1 | (have h9 := HU.out.1; rw [hps] at h9; exact h9)), HU.out.2⟩
              simp [results, Tryz.results24, go_sem, u0, u1, u2]
end Go.Proofs.YtpjciaomhfeeeaaGreat
