/- A map whose keys are what is left of an edge (a struct of 11 cells): what a kept tally is good for. Contract: member.count: how many members what is left has; what it keeps. -/
import Derived.Test.YtciokbngjfeihaaGreatMah
import Derived.Test.YtciokbngjfeihaaGreatMa
import Derived.Maps.Own
import Derived.Maps.OwnOps
import Derived.Maps.OwnSet
import Derived.Maps.Views
import Derived.DeepKeys4
import Derived.Test.YtciokbngjfeihaaGreatRnkP
import Derived.Test.YtciokbngjfeihaaGreatMbrB
section
namespace Go.Proofs.YtciokbngjfeihaaGreat
open Go Go.RowKit Go.Maps
set_option linter.unusedSimpArgs false
set_option linter.unusedVariables false

theorem row_rest : 78 < Tryz.prog.types.size := of_decide_eq_true (by kernel_rfl)
theorem deep_rest : Tryz.prog.keyTypeAt (Tryz.prog.types.size + 1) 78 = true := by kernel_rfl
theorem wide_rest : (match Tryz.prog.underlying 78 with | some (.array _ _) | some (.struct _) => true | _ => false) = true := by rw [Tryz.underlying78]
theorem laid_rest : laidOutB Tryz.prog = true := by kernel_rfl
set_option maxRecDepth 100000 in
theorem keyRest : Keyed Tryz.prog 78 := Keyed.of_law (deep_law_laid laid_rest (m := 9) (by omega) row_rest (by kernel_rfl) wide_rest)
/-- what is left, as a key -/
def restV (x : Rst) : Value := .agg #[.bool x.inn, .bool x.node, .int .u8 x.r.form, .int .u8 x.r.top, .int .u8 x.r.bot, .int .u8 x.r.lo.tag, .int .u32 x.r.lo.pos, .int .u8 x.r.hi.tag, .int .u32 x.r.hi.pos, .int .u8 x.tag, .int .u8 x.l]
set_option maxRecDepth 10000 in
theorem restV_inj {x y : Rst} (h : restV x = restV y) : x = y := by
  obtain ⟨i, nd, ⟨rf, rt, rb, ⟨a, b⟩, ⟨c, d⟩⟩, t, l⟩ := x
  obtain ⟨i', nd', ⟨rf', rt', rb', ⟨a', b'⟩, ⟨c', d'⟩⟩, t', l'⟩ := y
  unfold restV at h
  injection h with h
  simp at h
  obtain ⟨h1, h2, h3, h4, h5, h6, h7, h8, h9, h10, h11⟩ := h
  subst h1 h2 h3 h4 h5 h6 h7 h8 h9 h10 h11
  rfl
/-- the fields are numbers of their kinds -/
def RstWf (x : Rst) : Prop := x.r.Wf ∧ (0 ≤ x.tag ∧ x.tag ≤ 255) ∧ 0 ≤ x.l ∧ x.l ≤ 255
theorem RstOk.wf' {n l : Int} {x : Rst} (h : RstOk n l x) (hn : n ≤ 16) : RstWf x := ⟨h.wf, h.tag, h.ln.1, by have := h.ln.2; omega⟩
theorem wf_u8 {n : Int} (h : 0 ≤ n ∧ n ≤ 255) : (Lit.int .u8 n).wf = true := by simpa [Lit.wf, IntKind.min, IntKind.max, IntKind.signed, IntKind.bits] using h
theorem wf_u32 {n : Int} (h : 0 ≤ n ∧ n ≤ 4294967295) : (Lit.int .u32 n).wf = true := by simpa [Lit.wf, IntKind.min, IntKind.max, IntKind.signed, IntKind.bits] using h
section
theorem lits_bool (d : Nat) (b : Bool) : Tryz.prog.keyLits (d + 1) 4 [.bool b] = some [.bool b] := by
  unfold Program.keyLits
  rw [Tryz.underlying4]
theorem lits_u8 (d : Nat) {n : Int} (h : (Lit.int .u8 n).wf = true) : Tryz.prog.keyLits (d + 1) 5 [.int .u8 n] = some [.int .u8 n] := by
  unfold Program.keyLits
  rw [Tryz.underlying5]; simp [h]
theorem lits_form (d : Nat) {n : Int} (h : (Lit.int .u8 n).wf = true) : Tryz.prog.keyLits (d + 1) 32 [.int .u8 n] = some [.int .u8 n] := by
  unfold Program.keyLits
  rw [Tryz.underlying32]; simp [h]
theorem lits_u32 (d : Nat) {n : Int} (h : (Lit.int .u32 n).wf = true) : Tryz.prog.keyLits (d + 1) 24 [.int .u32 n] = some [.int .u32 n] := by
  unfold Program.keyLits
  rw [Tryz.underlying24]; simp [h]
end
theorem co_bool : Tryz.prog.cellsOf 4 = 1 := by kernel_rfl
theorem co_u8 : Tryz.prog.cellsOf 5 = 1 := by kernel_rfl
theorem co_form : Tryz.prog.cellsOf 32 = 1 := by kernel_rfl
theorem co_u32 : Tryz.prog.cellsOf 24 = 1 := by kernel_rfl
theorem co_edge : Tryz.prog.cellsOf 26 = 2 := by kernel_rfl
theorem co_rec : Tryz.prog.cellsOf 68 = 7 := by kernel_rfl
theorem co_rest : Tryz.prog.cellsOf 78 = 11 := by kernel_rfl
theorem lits_edge (d : Nat) {t p : Int} (ht : (Lit.int .u8 t).wf = true) (hp : (Lit.int .u32 p).wf = true) : Tryz.prog.keyLits (d + 2) 26 [.int .u8 t, .int .u32 p] = some [.int .u8 t, .int .u32 p] := by
  unfold Program.keyLits
  rw [Tryz.underlying26]
  simp [co_edge, co_u8, co_u32, lits_u8 d ht, lits_u32 d hp]
theorem lits_rec (d : Nat) {r : Rec} (h : r.Wf) : Tryz.prog.keyLits (d + 3) 68 [.int .u8 r.form, .int .u8 r.top, .int .u8 r.bot, .int .u8 r.lo.tag, .int .u32 r.lo.pos, .int .u8 r.hi.tag, .int .u32 r.hi.pos] = some [.int .u8 r.form, .int .u8 r.top, .int .u8 r.bot, .int .u8 r.lo.tag, .int .u32 r.lo.pos, .int .u8 r.hi.tag, .int .u32 r.hi.pos] := by
  obtain ⟨h1, h2, h3, h4, h5⟩ := h
  unfold Program.keyLits
  rw [Tryz.underlying68]
  simp [co_rec, co_edge, co_u8, co_form, lits_form (d + 1) (wf_u8 h1), lits_u8 (d + 1) (wf_u8 h2), lits_u8 (d + 1) (wf_u8 h3), lits_edge d (wf_u8 ⟨h4.1, h4.2.1⟩) (wf_u32 h4.2.2), lits_edge d (wf_u8 ⟨h5.1, h5.2.1⟩) (wf_u32 h5.2.2)]
theorem lits_rest (d : Nat) {x : Rst} (h : RstWf x) : ∃ ls, Tryz.prog.keyLits (d + 4) 78 [.bool x.inn, .bool x.node, .int .u8 x.r.form, .int .u8 x.r.top, .int .u8 x.r.bot, .int .u8 x.r.lo.tag, .int .u32 x.r.lo.pos, .int .u8 x.r.hi.tag, .int .u32 x.r.hi.pos, .int .u8 x.tag, .int .u8 x.l] = some ls := by
  obtain ⟨h1, h2, h3⟩ := h
  unfold Program.keyLits
  rw [Tryz.underlying78]
  simp [co_rest, co_rec, co_bool, co_u8, lits_bool, lits_rec d h1, lits_u8 (d + 2) (wf_u8 h2), lits_u8 (d + 2) (wf_u8 h3)]
theorem size_types : ∃ d, Tryz.prog.types.size + 1 = d + 4 := 
  ⟨Tryz.prog.types.size - 3, by
    have h : 3 ≤ Tryz.prog.types.size := of_decide_eq_true (by kernel_rfl)
    omega⟩
theorem keyOf_rest {x : Rst} (h : RstWf x) : ∃ kl, keyOf Tryz.prog 78 (restV x) = some kl := by
  obtain ⟨d, hd⟩ := size_types
  obtain ⟨ls, hls⟩ := lits_rest d h
  have hk : Tryz.prog.keyType 78 = true := deep_rest
  have hf : (restV x).formed Tryz.prog 78 = true := by
    unfold restV Value.formed
    rw [Tryz.underlying78]
    simp [co_rest]
  refine ⟨.string (keyBytes ls), ?_⟩
  unfold keyOf
  rw [Tryz.underlying78]
  simp only [hk, hf, hd, Bool.and_self, if_true]
  unfold restV
  simp only [Value.cells]
  rw [hls]
  rfl
/-- how a tally's elements read -/
structure ElemR (R : Value → Option (DataW Unit × List MemPlace)) (e : TypeId) (z : Value) (zd : DataW Unit) : Prop where
  inj : ∀ v v' d ps ps', R v = some (d, ps) → R v' = some (d, ps') → v = v'
  zero : ∀ w, (zeroValue e).run Tryz.prog w = .ok z w
  zd : R z = some (zd, [])
/-- a map whose entries are good -/
def Tally (R : Value → Option (DataW Unit × List MemPlace)) (zd : DataW Unit) (good : Rst → Value → Prop) (w : World) (q n : Nat) : Prop :=
  ∃ D : DataW Unit, w.ownsMap Tryz.prog 78 R q n D ∧ IsMap D ∧ ∀ x kl, keyOf Tryz.prog 78 (restV x) = some kl → has D kl = true → ∃ v ps, R v = some (D.atKey kl zd, ps) ∧ good x v
section
variable {R : Value → Option (DataW Unit × List MemPlace)} {zd : DataW Unit} {good : Rst → Value → Prop}
theorem Tally.made (w : World) : Tally R zd good (w.alloc (.map #[] 0)) w.heap.size 0 :=
  ⟨.map [], World.ownsMap_made w _ _ _, isMap_empty, fun x kl _ h => by cases h⟩
theorem Tally.lt {w : World} {q n : Nat} (h : Tally R zd good w q n) : q < w.heap.size := by
  obtain ⟨D, h1, _⟩ := h
  exact h1.lt
theorem Tally.keep {w w' : World} {q n : Nat} (h : Tally R zd good w q n) (hk : w'.heap[q]? = w.heap[q]?) : Tally R zd good w' q n := by
  obtain ⟨D, ⟨es, clock, hb, h2⟩, h3⟩ := h
  exact ⟨D, ⟨es, clock, hk.trans hb, h2⟩, h3⟩
theorem Tally.on {w w' : World} {q n : Nat} (h : Tally R zd good w q n) (hb : Below w.heap.size w w') : Tally R zd good w' q n := h.keep (hb.block q h.lt)
theorem Tally.chg {w w' : World} {q n : Nat} {F : List Nat} (h : Tally R zd good w q n) (hc : Chg F w w') (hq : q ∉ F) : Tally R zd good w' q n := h.keep (hc.block q h.lt hq)
theorem Tally.mono {w : World} {q n n' : Nat} (h : Tally R zd good w q n) (hn : n ≤ n') : Tally R zd good w q n' := by
  obtain ⟨D, h1, h2⟩ := h
  exact ⟨D, h1.mono hn, h2⟩
theorem Tally.look {w : World} {q n : Nat} {T e : TypeId} {z : Value} (h : Tally R zd good w q n) (E : ElemR R e z zd) (hT : Tryz.prog.underlying T = some (.map 78 e)) {x : Rst} (hx : RstWf x) :
    (∃ v, (Instr.lookup T (.map (some q)) (restV x) true).run Tryz.prog w = .ok (.tuple #[v, .bool true]) w ∧ good x v) ∨ (Instr.lookup T (.map (some q)) (restV x) true).run Tryz.prog w = .ok (.tuple #[z, .bool false]) w := by
  obtain ⟨D, h1, h0, h2⟩ := h
  obtain ⟨kl, hkl⟩ := keyOf_rest hx
  obtain ⟨v, ps, hrun, hR⟩ := h1.look_ok keyRest hT (E.zero w) E.zd hkl
  cases hh : has D kl with
  | true =>
    obtain ⟨v', ps', hR', hg⟩ := h2 x kl hkl hh
    have := E.inj v v' _ _ _ hR hR'
    subst this
    rw [hh] at hrun
    exact .inl ⟨v, hrun, hg⟩
  | false =>
    rw [atKey_of_not_has hh] at hR
    have := E.inj v z _ _ _ hR E.zd
    subst this
    rw [hh] at hrun
    exact .inr hrun
theorem Tally.put {w : World} {q n : Nat} {T e : TypeId} (h : Tally R zd good w q n) (hT : Tryz.prog.underlying T = some (.map 78 e)) {x : Rst} (hx : RstWf x) (hn : n < maxLen) {v : Value} {d : DataW Unit} (hv : R v = some (d, [])) (hg : good x v) :
    ∃ w', (Instr.mapUpdate T (.map (some q)) (restV x) v).run Tryz.prog w = .ok () w' ∧ Tally R zd good w' q (n + 1) ∧ Chg [q] w w' := by
  obtain ⟨D, h1, h0, h2⟩ := h
  obtain ⟨kl, hkl⟩ := keyOf_rest hx
  obtain ⟨w', hrun, hown, hgr⟩ := h1.update keyRest hT hn hkl hv
  have hk : WideAt.IsKeyLit kl := keyRest.key hkl
  refine ⟨w', hrun, ⟨D.put kl d, hown, h0.put _ _, fun y ky hky hh => ?_⟩, ⟨hgr.os, hgr.tape, hgr.output, hgr.size, fun k hk hn => hgr.block k hk (fun e => hn (by injection e with e; simp [e]))⟩⟩
  by_cases e : ky = kl
  · subst e
    have : x = y := restV_inj (keyRest.inj hkl hky)
    subst this
    exact ⟨v, [], by rw [atKey_put_same h0 hk]; exact hv, hg⟩
  · rw [has_put_other e] at hh
    rw [atKey_put_other e]
    exact h2 y ky hky hh
end
set_option maxRecDepth 100000 in
theorem elem_int : ElemR (plainElem Tryz.prog 3) 3 (.int .i64 0) (.lit (.int .i64 0)) where
  inj := fun v v' d ps ps' h h' => by
    obtain ⟨a, rfl, ha, _⟩ := plainElem_int_inv Tryz.underlying3 h
    obtain ⟨b, rfl, hb, _⟩ := plainElem_int_inv Tryz.underlying3 h'
    injection ha with ha
    injection hb with hb
    rw [ha] at hb
    injection hb with hb
    injection hb with _ hb
    rw [hb]
  zero := fun w => by kernel_rfl
  zd := plainElem_int Tryz.underlying3 (by decide)
end Go.Proofs.YtciokbngjfeihaaGreat
end

section
namespace Go.Proofs.YtciokbngjfeihaaGreat
open Go Go.RowKit Go.Maps
set_option linter.unusedSimpArgs false
set_option linter.unusedVariables false

/-- an entry of the tally: how many members there are -/
def goodC (cs : List (Option Rec)) (n : Nat) (f : Int) (x : Rst) (v : Value) : Prop := x.inn = true → v = .int .i64 ((cntR cs n f ((n : Int) - x.l).toNat x : Nat) : Int)
abbrev TallyC (cs : List (Option Rec)) (n : Nat) (f : Int) := Tally (plainElem Tryz.prog 3) (.lit (.int .i64 0)) (goodC cs n f)
/-- what count stands on -/
structure TlAt (w : World) (F : List Nat) (gs go n room cb : Nat) (cs : List (Option Rec)) (free : List Int) (f : Int) (q : Nat) : Prop where
  st : StoreAt w F gs n room cs free
  ca : CastAt w cb gs go f n
  hcs : ∀ id r, recAt cs id = some r → r.Wf ∧ r.top ≤ r.bot ∧ r.bot < n
  qF : q ∉ F
  qc : cb ≠ q
theorem TlAt.chg {w w' : World} {F : List Nat} {gs go n room cb : Nat} {cs : List (Option Rec)} {free : List Int} {f : Int} {q : Nat} (h : TlAt w F gs go n room cb cs free f q) (hc : Chg [q] w w') : TlAt w' F gs go n room cb cs free f q :=
  ⟨h.st.chg hc (fun k hk hm => by simp at hm; subst hm; exact h.qF hk), h.ca.chg hc (by simpa using h.qc), h.hcs, h.qF, h.qc⟩
def TlPost (cs : List (Option Rec)) (n : Nat) (f : Int) (c : Nat) (w : World) (q N : Nat) (e : Ending) (w' : World) : Prop := e = .returned (.int .i64 (c : Int)) ∧ TallyC cs n f w' q N ∧ Chg [q] w w'
theorem chg_thenB {F : List Nat} {w w' w'' : World} (h : Chg F w w') (hb : Below w'.heap.size w' w'') : Chg F w w'' := h.trans (chg_of_below (F := []) hb) (fun x hx => by cases hx)
theorem chg_thenC {q : Nat} {w w' w'' : World} (h : Chg [q] w w') (hb : Chg [q] w' w'') : Chg [q] w w'' := h.trans hb (fun x hx => .inl hx)
theorem wf_i64 {n : Int} (h : 0 ≤ n ∧ n ≤ 1000000) : (Lit.int .i64 n).wf = true := by
  have : -9223372036854775808 ≤ n ∧ n ≤ 9223372036854775807 := by omega
  simpa [Lit.wf, IntKind.min, IntKind.max, IntKind.signed, IntKind.bits] using this
theorem world_gen {Q : World → Prop} {w : World} (R : World → Prop) (h : R w) (k : ∀ W, R W → Q W) : Q w := k w h
theorem pow_m1 (m N : Nat) : N + (2 ^ m - 1) + (2 ^ m - 1) + 1 = N + (2 ^ (m + 1) - 1) := by
  have := Nat.two_pow_pos m
  rw [Nat.pow_succ]
  omega
theorem pow_le16 {m : Nat} (h : m ≤ 16) : 2 ^ m ≤ 65536 := Nat.le_trans (Nat.pow_le_pow_right (by omega) h) (by decide)

set_option maxRecDepth 200000 in
set_option maxHeartbeats 16000000 in
theorem count_any (F : List Nat) (gs go n room cb : Nat) (cs : List (Option Rec)) (free : List Int) (f : Int) (q : Nat) :
    ∀ (m : Nat) (x : Rst) (lv N : Nat) (w : World), lv + m = n → RstOk n lv x → TlAt w F gs go n room cb cs free f q → TallyC cs n f w q N → N + 2 ^ m ≤ 1000000 →
    Calls Tryz.prog 44 #[.pointer (some ⟨cb, 0, none⟩), .agg #[.bool x.inn, .bool x.node, .int .u8 x.r.form, .int .u8 x.r.top, .int .u8 x.r.bot, .int .u8 x.r.lo.tag, .int .u32 x.r.lo.pos, .int .u8 x.r.hi.tag, .int .u32 x.r.hi.pos, .int .u8 x.tag, .int .u8 x.l], .map (some q)] w (TlPost cs n f (cntR cs n f m x) w q (N + (2 ^ m - 1))) := by
  intro m
  induction m with
  | zero =>
    intro x lv N w hm hx hC hT hN
    have hn16 := hC.st.ok.n16
    obtain ⟨W, hW⟩ : ∃ W, W = w.alloc (.cells #[.bool x.inn, .bool x.node, .int .u8 x.r.form, .int .u8 x.r.top, .int .u8 x.r.bot, .int .u8 x.r.lo.tag, .int .u32 x.r.lo.pos, .int .u8 x.r.hi.tag, .int .u32 x.r.hi.pos, .int .u8 x.tag, .int .u8 x.l] 78) := ⟨_, rfl⟩
    have hbW : Below w.heap.size w W := by rw [hW]; exact (Below.refl _ _).alloc (Nat.le_refl _) _
    have hK : Blk W w.heap.size 78 #[.bool x.inn, .bool x.node, .int .u8 x.r.form, .int .u8 x.r.top, .int .u8 x.r.bot, .int .u8 x.r.lo.tag, .int .u32 x.r.lo.pos, .int .u8 x.r.hi.tag, .int .u32 x.r.hi.pos, .int .u8 x.tag, .int .u8 x.l] := by rw [hW]; exact Blk.new w _ _
    have k0 := hK.cell 0
    cases hin : x.inn with
    | false =>
      have HFIN : Hid (TlPost cs n f (cntR cs n f 0 x) w q (N + (2 ^ 0 - 1)) (.returned (.int .i64 0)) W) := Lib.hid ⟨by rw [cntR_out hin]; rfl, hT.on hbW, chg_of_below hbW⟩
      rw [hin] at hK k0 hW
      have HWW := Lib.hid hW
      clear hC hK hbW hx hT
      go_enter Tryz.func44, Tryz.ntmps44
      go_wp2_with fail
      rw [← HWW.out]
      go_ret
      exact HFIN.out
    | true =>
      have hl := hx.l hin
      have hl0 : x.l = (n : Int) := by omega
      have HFIN : Hid (∀ W', Below W.heap.size W W' → TlPost cs n f (cntR cs n f 0 x) w q (N + (2 ^ 0 - 1)) (.returned (.int .i64 1)) W') := Lib.hid (fun W' hW' => by
        have hb := hbW.trans (hW'.mono hbW.size)
        exact ⟨by rw [cntR_zero, if_pos hin]; rfl, hT.on hb, chg_of_below hb⟩)
      have k10 : W.cell? ⟨w.heap.size, 10, none⟩ = some (.int .u8 x.l) := hK.cell 10
      rw [hl0] at k10
      have c3 : W.cell? ⟨cb, 3, none⟩ = some (.int .i64 (n : Nat)) := (hC.ca.onB hbW).cell 3
      have hcv : IntKind.i64.wrap (n : Int) = (n : Int) := IntWalk.i64_in _ ⟨by omega, by omega⟩
      rw [hin] at k0 hW
      clear hl hl0
      have HWW := Lib.hid hW
      clear hC hK hbW hx hT hW
      go_enter Tryz.func44, Tryz.ntmps44
      go_wp2_with fail
      rw [← HWW.out]
      go_quiet (fail)
      go_wp2_with fail
      go_ret
      exact HFIN.out _ (below_drewN (Below.refl _ _) _)
  | succ m ih =>
    intro x lv N w hm hx hC hT hN
    have hn16 := hC.st.ok.n16
    have hp16 := pow_le16 (m := m + 1) (by omega)
    have hp1 := Nat.two_pow_pos m
    have hpm := pow_m1 m N
    have hps : 2 ^ (m + 1) = 2 * 2 ^ m := by rw [Nat.pow_succ]; omega
    obtain ⟨W, hW⟩ : ∃ W, W = w.alloc (.cells #[.bool x.inn, .bool x.node, .int .u8 x.r.form, .int .u8 x.r.top, .int .u8 x.r.bot, .int .u8 x.r.lo.tag, .int .u32 x.r.lo.pos, .int .u8 x.r.hi.tag, .int .u32 x.r.hi.pos, .int .u8 x.tag, .int .u8 x.l] 78) := ⟨_, rfl⟩
    have hbW : Below w.heap.size w W := by rw [hW]; exact (Below.refl _ _).alloc (Nat.le_refl _) _
    have hK : Blk W w.heap.size 78 #[.bool x.inn, .bool x.node, .int .u8 x.r.form, .int .u8 x.r.top, .int .u8 x.r.bot, .int .u8 x.r.lo.tag, .int .u32 x.r.lo.pos, .int .u8 x.r.hi.tag, .int .u32 x.r.hi.pos, .int .u8 x.tag, .int .u8 x.l] := by rw [hW]; exact Blk.new w _ _
    have k0 := hK.cell 0
    cases hin : x.inn with
    | false =>
      have HFIN : Hid (TlPost cs n f (cntR cs n f (m + 1) x) w q (N + (2 ^ (m + 1) - 1)) (.returned (.int .i64 0)) W) := Lib.hid ⟨by rw [cntR_out hin]; rfl, (hT.on hbW).mono (by omega), chg_of_below hbW⟩
      rw [hin] at hK k0 hW
      have HWW := Lib.hid hW
      clear hC hK hbW hx hT ih hp16 hp1 hpm hps
      go_enter Tryz.func44, Tryz.ntmps44
      go_wp2_with fail
      rw [← HWW.out]
      go_ret
      exact HFIN.out
    | true =>
      have hl := hx.l hin
      have hll : x.l < (n : Int) := by omega
      have hl0 := hx.ln
      have hlv : ((n : Int) - x.l).toNat = m + 1 := by omega
      obtain ⟨xa, hxa⟩ : ∃ xa, xa = halfR cs n f x false := ⟨_, rfl⟩
      obtain ⟨xb, hxb⟩ : ∃ xb, xb = halfR cs n f x true := ⟨_, rfl⟩
      have oka : RstOk n (lv + 1 : Nat) xa := by rw [hxa]; exact halfR_ok (by omega) (by omega) hx hin (by omega) hC.hcs
      have okb : RstOk n (lv + 1 : Nat) xb := by rw [hxb]; exact halfR_ok (by omega) (by omega) hx hin (by omega) hC.hcs
      have hcnt : cntR cs n f (m + 1) x = cntR cs n f m xa + cntR cs n f m xb := by rw [cntR_succ, if_pos hin, hxa, hxb]
      have hca := cntR_le (cs := cs) (n := n) (f := f) m xa
      have hcb := cntR_le (cs := cs) (n := n) (f := f) m xb
      have hpm16 := pow_le16 (m := m) (by omega)
      have hhalf : ∀ (one : Bool) (y' : Rst) W', y' = halfR cs n f x one → TlAt W' F gs go n room cb cs free f q → Calls Tryz.prog 47 #[.pointer (some ⟨cb, 0, none⟩), .agg #[.bool true, .bool x.node, .int .u8 x.r.form, .int .u8 x.r.top, .int .u8 x.r.bot, .int .u8 x.r.lo.tag, .int .u32 x.r.lo.pos, .int .u8 x.r.hi.tag, .int .u32 x.r.hi.pos, .int .u8 x.tag, .int .u8 x.l], .bool one] W' fun e w' => e = .returned (.agg #[.bool y'.inn, .bool y'.node, .int .u8 y'.r.form, .int .u8 y'.r.top, .int .u8 y'.r.bot, .int .u8 y'.r.lo.tag, .int .u32 y'.r.lo.pos, .int .u8 y'.r.hi.tag, .int .u32 y'.r.hi.pos, .int .u8 y'.tag, .int .u8 y'.l]) ∧ Below W'.heap.size W' w' := fun one y' W' hy' h' => by
        have := half_any F gs go n room cb cs free f x lv one W' h'.st h'.ca hx hin (by omega) hC.hcs
        unfold Rst.cells at this
        rw [hin] at this
        rw [hy']
        exact this
      rw [hin] at hK hW
      have hkl := hK.lt
      have hCW := hC.chg (chg_of_below hbW)
      have hTW := hT.on hbW
      have hqw : q < w.heap.size := hT.lt
      have HWF : Hid (RstWf x) := Lib.hid (hx.wf' (by omega))
      have HLK := Lib.hid (fun V (hV : Below W.heap.size W V) => (hTW.on hV).look elem_int Tryz.underlying99 (hx.wf' (by omega)))
      have HTW := Lib.hid hTW
      have HCW := Lib.hid hCW
      have HBW := Lib.hid hbW
      have HB0 := Lib.hid hkl
      have HQW := Lib.hid hqw
      have FACTS : Hid (∀ W', Chg [q] W W' → W'.cell? ⟨w.heap.size, 0, none⟩ = some (.bool true) ∧ W'.cell? ⟨w.heap.size, 1, none⟩ = some (.bool x.node) ∧ W'.cell? ⟨w.heap.size, 2, none⟩ = some (.int .u8 x.r.form) ∧ W'.cell? ⟨w.heap.size, 3, none⟩ = some (.int .u8 x.r.top) ∧ W'.cell? ⟨w.heap.size, 4, none⟩ = some (.int .u8 x.r.bot) ∧ W'.cell? ⟨w.heap.size, 5, none⟩ = some (.int .u8 x.r.lo.tag) ∧ W'.cell? ⟨w.heap.size, 6, none⟩ = some (.int .u32 x.r.lo.pos) ∧ W'.cell? ⟨w.heap.size, 7, none⟩ = some (.int .u8 x.r.hi.tag) ∧ W'.cell? ⟨w.heap.size, 8, none⟩ = some (.int .u32 x.r.hi.pos) ∧ W'.cell? ⟨w.heap.size, 9, none⟩ = some (.int .u8 x.tag) ∧ W'.cell? ⟨w.heap.size, 10, none⟩ = some (.int .u8 x.l)) := Lib.hid (fun W' hW' => by
        have h := hK.chg hW' (by simp; omega)
        exact ⟨h.cell 0, h.cell 1, h.cell 2, h.cell 3, h.cell 4, h.cell 5, h.cell 6, h.cell 7, h.cell 8, h.cell 9, h.cell 10⟩)
      have HHA := Lib.hid (fun W' (h : Chg [q] W W') => hhalf false xa W' hxa (hCW.chg h))
      have HHB := Lib.hid (fun W' (h : Chg [q] W W') => hhalf true xb W' hxb (hCW.chg h))
      have HCA := Lib.hid (fun W' (h : Chg [q] W W') (hT' : TallyC cs n f W' q N) => ih xa (lv + 1) N W' (by omega) oka (hCW.chg h) hT' (by omega))
      have HCB := Lib.hid (fun W' (h : Chg [q] W W') (hT' : TallyC cs n f W' q (N + (2 ^ m - 1))) => ih xb (lv + 1) (N + (2 ^ m - 1)) W' (by omega) okb (hCW.chg h) hT' (by omega))
      have c3 : W.cell? ⟨cb, 3, none⟩ = some (.int .i64 (n : Nat)) := hCW.ca.cell 3
      have hcl := Blk.lt hCW.ca
      obtain ⟨k0, k1, k2, k3, k4, k5, k6, k7, k8, k9, k10⟩ := FACTS.out W (Chg.refl _ _)
      have hcv : IntKind.i64.wrap x.l = x.l := IntWalk.i64_in _ ⟨by omega, by omega⟩
      have hne : (x.l == (n : Int)) = false := by rw [beq_eq_false_iff_ne]; omega
      have HWW := Lib.hid hW
      have HLV := Lib.hid hlv
      have HCN := Lib.hid hcnt
      have HIN := Lib.hid hin
      clear hC hK hbW hx hT ih hp16 hp1 hpm hps hhalf hW hxa hxb oka okb hCW hTW hlv hcnt hin hl
      go_enter Tryz.func44, Tryz.ntmps44
      go_wp2_with fail
      rw [← HWW.out]
      go_quiet (fail)
      refine world_gen (fun V => Below W.heap.size W V) (below_drewN (Below.refl _ _) _) ?_
      intro V hbV
      obtain ⟨k0, k1, k2, k3, k4, k5, k6, k7, k8, k9, k10⟩ := FACTS.out V (chg_of_below hbV)
      rcases HLK.out V hbV with ⟨v, hrun, hg⟩ | hrun
      · have hv := hg HIN.out
        rw [HLV.out] at hv
        subst hv
        have HFIN : Hid (TlPost cs n f (cntR cs n f (m + 1) x) w q (N + (2 ^ (m + 1) - 1)) (.returned (.int .i64 ((cntR cs n f (m + 1) x : Nat) : Int))) V) := Lib.hid (by
          have hb := HBW.out.trans (hbV.mono HBW.out.size)
          exact ⟨rfl, (HTW.out.on hbV).mono (by omega), chg_of_below hb⟩)
        unfold restV at hrun
        rw [HIN.out] at hrun
        clear hbV hg
        go_wp2_with fail
        go_ret
        exact HFIN.out
      · unfold restV at hrun
        rw [HIN.out] at hrun
        have c0 : Chg [q] W V := chg_of_below hbV
        generalize hna : cntR cs (↑n) f m xa = na at *
        generalize hnb : cntR cs (↑n) f m xb = nb at *
        have hsum : IntKind.i64.wrap ((na : Int) + (nb : Int)) = (na : Int) + (nb : Int) := IntWalk.i64_in _ ⟨by omega, by omega⟩
        have h0 : (0 : Int) ≤ (na : Int) + (nb : Int) := by omega
        have HNA := Lib.hid hna
        have HNB := Lib.hid hnb
        clear hna hnb c3 hne hcv
        go_wp2_with fail
        go_region_held3 (fun w' => w'.cell? ⟨w.heap.size, 0, none⟩ = some (.bool true) ∧ w'.cell? ⟨w.heap.size, 1, none⟩ = some (.bool x.node) ∧ w'.cell? ⟨w.heap.size, 2, none⟩ = some (.int .u8 x.r.form) ∧ w'.cell? ⟨w.heap.size, 3, none⟩ = some (.int .u8 x.r.top) ∧ w'.cell? ⟨w.heap.size, 4, none⟩ = some (.int .u8 x.r.bot) ∧ w'.cell? ⟨w.heap.size, 5, none⟩ = some (.int .u8 x.r.lo.tag) ∧ w'.cell? ⟨w.heap.size, 6, none⟩ = some (.int .u32 x.r.lo.pos) ∧ w'.cell? ⟨w.heap.size, 7, none⟩ = some (.int .u8 x.r.hi.tag) ∧ w'.cell? ⟨w.heap.size, 8, none⟩ = some (.int .u32 x.r.hi.pos) ∧ w'.cell? ⟨w.heap.size, 9, none⟩ = some (.int .u8 x.tag) ∧ w'.cell? ⟨w.heap.size, 10, none⟩ = some (.int .u8 x.l)) ((refine FACTS.out _ ?_; with_reducible (first | exact c0 | exact c0.drew | exact c2 | exact c2.drew | exact c3' | exact c3'.drew | exact c4 | exact c4.drew | exact c5 | exact c5.drew))) (first | ((with_reducible show Calls _ 44 #[_, .agg #[.bool xb.inn, _, _, _, _, _, _, _, _, _, _], _] _ _); refine (HCB.out _ (by with_reducible (first | exact c4 | exact c4.drew)) (by first | exact ht4 | exact Tally.keep ht4 rfl)).mono ?_; rintro e w5 ⟨rfl, ht5, hc5⟩; have c5 : Chg [q] W w5 := (by with_reducible (first | exact chg_thenC c4 hc5 | exact chg_thenC c4.drew hc5)); clear hc5) | ((with_reducible show Calls _ 47 #[_, _, .bool true] _ _); refine (HHB.out _ (by with_reducible (first | exact c3' | exact c3'.drew))).mono ?_; rintro e w4 ⟨rfl, hb4⟩; have c4 : Chg [q] W w4 := (by with_reducible (first | exact chg_thenB c3' hb4 | exact chg_thenB c3'.drew hb4)); have ht4 : TallyC cs n f w4 q (N + (2 ^ m - 1)) := (by with_reducible (first | exact ht3.on hb4 | exact Tally.on (w := World.drew _) ht3 hb4)); clear hb4) | ((with_reducible show Calls _ 44 #[_, .agg #[.bool xa.inn, _, _, _, _, _, _, _, _, _, _], _] _ _); refine (HCA.out _ (by with_reducible (first | exact c2 | exact c2.drew)) (by with_reducible (first | exact HTW.out.on hbel2 | exact HTW.out.on hbel2.drew))).mono ?_; rintro e w3 ⟨rfl, ht3, hc3⟩; have c3' : Chg [q] W w3 := (by with_reducible (first | exact chg_thenC c2 hc3 | exact chg_thenC c2.drew hc3)); clear hc3) | ((with_reducible show Calls _ 47 #[_, _, .bool false] _ _); refine (HHA.out _ (by with_reducible (first | exact c0 | exact c0.drew))).mono ?_; rintro e w2 ⟨rfl, hb2⟩; have hbel2 : Below W.heap.size W w2 := (by with_reducible (first | exact hbV.trans (hb2.mono hbV.size) | exact hbV.drew.trans (hb2.mono hbV.drew.size))); have c2 : Chg [q] W w2 := chg_of_below hbel2; clear hb2) | fail)
        refine world_gen (fun V2 => Chg [q] W V2 ∧ TallyC cs n f V2 q (N + (2 ^ m - 1) + (2 ^ m - 1))) (by first | exact ⟨c5, ht5⟩ | exact ⟨c5.drew, Tally.keep ht5 rfl⟩) ?_
        rintro V2 ⟨cV, tV⟩
        clear k0 k1 k2 k3 k4 k5 k6 k7 k8 k9 k10 hrun ht3 ht4 ht5 c0 c2 c3' c4 c5 hbel2 hbV
        obtain ⟨k0, k1, k2, k3, k4, k5, k6, k7, k8, k9, k10⟩ := FACTS.out V2 cV
        have hgood : goodC cs n f x (.int .i64 ((na : Int) + (nb : Int))) := fun _ => by
          rw [HLV.out, HCN.out]; rfl
        obtain ⟨w6, hput, t6, c6⟩ := tV.put Tryz.underlying99 HWF.out (by unfold maxLen; omega) (plainElem_int Tryz.underlying3 (wf_i64 (by omega))) hgood
        unfold restV at hput
        rw [HIN.out] at hput
        rw [pow_m1] at t6
        have HFIN : Hid (TlPost cs n f (cntR cs n f (m + 1) x) w q (N + (2 ^ (m + 1) - 1)) (.returned (.int .i64 ((na : Int) + (nb : Int)))) w6) := Lib.hid ⟨by rw [HCN.out]; rfl, t6, chg_thenC (chg_of_below HBW.out) (chg_thenC cV c6)⟩
        clear t6 c6 tV cV hgood
        go_wp2_with fail
        go_ret
        exact HFIN.out
end Go.Proofs.YtciokbngjfeihaaGreat
end
