/- A map whose keys are what is left of an edge (a struct of 11 cells): what a kept tally is good for. Contract: member.count: how many members what is left has; what it keeps. -/
import Derived.Test.YtpjciaomhfeeeaaGreatMah
import Derived.Test.YtpjciaomhfeeeaaGreatMa
import Derived.Maps.Own
import Derived.Maps.OwnOps
import Derived.Maps.OwnSet
import Derived.Maps.Views
import Derived.DeepKeys4
import Derived.Test.YtpjciaomhfeeeaaGreatRnkP
import Derived.Test.YtpjciaomhfeeeaaGreatMbrB
section
namespace Go.Proofs.YtpjciaomhfeeeaaGreat
open Go Go.RowKit Go.Maps
set_option linter.unusedSimpArgs false
set_option linter.unusedVariables false

theorem row_rest : 72 < Tryz.prog.types.size := of_decide_eq_true (by kernel_rfl)
theorem deep_rest : Tryz.prog.keyTypeAt (Tryz.prog.types.size + 1) 72 = true := by kernel_rfl
theorem wide_rest : (match Tryz.prog.underlying 72 with | some (.array _ _) | some (.struct _) => true | _ => false) = true := by rw [Tryz.underlying72]
theorem laid_rest : laidOutB Tryz.prog = true := by kernel_rfl
set_option maxRecDepth 100000 in
theorem keyRest : Keyed Tryz.prog 72 := Keyed.of_law (deep_law_laid laid_rest (m := 9) (by omega) row_rest (by kernel_rfl) wide_rest)
/-- what is left, as a key -/
def restV (x : Rst) : Value := .agg #[.bool x.inn, .bool x.node, .int .u8 x.r.form, .int .u8 x.r.top, .int .u8 x.r.bot, .int .u8 x.r.lo.tag, .int .u32 x.r.lo.pos, .int .u8 x.r.hi.tag, .int .u32 x.r.hi.pos, .int .u8 x.tag, .int .u8 x.l]
set_option maxRecDepth 10000 in
theorem restV_inj {x y : Rst} (h : restV x = restV y) : x = y := by
  obtain ⟨i, nd, ⟨rf, rt, rb, ⟨a, b⟩, ⟨c, d⟩⟩, t, l⟩ := x
  obtain ⟨i', nd', ⟨rf', rt', rb', ⟨a', b'⟩, ⟨c', d'⟩⟩, t', l'⟩ := y
  unfold restV at h
  injection h with h
  simp at h
  obtain ⟨h1, h2, h3, h4, h5, h6, h7, h8, h9, h10, h11⟩ := h
  subst h1 h2 h3 h4 h5 h6 h7 h8 h9 h10 h11
  rfl
/-- the fields are numbers of their kinds -/
def RstWf (x : Rst) : Prop := x.r.Wf ∧ (0 ≤ x.tag ∧ x.tag ≤ 255) ∧ 0 ≤ x.l ∧ x.l ≤ 255
theorem RstOk.wf' {n l : Int} {x : Rst} (h : RstOk n l x) (hn : n ≤ 16) : RstWf x := ⟨h.wf, h.tag, h.ln.1, by have := h.ln.2; omega⟩
theorem wf_u8 {n : Int} (h : 0 ≤ n ∧ n ≤ 255) : (Lit.int .u8 n).wf = true := by simpa [Lit.wf, IntKind.min, IntKind.max, IntKind.signed, IntKind.bits] using h
theorem wf_u32 {n : Int} (h : 0 ≤ n ∧ n ≤ 4294967295) : (Lit.int .u32 n).wf = true := by simpa [Lit.wf, IntKind.min, IntKind.max, IntKind.signed, IntKind.bits] using h
section
theorem lits_bool (d : Nat) (b : Bool) : Tryz.prog.keyLits (d + 1) 4 [.bool b] = some [.bool b] := by
  unfold Program.keyLits
  rw [Tryz.underlying4]
theorem lits_u8 (d : Nat) {n : Int} (h : (Lit.int .u8 n).wf = true) : Tryz.prog.keyLits (d + 1) 5 [.int .u8 n] = some [.int .u8 n] := by
  unfold Program.keyLits
  rw [Tryz.underlying5]; simp [h]
theorem lits_form (d : Nat) {n : Int} (h : (Lit.int .u8 n).wf = true) : Tryz.prog.keyLits (d + 1) 32 [.int .u8 n] = some [.int .u8 n] := by
  unfold Program.keyLits
  rw [Tryz.underlying32]; simp [h]
theorem lits_u32 (d : Nat) {n : Int} (h : (Lit.int .u32 n).wf = true) : Tryz.prog.keyLits (d + 1) 24 [.int .u32 n] = some [.int .u32 n] := by
  unfold Program.keyLits
  rw [Tryz.underlying24]; simp [h]
end
theorem co_bool : Tryz.prog.cellsOf 4 = 1 := by kernel_rfl
theorem co_u8 : Tryz.prog.cellsOf 5 = 1 := by kernel_rfl
theorem co_form : Tryz.prog.cellsOf 32 = 1 := by kernel_rfl
theorem co_u32 : Tryz.prog.cellsOf 24 = 1 := by kernel_rfl
theorem co_edge : Tryz.prog.cellsOf 26 = 2 := by kernel_rfl
theorem co_rec : Tryz.prog.cellsOf 62 = 7 := by kernel_rfl
theorem co_rest : Tryz.prog.cellsOf 72 = 11 := by kernel_rfl
theorem lits_edge (d : Nat) {t p : Int} (ht : (Lit.int .u8 t).wf = true) (hp : (Lit.int .u32 p).wf = true) : Tryz.prog.keyLits (d + 2) 26 [.int .u8 t, .int .u32 p] = some [.int .u8 t, .int .u32 p] := by
  unfold Program.keyLits
  rw [Tryz.underlying26]
  simp [co_edge, co_u8, co_u32, lits_u8 d ht, lits_u32 d hp]
theorem lits_rec (d : Nat) {r : Rec} (h : r.Wf) : Tryz.prog.keyLits (d + 3) 62 [.int .u8 r.form, .int .u8 r.top, .int .u8 r.bot, .int .u8 r.lo.tag, .int .u32 r.lo.pos, .int .u8 r.hi.tag, .int .u32 r.hi.pos] = some [.int .u8 r.form, .int .u8 r.top, .int .u8 r.bot, .int .u8 r.lo.tag, .int .u32 r.lo.pos, .int .u8 r.hi.tag, .int .u32 r.hi.pos] := by
  obtain ⟨h1, h2, h3, h4, h5⟩ := h
  unfold Program.keyLits
  rw [Tryz.underlying62]
  simp [co_rec, co_edge, co_u8, co_form, lits_form (d + 1) (wf_u8 h1), lits_u8 (d + 1) (wf_u8 h2), lits_u8 (d + 1) (wf_u8 h3), lits_edge d (wf_u8 ⟨h4.1, h4.2.1⟩) (wf_u32 h4.2.2), lits_edge d (wf_u8 ⟨h5.1, h5.2.1⟩) (wf_u32 h5.2.2)]
theorem lits_rest (d : Nat) {x : Rst} (h : RstWf x) : ∃ ls, Tryz.prog.keyLits (d + 4) 72 [.bool x.inn, .bool x.node, .int .u8 x.r.form, .int .u8 x.r.top, .int .u8 x.r.bot, .int .u8 x.r.lo.tag, .int .u32 x.r.lo.pos, .int .u8 x.r.hi.tag, .int .u32 x.r.hi.pos, .int .u8 x.tag, .int .u8 x.l] = some ls := by
  obtain ⟨h1, h2, h3⟩ := h
  unfold Program.keyLits
  rw [Tryz.underlying72]
  simp [co_rest, co_rec, co_bool, co_u8, lits_bool, lits_rec d h1, lits_u8 (d + 2) (wf_u8 h2), lits_u8 (d + 2) (wf_u8 h3)]
theorem size_types : ∃ d, Tryz.prog.types.size + 1 = d + 4 := 
  ⟨Tryz.prog.types.size - 3, by
    have h : 3 ≤ Tryz.prog.types.size := of_decide_eq_true (by kernel_rfl)
    omega⟩
theorem keyOf_rest {x : Rst} (h : RstWf x) : ∃ kl, keyOf Tryz.prog 72 (restV x) = some kl := by
  obtain ⟨d, hd⟩ := size_types
  obtain ⟨ls, hls⟩ := lits_rest d h
  have hk : Tryz.prog.keyType 72 = true := deep_rest
  have hf : (restV x).formed Tryz.prog 72 = true := by
    unfold restV Value.formed
    rw [Tryz.underlying72]
    simp [co_rest]
  refine ⟨.string (keyBytes ls), ?_⟩
  unfold keyOf
  rw [Tryz.underlying72]
  simp only [hk, hf, hd, Bool.and_self, if_true]
  unfold restV
  simp only [Value.cells]
  rw [hls]
  rfl
/-- how a tally's elements read -/
structure ElemR (R : Value → Option (DataW Unit × List MemPlace)) (e : TypeId) (z : Value) (zd : DataW Unit) : Prop where
  inj : ∀ v v' d ps ps', R v = some (d, ps) → R v' = some (d, ps') → v = v'
  zero : ∀ w, (zeroValue e).run Tryz.prog w = .ok z w
  zd : R z = some (zd, [])
/-- a map whose entries are good -/
def Tally (R : Value → Option (DataW Unit × List MemPlace)) (zd : DataW Unit) (good : Rst → Value → Prop) (w : World) (q n : Nat) : Prop :=
  ∃ D : DataW Unit, w.ownsMap Tryz.prog 72 R q n D ∧ IsMap D ∧ ∀ x kl, keyOf Tryz.prog 72 (restV x) = some kl → has D kl = true → ∃ v ps, R v = some (D.atKey kl zd, ps) ∧ good x v
section
variable {R : Value → Option (DataW Unit × List MemPlace)} {zd : DataW Unit} {good : Rst → Value → Prop}
theorem Tally.made (w : World) : Tally R zd good (w.alloc (.map #[] 0)) w.heap.size 0 :=
  ⟨.map [], World.ownsMap_made w _ _ _, isMap_empty, fun x kl _ h => by cases h⟩
theorem Tally.lt {w : World} {q n : Nat} (h : Tally R zd good w q n) : q < w.heap.size := by
  obtain ⟨D, h1, _⟩ := h
  exact h1.lt
theorem Tally.keep {w w' : World} {q n : Nat} (h : Tally R zd good w q n) (hk : w'.heap[q]? = w.heap[q]?) : Tally R zd good w' q n := by
  obtain ⟨D, ⟨es, clock, hb, h2⟩, h3⟩ := h
  exact ⟨D, ⟨es, clock, hk.trans hb, h2⟩, h3⟩
theorem Tally.on {w w' : World} {q n : Nat} (h : Tally R zd good w q n) (hb : Below w.heap.size w w') : Tally R zd good w' q n := h.keep (hb.block q h.lt)
theorem Tally.chg {w w' : World} {q n : Nat} {F : List Nat} (h : Tally R zd good w q n) (hc : Chg F w w') (hq : q ∉ F) : Tally R zd good w' q n := h.keep (hc.block q h.lt hq)
theorem Tally.mono {w : World} {q n n' : Nat} (h : Tally R zd good w q n) (hn : n ≤ n') : Tally R zd good w q n' := by
  obtain ⟨D, h1, h2⟩ := h
  exact ⟨D, h1.mono hn, h2⟩
theorem Tally.look {w : World} {q n : Nat} {T e : TypeId} {z : Value} (h : Tally R zd good w q n) (E : ElemR R e z zd) (hT : Tryz.prog.underlying T = some (.map 72 e)) {x : Rst} (hx : RstWf x) :
    (∃ v, (Instr.lookup T (.map (some q)) (restV x) true).run Tryz.prog w = .ok (.tuple #[v, .bool true]) w ∧ good x v) ∨ (Instr.lookup T (.map (some q)) (restV x) true).run Tryz.prog w = .ok (.tuple #[z, .bool false]) w := by
  obtain ⟨D, h1, h0, h2⟩ := h
  obtain ⟨kl, hkl⟩ := keyOf_rest hx
  obtain ⟨v, ps, hrun, hR⟩ := h1.look_ok keyRest hT (E.zero w) E.zd hkl
  cases hh : has D kl with
  | true =>
    obtain ⟨v', ps', hR', hg⟩ := h2 x kl hkl hh
    have := E.inj v v' _ _ _ hR hR'
    subst this
    rw [hh] at hrun
    exact .inl ⟨v, hrun, hg⟩
  | false =>
    rw [atKey_of_not_has hh] at hR
    have := E.inj v z _ _ _ hR E.zd
    subst this
    rw [hh] at hrun
    exact .inr hrun
theorem Tally.put {w : World} {q n : Nat} {T e : TypeId} (h : Tally R zd good w q n) (hT : Tryz.prog.underlying T = some (.map 72 e)) {x : Rst} (hx : RstWf x) (hn : n < maxLen) {v : Value} {d : DataW Unit} (hv : R v = some (d, [])) (hg : good x v) :
    ∃ w', (Instr.mapUpdate T (.map (some q)) (restV x) v).run Tryz.prog w = .ok () w' ∧ Tally R zd good w' q (n + 1) ∧ Chg [q] w w' := by
  obtain ⟨D, h1, h0, h2⟩ := h
  obtain ⟨kl, hkl⟩ := keyOf_rest hx
  obtain ⟨w', hrun, hown, hgr⟩ := h1.update keyRest hT hn hkl hv
  have hk : WideAt.IsKeyLit kl := keyRest.key hkl
  refine ⟨w', hrun, ⟨D.put kl d, hown, h0.put _ _, fun y ky hky hh => ?_⟩, ⟨hgr.os, hgr.tape, hgr.output, hgr.size, fun k hk hn => hgr.block k hk (fun e => hn (by injection e with e; simp [e]))⟩⟩
  by_cases e : ky = kl
  · subst e
    have : x = y := restV_inj (keyRest.inj hkl hky)
    subst this
    exact ⟨v, [], by rw [atKey_put_same h0 hk]; exact hv, hg⟩
  · rw [has_put_other e] at hh
    rw [atKey_put_other e]
    exact h2 y ky hky hh
end
set_option maxRecDepth 100000 in
theorem elem_int : ElemR (plainElem Tryz.prog 3) 3 (.int .i64 0) (.lit (.int .i64 0)) where
  inj := fun v v' d ps ps' h h' => by
    obtain ⟨a, rfl, ha, _⟩ := plainElem_int_inv Tryz.underlying3 h
    obtain ⟨b, rfl, hb, _⟩ := plainElem_int_inv Tryz.underlying3 h'
    injection ha with ha
    injection hb with hb
    rw [ha] at hb
    injection hb with hb
    injection hb with _ hb
    rw [hb]
  zero := fun w => by kernel_rfl
  zd := plainElem_int Tryz.underlying3 (by decide)
end Go.Proofs.YtpjciaomhfeeeaaGreat
end

section
namespace Go.Proofs.YtpjciaomhfeeeaaGreat
open Go Go.RowKit Go.Maps
set_option linter.unusedSimpArgs false
set_option linter.unusedVariables false

/-- an entry of the tally: how many members there are -/
def goodC (cs : List (Option Rec)) (n : Nat) (f : Int) (x : Rst) (v : Value) : Prop := x.inn = true → v = .int .i64 ((cntR cs n f ((n : Int) - x.l).toNat x : Nat) : Int)
abbrev TallyC (cs : List (Option Rec)) (n : Nat) (f : Int) := Tally (plainElem Tryz.prog 3) (.lit (.int .i64 0)) (goodC cs n f)
/-- what count stands on -/
structure TlAt (w : World) (F : List Nat) (gs go n room cb : Nat) (cs : List (Option Rec)) (free : List Int) (f : Int) (q : Nat) : Prop where
  st : StoreAt w F gs n room cs free
  ca : CastAt w cb gs go f n
  hcs : ∀ id r, recAt cs id = some r → r.Wf ∧ r.top ≤ r.bot ∧ r.bot < n
  qF : q ∉ F
  qc : cb ≠ q
theorem TlAt.chg {w w' : World} {F : List Nat} {gs go n room cb : Nat} {cs : List (Option Rec)} {free : List Int} {f : Int} {q : Nat} (h : TlAt w F gs go n room cb cs free f q) (hc : Chg [q] w w') : TlAt w' F gs go n room cb cs free f q :=
  ⟨h.st.chg hc (fun k hk hm => by simp at hm; subst hm; exact h.qF hk), h.ca.chg hc (by simpa using h.qc), h.hcs, h.qF, h.qc⟩
def TlPost (cs : List (Option Rec)) (n : Nat) (f : Int) (c : Nat) (w : World) (q N : Nat) (e : Ending) (w' : World) : Prop := e = .returned (.int .i64 (c : Int)) ∧ TallyC cs n f w' q N ∧ Chg [q] w w'
theorem chg_thenB {F : List Nat} {w w' w'' : World} (h : Chg F w w') (hb : Below w'.heap.size w' w'') : Chg F w w'' := h.trans (chg_of_below (F := []) hb) (fun x hx => by cases hx)
theorem chg_thenC {q : Nat} {w w' w'' : World} (h : Chg [q] w w') (hb : Chg [q] w' w'') : Chg [q] w w'' := h.trans hb (fun x hx => .inl hx)
theorem wf_i64 {n : Int} (h : 0 ≤ n ∧ n ≤ 1000000) : (Lit.int .i64 n).wf = true := by
  have : -9223372036854775808 ≤ n ∧ n ≤ 9223372036854775807 := by omega
  simpa [Lit.wf, IntKind.min, IntKind.max, IntKind.signed, IntKind.bits] using this
theorem world_gen {Q : World → Prop} {w : World} (R : World → Prop) (h : R w) (k : ∀ W, R W → Q W) : Q w := k w h
theorem pow_m1 (m N : Nat) : N + (2 ^ m - 1) + (2 ^ m - 1) + 1 = N + (2 ^ (m + 1) - 1) := by
  have := Nat.two_pow_pos m
  rw [Nat.pow_succ]
  omega
theorem pow_le16 {m : Nat} (h : m ≤ 16) : 2 ^ m ≤ 65536 := Nat.le_trans (Nat.pow_le_pow_right (by omega) h) (by decide)

end Go.Proofs.YtpjciaomhfeeeaaGreat
end
