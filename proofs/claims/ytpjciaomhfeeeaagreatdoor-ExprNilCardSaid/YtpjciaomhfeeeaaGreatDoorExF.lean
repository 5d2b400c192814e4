/- The parser's state by the tokens that are left; what a call of the parser leaves. -/
import Derived.Test.YtpjciaomhfeeeaaGreatDoorExC
namespace Go.Proofs.YtpjciaomhfeeeaaGreatDoor
open Go.RowKit Go.Sort
set_option linter.unusedSimpArgs false
set_option linter.unusedVariables false

/-- the tokens that are left, the depth, where it failed, and why -/
structure St (w : World) (g : Nat) (l : List UInt8) (L : List Tok) (d : Nat) (bad e : Int) : Prop where
  ex : ∃ a t a0, PS w g l a t (d : Nat) bad e ∧ Next l a0 t a ∧ L = toks l a t
  pv : PV w
  len : l.length ≤ 4096
theorem St.of {w w' : World} {g : Nat} {l : List UInt8} {L : List Tok} {d : Nat} {bad e : Int} {a a0 : Nat} {t : Tok} {L' : List Tok} {d' : Nat} {bad' e' : Int} (h : St w g l L d bad e) (hp : PS w' g l a t (d' : Nat) bad' e') (hn : Next l a0 t a) (hL : L' = toks l a t) (hc : Chg [g] w w') : St w' g l L' d' bad' e' := by
  obtain ⟨⟨a1, t1, a2, h1, _, _⟩, h2, h3⟩ := h
  exact ⟨⟨a, t, a0, hp, hn, hL⟩, h2.keep h1.c0 hc, h3⟩
theorem St.chg0 {w w' : World} {g : Nat} {l : List UInt8} {L : List Tok} {d : Nat} {bad e : Int} (h : St w g l L d bad e) (hb : Below w.heap.size w w') : St w' g l L d bad e := by
  obtain ⟨⟨a, t, a0, h1, h2, h3⟩, h4, h5⟩ := h
  exact ⟨⟨a, t, a0, Blk.onB h1 hb, h2, h3⟩, h4.on hb, h5⟩
theorem St.alloc {w : World} {g : Nat} {l : List UInt8} {L : List Tok} {d : Nat} {bad e : Int} (h : St w g l L d bad e) (o : Obj) : St (w.alloc o) g l L d bad e := h.chg0 ((Below.refl _ _).alloc (Nat.le_refl _) o)
theorem toks_ne {l : List UInt8} {a : Nat} : ∃ u M, lex (l.drop a) a = u :: M := by
  obtain ⟨⟨m, z, h, _⟩, _⟩ := lex_ended (l.drop a) a _ (Nat.le_refl _)
  cases m with
  | nil => exact ⟨z, [], by rw [h]; rfl⟩
  | cons u m => exact ⟨u, m ++ [z], by rw [h]; rfl⟩
/-- what the next token is, and that others are behind it -/
theorem St.head {w : World} {g : Nat} {l : List UInt8} {L : List Tok} {d : Nat} {bad e : Int} (h : St w g l L d bad e) : ∃ t M, L = t :: M ∧ t.kind ≤ 255 ∧ t.n ≤ 15 ∧ (t.kind ≠ 122 → ∃ u M', M = u :: M') ∧ (∀ u ∈ L, u.kind ≤ 255 ∧ u.n ≤ 15) := by
  obtain ⟨⟨a, t, a0, h1, h2, h3⟩, h4, h5⟩ := h
  have hk := h2.lex
  have hall := (lex_ended (l.drop a0) a0 _ (Nat.le_refl _)).2
  rw [hk] at hall
  have ht := hall t (by simp)
  refine ⟨t, _, h3, ?_, ?_, fun hne => ?_, fun u hu => ?_⟩
  · exact Nat.le_trans ht.kind (by omega)
  · exact ht.n
  · rw [if_neg hne]; exact toks_ne
  · rw [h3] at hu
    exact ⟨Nat.le_trans (hall u hu).kind (by omega), (hall u hu).n⟩

theorem step_st (g : Nat) (l : List UInt8) (t u : Tok) (M : List Tok) (d : Nat) (bad e : Int) (w : World) (h : St w g l (t :: u :: M) d bad e) :
    Calls Tryz.prog 21 #[.pointer (some ⟨g, 0, none⟩)] w fun e1 w' => e1 = .returned (.tuple #[]) ∧ Chg [g] w w' ∧ St w' g l (u :: M) d bad e := by
  have h0 := h
  obtain ⟨⟨a, t1, a0, hp, hn, hL⟩, hV, hl⟩ := h
  refine (step_any g l a t1 d bad e w hp hn.le (by omega) hV).mono ?_
  rintro e1 w' ⟨rfl, a', t', h1, h2, h3⟩
  refine ⟨rfl, h3, h0.of h1 h2 ?_ h3⟩
  unfold toks at hL
  injection hL with e1 e2
  split at e2
  · cases e2
  · rw [e2, next_toks h2]
/-- the same, where the walk has laid other cells ahead of it -/
theorem St.cells {w : World} {g : Nat} {l : List UInt8} {t : Tok} {M : List Tok} {d : Nat} {bad e : Int} (h : St w g l (t :: M) d bad e) : ∃ a, PS w g l a t d bad e := by
  obtain ⟨⟨a, t1, a0, hp, hn, hL⟩, hV, hl⟩ := h
  unfold toks at hL
  injection hL with e1 e2
  subst e1
  exact ⟨a, hp⟩
theorem St.lt {w : World} {g : Nat} {l : List UInt8} {L : List Tok} {d : Nat} {bad e : Int} (h : St w g l L d bad e) : g < w.heap.size := by
  obtain ⟨⟨a, t1, a0, hp, hn, hL⟩, hV, hl⟩ := h
  exact Blk.lt hp
theorem St.setDeep {w : World} {g : Nat} {l : List UInt8} {L : List Tok} {d : Nat} {bad e : Int} (h : St w g l L d bad e) (k : Nat) : St (w.setCell ⟨g, 5, none⟩ (.int .i64 (k : Nat))) g l L k bad e := by
  have h0 := h
  obtain ⟨⟨a, t1, a0, hp, hn, hL⟩, hV, hl⟩ := h
  exact h0.of (hp.setDeep k) hn hL ((Chg.refl _ _).setCell (.inl (by simp)) _)
theorem St.setDeep2 {w : World} {g : Nat} {l : List UInt8} {L : List Tok} {d : Nat} {bad e : Int} (h : St w g l L d bad e) (k : Nat) (x : Int) (hx : x = (k : Nat)) : St (w.setCell ⟨g, 5, none⟩ (.int .i64 x)) g l L k bad e := by
  subst hx
  exact h.setDeep k
theorem want_miss_st (g : Nat) (l : List UInt8) (t : Tok) (M : List Tok) (d : Nat) (bad : Int) (k : Nat) (w : World) (h : St w g l (t :: M) d bad 0) (hk : t.kind ≠ k) :
    Calls Tryz.prog 23 #[.pointer (some ⟨g, 0, none⟩), .int .u8 (k : Nat)] w fun e1 w' => e1 = .returned (.tuple #[]) ∧ Chg [g] w w' ∧ St w' g l (t :: M) d t.at_ 10 := by
  have h0 := h
  obtain ⟨⟨a, t1, a0, hp, hn, hL⟩, hV, hl⟩ := h
  have e1 : t = t1 := by unfold toks at hL; injection hL
  subst e1
  refine (want_miss g l a t d bad k w hp hk).mono ?_
  rintro e1 w' ⟨rfl, h1, h2⟩
  exact ⟨rfl, h2, h0.of h1 hn hL h2⟩
theorem want_hit_st (g : Nat) (l : List UInt8) (t u : Tok) (M : List Tok) (d : Nat) (bad : Int) (k : Nat) (w : World) (h : St w g l (t :: u :: M) d bad 0) (hk : t.kind = k) :
    Calls Tryz.prog 23 #[.pointer (some ⟨g, 0, none⟩), .int .u8 (k : Nat)] w fun e1 w' => e1 = .returned (.tuple #[]) ∧ Chg [g] w w' ∧ St w' g l (u :: M) d bad 0 := by
  have h0 := h
  obtain ⟨⟨a, t1, a0, hp, hn, hL⟩, hV, hl⟩ := h
  have e1 : t = t1 ∧ u :: M = lex (l.drop a) a := by
    unfold toks at hL
    injection hL with e1 e2
    split at e2
    · cases e2
    · exact ⟨e1, e2⟩
  obtain ⟨rfl, e2⟩ := e1
  refine (want_hit g l a t d bad k w hp hk hn.le (by omega) hV).mono ?_
  rintro e1 w' ⟨rfl, a', t', h1, h2, h3⟩
  exact ⟨rfl, h3, h0.of h1 h2 (by rw [e2, next_toks h2]) h3⟩
/-- at the end nothing more is read -/
theorem want_end_st (g : Nat) (l : List UInt8) (t : Tok) (M : List Tok) (d : Nat) (bad : Int) (w : World) (h : St w g l (t :: M) d bad 0) (hk : t.kind = 122) :
    Calls Tryz.prog 23 #[.pointer (some ⟨g, 0, none⟩), .int .u8 122] w fun e1 w' => e1 = .returned (.tuple #[]) ∧ Chg [g] w w' ∧ ∃ M', St w' g l M' d bad 0 := by
  have h0 := h
  obtain ⟨⟨a, t1, a0, hp, hn, hL⟩, hV, hl⟩ := h
  have e1 : t = t1 := by unfold toks at hL; injection hL
  subst e1
  refine (want_hit g l a t d bad 122 w hp hk hn.le (by omega) hV).mono ?_
  rintro e1 w' ⟨rfl, a', t', h1, h2, h3⟩
  exact ⟨rfl, h3, _, h0.of h1 h2 rfl h3⟩
theorem want_err_st (g : Nat) (l : List UInt8) (L : List Tok) (d : Nat) (bad e : Int) (k : Nat) (w : World) (h : St w g l L d bad e) (he : e ≠ 0) :
    Calls Tryz.prog 23 #[.pointer (some ⟨g, 0, none⟩), .int .u8 (k : Nat)] w fun e1 w' => e1 = .returned (.tuple #[]) ∧ w = w' := by
  obtain ⟨⟨a, t1, a0, hp, hn, hL⟩, hV, hl⟩ := h
  exact want_err g l a t1 d bad e k w hp he
theorem fail_st (g : Nat) (l : List UInt8) (t : Tok) (M : List Tok) (d : Nat) (bad k : Int) (w : World) (h : St w g l (t :: M) d bad 0) :
    Calls Tryz.prog 35 #[.pointer (some ⟨g, 0, none⟩), .int .u8 k] w fun e1 w' => e1 = .returned noE ∧ Chg [g] w w' ∧ St w' g l (t :: M) d t.at_ k := by
  have h0 := h
  obtain ⟨⟨a, t1, a0, hp, hn, hL⟩, hV, hl⟩ := h
  have e1 : t = t1 := by unfold toks at hL; injection hL
  subst e1
  refine (pfail_any g l a t d bad k w hp).mono ?_
  rintro e1 w' ⟨rfl, h1, h2⟩
  exact ⟨rfl, h2, h0.of h1 hn hL h2⟩
theorem down_st (g : Nat) (l : List UInt8) (t u : Tok) (M : List Tok) (d : Nat) (bad : Int) (w : World) (h : St w g l (t :: u :: M) d bad 0) (hd : d ≤ 5000) :
    Calls Tryz.prog 44 #[.pointer (some ⟨g, 0, none⟩)] w fun e1 w' => e1 = .returned (.tuple #[]) ∧ Chg [g] w w' ∧
      (begins u.kind = true ∧ 200 < d + 1 ∧ St w' g l (u :: M) (d + 1) u.at_ 12 ∨ ¬ (begins u.kind = true ∧ 200 < d + 1) ∧ St w' g l (u :: M) (d + 1) bad 0) := by
  have h0 := h
  obtain ⟨⟨a, t1, a0, hp, hn, hL⟩, hV, hl⟩ := h
  have e1 : t = t1 ∧ u :: M = lex (l.drop a) a := by
    unfold toks at hL
    injection hL with e1 e2
    split at e2
    · cases e2
    · exact ⟨e1, e2⟩
  obtain ⟨rfl, e2⟩ := e1
  refine (down_any g l a t d bad w hp hd hn.le (by omega) hV).mono ?_
  rintro e1 w' ⟨rfl, a', t', h1, h2, h3⟩
  have e3 := e2.trans (next_toks h1)
  have e4 : u = t' := by unfold toks at e3; injection e3
  subst e4
  refine ⟨rfl, h2, ?_⟩
  rcases h3 with ⟨k1, k2, k3⟩ | ⟨k1, k2⟩
  · exact .inl ⟨k1, k2, h0.of k3 h1 e3 h2⟩
  · exact .inr ⟨k1, h0.of k2 h1 e3 h2⟩
/-- what a call of the parser leaves -/
def Out (j : Job) (g : Nat) (l : List UInt8) (L : List Tok) (d : Nat) (bad : Int) (w : World) (e1 : Ending) (w' : World) : Prop :=
  ∃ v : TypeId × Value, e1 = .returned (ifV v) ∧ Chg [g] w w' ∧
    ((∃ (c p d' : Nat) (L' : List Tok), Run j d L (.err c p) ∧ (c = 10 ∨ c = 12) ∧ d ≤ d' ∧ d' ≤ d + L.length ∧ St w' g l L' d' p c) ∨
     (∃ x L', Run j d L (.ok [x] L') ∧ L'.length ≤ L.length ∧ St w' g l L' d bad 0 ∧ ExAt w' w'.heap.size x v))
end Go.Proofs.YtpjciaomhfeeeaaGreatDoor
