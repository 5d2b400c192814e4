/- Expressions: their texts, and the tokens of these. -/
import Derived.Test.YtpjciaomhfeeeaaGreatDoorMq
import Derived.Test.YtpjciaomhfeeeaaGreatDoorNum
namespace Go.Proofs.YtpjciaomhfeeeaaGreatDoor
set_option linter.unusedSimpArgs false
set_option linter.unusedVariables false

/-- the text of an expression -/
def Ex.textE : Ex → List UInt8
  | .const b => [if b then 49 else 48]
  | .var n => 120 :: Lib.decDigits n
  | .not x => 33 :: x.textE
  | .pair op a b => 40 :: (a.textE ++ UInt8.ofNat op :: (b.textE ++ [41]))
  | .bound each l x => (if each then [101, 97, 99, 104] else [115, 111, 109, 101]) ++ (l.flatMap (fun v => 32 :: 120 :: Lib.decDigits v) ++ 46 :: x.textE)
def Ex.depthE : Ex → Nat
  | .const _ => 0
  | .var _ => 0
  | .not x => x.depthE + 1
  | .pair _ a b => max a.depthE b.depthE + 1
  | .bound _ _ x => x.depthE + 1
/-- tokens that are written as an expression is -/
inductive Shape : Ex → List Tok → Prop
  | const {b t} : t.kind = (if b then 49 else 48) → Shape (.const b) [t]
  | var {t} : t.kind = 118 → Shape (.var t.n) [t]
  | not {x t C} : t.kind = 33 → Shape x C → Shape (.not x) (t :: C)
  | pair {a b A B t o u} : t.kind = 40 → rk o.kind ≠ 0 → u.kind = 41 → Shape a A → Shape b B → Shape (.pair o.kind a b) (t :: (A ++ o :: (B ++ [u])))
  | bound {each x t vs u C} : t.kind = (if each then 101 else 115) → (∀ y ∈ vs, y.kind = 118) → vs ≠ [] → u.kind = 46 → Shape x C → Shape (.bound each (vs.map (·.n)) x) (t :: (vs ++ u :: C))
theorem rk_mem {k : Nat} (h : rk k ≠ 0) : k = 61 ∨ k = 62 ∨ k = 94 ∨ k = 124 ∨ k = 38 := by
  have h5 := rk_le k
  have := rk_sgn (k := k) (r := rk k) rfl h
  rcases (show rk k = 1 ∨ rk k = 2 ∨ rk k = 3 ∨ rk k = 4 ∨ rk k = 5 by omega) with e | e | e | e | e <;> rw [e] at this <;> rw [this] <;> decide
theorem op_byte {k : Nat} (h : rk k ≠ 0) : (UInt8.ofNat k).toNat = k ∧ k ≠ 32 ∧ letterN k = false ∧ signN k = true := by
  rcases rk_mem h with rfl | rfl | rfl | rfl | rfl <;> decide
theorem word_var {n : Nat} (h : n ≤ 15) (a : Nat) : wordTok (120 :: Lib.decDigits n) a = ⟨118, n, a⟩ ∧ ∀ c ∈ 120 :: Lib.decDigits n, letterN c.toNat = true := by
  rcases (show n = 0 ∨ n = 1 ∨ n = 2 ∨ n = 3 ∨ n = 4 ∨ n = 5 ∨ n = 6 ∨ n = 7 ∨ n = 8 ∨ n = 9 ∨ n = 10 ∨ n = 11 ∨ n = 12 ∨ n = 13 ∨ n = 14 ∨ n = 15 by omega) with rfl | rfl | rfl | rfl | rfl | rfl | rfl | rfl | rfl | rfl | rfl | rfl | rfl | rfl | rfl | rfl
  all_goals first
    | (rw [Lib.decDigits_one (by decide)]; exact ⟨by rfl, by decide⟩)
    | (rw [Lib.decDigits_two (by decide) (by decide)]; exact ⟨by rfl, by decide⟩)
theorem lex_var {n : Nat} (h : n ≤ 15) (l : List UInt8) (a : Nat) (hl : ∀ c, l.head? = some c → letterN c.toNat = false) : lex (120 :: Lib.decDigits n ++ l) a = ⟨118, n, a⟩ :: lex l (a + (120 :: Lib.decDigits n).length) := by
  rw [lex_word a (word_var h a).2 (by simp) hl, (word_var h a).1]
theorem lex_vars : ∀ (vs : List Nat) (l : List UInt8) (a : Nat), (∀ v ∈ vs, v ≤ 15) → (∀ c, l.head? = some c → letterN c.toNat = false) →
    ∃ C b, lex (vs.flatMap (fun v => 32 :: 120 :: Lib.decDigits v) ++ l) a = C ++ lex l b ∧ (∀ y ∈ C, y.kind = 118) ∧ C.map (·.n) = vs
  | [], l, a, _, _ => ⟨[], a, rfl, by simp, rfl⟩
  | v :: vs, l, a, hv, hl => by
    have hd : ∀ c, (vs.flatMap (fun v => 32 :: 120 :: Lib.decDigits v) ++ l).head? = some c → letterN c.toNat = false := by
      cases vs with
      | nil => simpa using hl
      | cons w vs =>
        intro c hc
        simp at hc
        subst hc
        rfl
    obtain ⟨C, b, h1, h2, h3⟩ := lex_vars vs l (a + 1 + (120 :: Lib.decDigits v).length) (fun x hx => hv x (by simp [hx])) hl
    refine ⟨⟨118, v, a + 1⟩ :: C, b, ?_, fun y hy => ?_, by rw [List.map_cons, h3]⟩
    · rw [List.flatMap_cons, List.append_assoc, List.cons_append, lex_blank _ rfl, lex_var (hv v (by simp)) _ _ hd, h1]
      rfl
    · rcases List.mem_cons.1 hy with rfl | hy
      · rfl
      · exact h2 y hy
/-- lists of bound variables that are not empty -/
def Ex.Full : Ex → Prop
  | .const _ => True
  | .var _ => True
  | .not x => x.Full
  | .pair _ a b => a.Full ∧ b.Full
  | .bound _ l x => l ≠ [] ∧ x.Full
theorem lex_one {c : UInt8} (l : List UInt8) (a : Nat) (h : c.toNat ≠ 32) (hl : letterN c.toNat = false) (hs : signN c.toNat = true) : lex (c :: l) a = ⟨c.toNat, 0, a⟩ :: lex l (a + 1) := by
  rw [lex_sign a h hl, if_pos hs]
theorem lex_text : ∀ (x : Ex), x.Small → x.Full → ∀ (l : List UInt8) (a : Nat), (∀ c, l.head? = some c → letterN c.toNat = false) → ∃ C b, lex (x.textE ++ l) a = C ++ lex l b ∧ Shape x C
  | .const v, _, _, l, a, hl => by
    refine ⟨[wordTok [if v then 49 else 48] a], a + 1, ?_, .const ?_⟩
    · rw [Ex.textE, lex_word a (by cases v <;> decide) (by simp) hl]
      rfl
    · cases v <;> rfl
  | .var n, h, _, l, a, hl => ⟨[⟨118, n, a⟩], a + (120 :: Lib.decDigits n).length, by rw [Ex.textE, lex_var h l a hl]; rfl, .var (t := ⟨118, n, a⟩) rfl⟩
  | .not x, h, h', l, a, hl => by
    obtain ⟨C, b, h1, h2⟩ := lex_text x h h' l (a + 1) hl
    exact ⟨_ :: C, b, by rw [Ex.textE, List.cons_append, lex_one _ a (by decide) (by decide) (by decide), h1]; rfl, .not rfl h2⟩
  | .pair op x y, h, h', l, a, hl => by
    obtain ⟨k1, k2, k3, k4⟩ := op_byte h.1
    obtain ⟨A, b1, h1, h2⟩ := lex_text x h.2.1 h'.1 (UInt8.ofNat op :: (y.textE ++ 41 :: l)) (a + 1) (fun c hc => by
      injection hc with hc
      rw [← hc, k1]
      exact k3)
    obtain ⟨B, b2, h3, h4⟩ := lex_text y h.2.2 h'.2 (41 :: l) (b1 + 1) (fun c hc => by
      injection hc with hc
      rw [← hc]
      rfl)
    refine ⟨⟨40, 0, a⟩ :: (A ++ ⟨op, 0, b1⟩ :: (B ++ [⟨41, 0, b2⟩])), b2 + 1, ?_, .pair (o := ⟨op, 0, b1⟩) rfl h.1 rfl h2 h4⟩
    have e : Ex.textE (.pair op x y) ++ l = 40 :: (x.textE ++ (UInt8.ofNat op :: (y.textE ++ 41 :: l))) := by simp [Ex.textE]
    rw [e, lex_one _ a (by decide) (by decide) (by decide), h1, lex_one _ b1 (by rw [k1]; exact k2) (by rw [k1]; exact k3) (by rw [k1]; exact k4), h3, lex_one _ b2 (by decide) (by decide) (by decide), k1]
    simp
  | .bound e vs x, h, h', l, a, hl => by
    have hw : ∀ z, ∃ C, lex ((if e then [101, 97, 99, 104] else [115, 111, 109, 101]) ++ z) a = C :: lex z (a + 4) ∨ ∃ c, z.head? = some c ∧ letterN c.toNat = true := fun z => by
      by_cases hz : ∃ c, z.head? = some c ∧ letterN c.toNat = true
      · exact ⟨⟨0, 0, 0⟩, .inr hz⟩
      · have hz' : ∀ c, z.head? = some c → letterN c.toNat = false := fun c hc => by
          cases hh : letterN c.toNat with
          | false => rfl
          | true => exact absurd ⟨c, hc, hh⟩ hz
        refine ⟨wordTok (if e then [101, 97, 99, 104] else [115, 111, 109, 101]) a, .inl ?_⟩
        rw [lex_word a (by cases e <;> decide) (by cases e <;> decide) hz']
        cases e <;> rfl
    obtain ⟨V, b1, h1, h2, h3⟩ := lex_vars vs (46 :: (x.textE ++ l)) (a + 4) h.1 (fun c hc => by
      injection hc with hc
      rw [← hc]
      rfl)
    obtain ⟨C, b2, h4, h5⟩ := lex_text x h.2 h'.2 l (b1 + 1) hl
    have e1 : Ex.textE (.bound e vs x) ++ l = (if e then [101, 97, 99, 104] else [115, 111, 109, 101]) ++ (vs.flatMap (fun v => 32 :: 120 :: Lib.decDigits v) ++ 46 :: (x.textE ++ l)) := by simp [Ex.textE]
    have hz' : ∀ c, (vs.flatMap (fun v => 32 :: 120 :: Lib.decDigits v) ++ 46 :: (x.textE ++ l)).head? = some c → letterN c.toNat = false := by
      cases vs with
      | nil =>
        intro c hc
        simp at hc
        subst hc
        rfl
      | cons w vs =>
        intro c hc
        simp at hc
        subst hc
        rfl
    have hne : V ≠ [] := fun e => by
      rw [e] at h3
      exact h'.1 h3.symm
    have := Shape.bound (each := e) (t := wordTok (if e then [101, 97, 99, 104] else [115, 111, 109, 101]) a) (u := ⟨46, 0, b1⟩) (by cases e <;> rfl) h2 hne rfl h5
    rw [h3] at this
    refine ⟨_, b2, ?_, this⟩
    rw [e1, lex_word a (by cases e <;> decide) (by cases e <;> decide) hz', show a + (if e then [101, 97, 99, 104] else [115, 111, 109, 101] : List UInt8).length = a + 4 by cases e <;> rfl, h1, lex_one _ b1 (by decide) (by decide) (by decide), h4]
    simp
end Go.Proofs.YtpjciaomhfeeeaaGreatDoor
