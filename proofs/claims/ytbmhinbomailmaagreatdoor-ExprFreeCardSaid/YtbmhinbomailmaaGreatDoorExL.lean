/- Expressions: the tokens of a text. -/
import Derived.Test.YtbmhinbomailmaaGreatDoorExP
namespace Go.Proofs.YtbmhinbomailmaaGreatDoor
set_option linter.unusedSimpArgs false
set_option linter.unusedVariables false

theorem dw_le {α : Type} (p : α → Bool) (l : List α) : (l.dropWhile p).length ≤ l.length := by
  have h : (l.takeWhile p).length + (l.dropWhile p).length = l.length := by rw [← List.length_append, List.takeWhile_append_dropWhile]
  omega
/-- a letter, or a digit -/
def letterN (c : Nat) : Bool := (decide (97 ≤ c) && decide (c ≤ 122)) || (decide (65 ≤ c) && decide (c ≤ 90)) || (decide (48 ≤ c) && decide (c ≤ 57))
/-- a sign -/
def signN (c : Nat) : Bool := c == 33 || c == 38 || c == 124 || c == 94 || c == 62 || c == 61 || c == 40 || c == 41 || c == 46
/-- the number of a variable -/
def varNum (w : List UInt8) : Option Nat :=
  match w.map (·.toNat) with
  | [x, a] => if x = 120 ∧ 48 ≤ a ∧ a ≤ 57 then some (a - 48) else none
  | [x, a, b] => if x = 120 ∧ a = 49 ∧ 48 ≤ b ∧ b ≤ 53 then some (b - 38) else none
  | _ => none
/-- the token of letters and digits -/
def wordTok (w : List UInt8) (a : Nat) : Tok :=
  if w = [48] then ⟨48, 0, a⟩ else if w = [49] then ⟨49, 0, a⟩ else if w = [115, 111, 109, 101] then ⟨115, 0, a⟩ else if w = [101, 97, 99, 104] then ⟨101, 0, a⟩
  else match varNum w with | some n => ⟨118, n, a⟩ | none => ⟨98, 0, a⟩
/-- the tokens of a text, from a place on -/
def lex (l : List UInt8) (a : Nat) : List Tok :=
  match l with
  | [] => [⟨122, 0, a⟩]
  | c :: l =>
    if c.toNat = 32 then lex l (a + 1)
    else if letterN c.toNat then wordTok (c :: l.takeWhile fun c => letterN c.toNat) a :: lex (l.dropWhile fun c => letterN c.toNat) (a + 1 + (l.takeWhile fun c => letterN c.toNat).length)
    else ⟨if signN c.toNat then c.toNat else 98, 0, a⟩ :: lex l (a + 1)
termination_by l.length
decreasing_by
  · simp
  · have := dw_le (fun c : UInt8 => letterN c.toNat) l
    simp
    omega
  · simp
theorem lex_nil (a : Nat) : lex [] a = [⟨122, 0, a⟩] := by rw [lex]
theorem lex_blank {c : UInt8} {l : List UInt8} (a : Nat) (h : c.toNat = 32) : lex (c :: l) a = lex l (a + 1) := by rw [lex, if_pos h]
theorem lex_sign {c : UInt8} {l : List UInt8} (a : Nat) (h : c.toNat ≠ 32) (hl : letterN c.toNat = false) : lex (c :: l) a = ⟨if signN c.toNat then c.toNat else 98, 0, a⟩ :: lex l (a + 1) := by
  rw [lex, if_neg h, hl, if_neg (by simp)]
theorem letter_32 : letterN 32 = false := by decide
theorem takeWhile_all {α : Type} (p : α → Bool) : ∀ (w l : List α), (∀ c ∈ w, p c = true) → (∀ c, l.head? = some c → p c = false) → (w ++ l).takeWhile p = w ∧ (w ++ l).dropWhile p = l
  | [], l, _, h => by
    cases l with
    | nil => exact ⟨rfl, rfl⟩
    | cons c l =>
      have := h c rfl
      simp [List.takeWhile_cons, List.dropWhile_cons, this]
  | c :: w, l, hw, h => by
    have hc := hw c (by simp)
    obtain ⟨h1, h2⟩ := takeWhile_all p w l (fun x hx => hw x (by simp [hx])) h
    simp [List.takeWhile_cons, List.dropWhile_cons, hc, h1, h2]
theorem lex_word {w l : List UInt8} (a : Nat) (hw : ∀ c ∈ w, letterN c.toNat = true) (h0 : w ≠ []) (hl : ∀ c, l.head? = some c → letterN c.toNat = false) : lex (w ++ l) a = wordTok w a :: lex l (a + w.length) := by
  cases w with
  | nil => exact absurd rfl h0
  | cons c w =>
    have hc := hw c (by simp)
    obtain ⟨h1, h2⟩ := takeWhile_all (fun c : UInt8 => letterN c.toNat) w l (fun x hx => hw x (by simp [hx])) hl
    rw [List.cons_append, lex, if_neg (by intro e; rw [e, letter_32] at hc; cases hc), if_pos hc, h1, h2, List.length_cons, show a + 1 + w.length = a + (w.length + 1) by omega]
theorem word_kind (w : List UInt8) (a : Nat) : (wordTok w a).kind ≠ 122 ∧ (wordTok w a).at_ = a ∧ (wordTok w a).n ≤ 15 ∧ ((wordTok w a).kind = 48 ∨ (wordTok w a).kind = 49 ∨ (wordTok w a).kind = 115 ∨ (wordTok w a).kind = 101 ∨ (wordTok w a).kind = 118 ∨ (wordTok w a).kind = 98) := by
  unfold wordTok
  split
  · simp
  · split
    · simp
    · split
      · simp
      · split
        · simp
        · split
          · rename_i n h
            unfold varNum at h
            split at h
            · split at h
              · injection h with h; subst h; simp; omega
              · cases h
            · split at h
              · injection h with h; subst h; simp; omega
              · cases h
            · cases h
          · simp
/-- tokens as a text has them -/
structure TokOk (m : Nat) (t : Tok) : Prop where
  n : t.n ≤ 15
  at_ : t.at_ ≤ m
  kind : t.kind ≤ 127
theorem sign_le {c : Nat} (h : signN c = true) : c ≤ 124 ∧ c ≠ 122 := by
  unfold signN at h
  simp only [Bool.or_eq_true, beq_iff_eq] at h
  omega
theorem lex_ended (l : List UInt8) : ∀ (a m : Nat), a + l.length ≤ m → Ended (lex l a) ∧ ∀ t ∈ lex l a, TokOk m t := by
  obtain ⟨n, hn⟩ : ∃ n, n = l.length := ⟨_, rfl⟩
  induction n using Nat.strongRecOn generalizing l with
  | ind n ih =>
    intro a m hm
    cases l with
    | nil =>
      rw [lex_nil]
      exact ⟨⟨[], _, rfl, rfl, by simp⟩, fun t ht => by
        rw [List.mem_singleton.1 ht]
        exact ⟨by simp, by simp at hm ⊢; omega, by simp⟩⟩
    | cons c l =>
      simp only [List.length_cons] at hn hm
      by_cases h32 : c.toNat = 32
      · rw [lex_blank a h32]
        exact ih l.length (by omega) l rfl (a + 1) m (by omega)
      · cases hl : letterN c.toNat with
        | true =>
          have h2 := dw_le (fun c : UInt8 => letterN c.toNat) l
          have h3 : (l.takeWhile fun c => letterN c.toNat).length + (l.dropWhile fun c => letterN c.toNat).length = l.length := by
            rw [← List.length_append, List.takeWhile_append_dropWhile]
          obtain ⟨h4, h5⟩ := ih _ (by omega) (l.dropWhile fun c => letterN c.toNat) rfl (a + 1 + (l.takeWhile fun c => letterN c.toNat).length) m (by omega)
          rw [lex, if_neg h32, if_pos hl]
          obtain ⟨w1, w2, w3, w4⟩ := word_kind (c :: l.takeWhile fun c => letterN c.toNat) a
          obtain ⟨x, z, hx, hz, hne⟩ := h4
          refine ⟨⟨_ :: x, z, by rw [hx]; rfl, hz, fun t ht => ?_⟩, fun t ht => ?_⟩
          · rcases List.mem_cons.1 ht with rfl | ht
            · exact w1
            · exact hne t ht
          · rcases List.mem_cons.1 ht with rfl | ht
            · exact ⟨w3, by omega, by omega⟩
            · exact h5 t ht
        | false =>
          rw [lex_sign a h32 hl]
          obtain ⟨⟨x, z, hx, hz, hne⟩, h5⟩ := ih l.length (by omega) l rfl (a + 1) m (by omega)
          have hk : (if signN c.toNat then c.toNat else 98) ≤ 127 ∧ (if signN c.toNat then c.toNat else 98) ≠ 122 := by
            split
            · have := sign_le ‹_›; omega
            · omega
          refine ⟨⟨_ :: x, z, by rw [hx]; rfl, hz, fun t ht => ?_⟩, fun t ht => ?_⟩
          · rcases List.mem_cons.1 ht with rfl | ht
            · exact hk.2
            · exact hne t ht
          · rcases List.mem_cons.1 ht with rfl | ht
            · exact ⟨by simp, by simp; omega, hk.1⟩
            · exact h5 t ht
theorem lex_len (l : List UInt8) : ∀ (a : Nat), (lex l a).length ≤ l.length + 1 := by
  obtain ⟨n, hn⟩ : ∃ n, n = l.length := ⟨_, rfl⟩
  induction n using Nat.strongRecOn generalizing l with
  | ind n ih =>
    intro a
    cases l with
    | nil => rw [lex_nil]; simp
    | cons c l =>
      simp only [List.length_cons] at hn ⊢
      by_cases h32 : c.toNat = 32
      · rw [lex_blank a h32]
        have := ih l.length (by omega) l rfl (a + 1)
        omega
      · cases hl : letterN c.toNat with
        | true =>
          have h2 := dw_le (fun c : UInt8 => letterN c.toNat) l
          rw [lex, if_neg h32, if_pos hl, List.length_cons]
          have := ih _ (by omega) (l.dropWhile fun c => letterN c.toNat) rfl (a + 1 + (l.takeWhile fun c => letterN c.toNat).length)
          omega
        | false =>
          rw [lex_sign a h32 hl, List.length_cons]
          have := ih l.length (by omega) l rfl (a + 1)
          omega
end Go.Proofs.YtbmhinbomailmaaGreatDoor
