/- Small words for what is made from below: turns behind each other, edges. -/
import Derived.Test.YtfcklfpgjadfmaaLinkP
import Derived.Test.YtfcklfpgjadfmaaTabW
import Derived.Test.YtfcklfpgjadfmaaBddNil
namespace Go.Proofs.Ytfcklfpgjadfmaa
open Go.RowKit Go.Sort
set_option linter.unusedSimpArgs false
set_option linter.unusedVariables false

/-- one turn behind another -/
theorem Turns.join {B : World → List Nat → Prop} {F F1 : List Nat} {w w1 w2 : World} (hc : Chg F w w1) (hF : ∀ k ∈ F1, k ∈ F ∨ w.heap.size ≤ k) (h : Turns B F1 w1 w2) : Turns B F w w2 := by
  obtain ⟨⟨F2, h1, h2⟩, h3⟩ := h
  have hs := hc.size
  exact ⟨⟨F2, h1, fun k hk => by
    rcases h2 k hk with h4 | h4
    · exact hF k h4
    · right; omega⟩, hc.trans h3 hF⟩
/-- a turn, and what makes memory alone -/
theorem Turns.then_below {n room g : Nat} {cs : List (Option Rec)} {F : List Nat} {w w1 w2 : World} (h : Turns (fun W X => StoreAt W X g n room cs []) F w w1) (hb : Below w1.heap.size w1 w2) : Turns (fun W X => StoreAt W X g n room cs []) F w w2 := by
  obtain ⟨⟨F', h1, h2⟩, h3⟩ := h
  exact ⟨⟨F', h1.on hb, h2⟩, h3.trans (chg_of_below (F := []) hb) (fun x hx => by cases hx)⟩

/-- the edge that Make tells -/
def edO : Option Nat → Edg
  | some e => ⟨0, e⟩
  | none => .nil
theorem makeE_edO {z : Bool} {n room : Nat} {S : List Nd} {l a b : Nat} (hn : n ≤ 16) (hl : l < n) (ha : Ld S a (l + 1)) (hb : Ld S b (l + 1)) :
    makeE z n room (csOf z S) l ⟨0, a⟩ ⟨0, b⟩ = (edO (mkP z room S l a b).1, (if (mkP z room S l a b).1.isSome then 0 else 6), csOf z (mkP z room S l a b).2) := by
  rw [makeE_csOf hn hl ha hb]
  cases (mkP z room S l a b).1 <;> rfl
theorem Ld.wf {S : List Nd} {a l room : Nat} (h : Ld S a l) (hS : S.length ≤ room) (hr : room ≤ 1048576) : (⟨0, (a : Int)⟩ : Edg).Wf := by
  unfold Edg.Wf
  simp only
  rcases h with h | ⟨nd, h, _⟩
  · omega
  · have := (List.getElem?_eq_some_iff.1 h).1
    omega
theorem Den.wf {S : List Nd} {a room : Nat} {T : Tm} (h : Den S a T) (hS : S.length ≤ room) (hr : room ≤ 1048576) : (⟨0, (a : Int)⟩ : Edg).Wf := by
  unfold Edg.Wf
  simp only
  cases h with
  | zero => omega
  | one => omega
  | node i nd a b h _ _ =>
    have := (List.getElem?_eq_some_iff.1 h).1
    omega
theorem csOf_len_le {z : Bool} {w : World} {F : List Nat} {g n room : Nat} {S : List Nd} (h : StoreAt w F g n room (csOf z S) []) : S.length ≤ room := by
  have := h.ok.len
  rwa [csOf_length] at this
theorem bitE_den (S : List Nd) (t : List Bool) : Den S (bitE t) (.leaf (t.head? == some true)) := by
  unfold bitE
  by_cases h : t.head? = some true
  · rw [if_pos h, h]; exact .one
  · rw [if_neg h]
    have : (t.head? == some true) = false := by simpa using h
    rw [this]
    exact .zero
theorem madeP_no {z : Bool} {room k l : Nat} {t : List Bool} {S : List Nd} (h : (madeP z room k (t.take (2 ^ k)) (l + 1) S).1 = none ∨ (madeP z room k (t.drop (2 ^ k)) (l + 1) (madeP z room k (t.take (2 ^ k)) (l + 1) S).2).1 = none) :
    madeP z room (k + 1) t l S = (none, (madeP z room k (t.drop (2 ^ k)) (l + 1) (madeP z room k (t.take (2 ^ k)) (l + 1) S).2).2) := by
  rw [madeP]
  split
  · rename_i a b h1 h2
    rw [h1, h2] at h
    rcases h with h | h <;> cases h
  · rfl
theorem madeP_yes {z : Bool} {room k l a b : Nat} {t : List Bool} {S : List Nd} (h1 : (madeP z room k (t.take (2 ^ k)) (l + 1) S).1 = some a) (h2 : (madeP z room k (t.drop (2 ^ k)) (l + 1) (madeP z room k (t.take (2 ^ k)) (l + 1) S).2).1 = some b) :
    madeP z room (k + 1) t l S = mkP z room (madeP z room k (t.drop (2 ^ k)) (l + 1) (madeP z room k (t.take (2 ^ k)) (l + 1) S).2).2 l a b := by
  rw [madeP, h1, h2]
end Go.Proofs.Ytfcklfpgjadfmaa
