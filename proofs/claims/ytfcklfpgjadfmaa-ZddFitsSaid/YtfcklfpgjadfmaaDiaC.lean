/- What the contracts of the diagrams' functions have in common. -/
import Derived.Test.YtfcklfpgjadfmaaFindS
namespace Go.Proofs.Ytfcklfpgjadfmaa
open Go.RowKit Go.Sort
set_option linter.unusedSimpArgs false
set_option linter.unusedVariables false

/-- the edge of what Find tells -/
def fE (x : Nat × Nat × List (Option Rec)) : Edg := if x.2.1 = 0 then ⟨0, x.1⟩ else .nil
theorem findP_cases (n room : Nat) (cs : List (Option Rec)) (r : Rec) (hok : StOk n room cs []) :
    (((findP n room cs r).2.1 = 0) ∧ (findP n room cs r).1 ≤ 4294967295) ∨ ((¬ (findP n room cs r).2.1 = 0) ∧ (findP n room cs r).1 = 0 ∧ 1 ≤ (findP n room cs r).2.1 ∧ (findP n room cs r).2.1 ≤ 6) := by
  unfold findP
  have h1 := hok.len
  have h2 := hok.room20
  split
  · rename_i id h
    have := idOf_le h
    exact .inl ⟨rfl, by simp only; omega⟩
  · split
    · split
      · exact .inl ⟨rfl, by simp only; omega⟩
      · exact .inr ⟨by simp, rfl, by simp, by simp⟩
    · exact .inr ⟨by simp, rfl, by simp, by simp⟩
theorem store_turns_down {w W0 w1 w2 : World} {F G : List Nat} {g n room : Nat} {cs : List (Option Rec)} (hb : Below w.heap.size w W0) (hF : ∀ k ∈ F, k < w.heap.size) (h : Turns (fun W X => StoreAt W X g n room cs []) F W0 w1) (hc : Chg G w1 w2)
    (hG : ∀ k ∈ G, w.heap.size ≤ k ∧ k < W0.heap.size) : Turns (fun W X => StoreAt W X g n room cs []) F w w2 := by
  obtain ⟨⟨F', h1, h2⟩, h3⟩ := h
  have hs := hb.size
  refine ⟨⟨F', h1.chg hc (fun k hk hm => ?_), fun k hk => ?_⟩, ((chg_of_below hb).trans h3 (fun x hx => .inl hx)).trans hc (fun x hx => .inr (hG x hx).1)⟩
  · have := hG k hm
    rcases h2 k hk with h4 | h4
    · have := hF k h4; omega
    · omega
  · rcases h2 k hk with h4 | h4
    · exact .inl h4
    · right; omega
theorem chg2 (w : World) (g : Nat) (u v : Value) : Chg [g] w ((w.setCell ⟨g, 0, none⟩ u).setCell ⟨g, 1, none⟩ v) := ((Chg.refl [g] w).setCell (.inl (by simp)) _).setCell (.inl (by simp)) _
/-- two edges as values -/
theorem eql_edge (lt lp ht hp : Int) (x : Bool) (hx : decide ((⟨lt, lp⟩ : Edg) = ⟨ht, hp⟩) = x) (w : World) : (binOp .eql 35 (.agg #[.int .u8 lt, .int .u32 lp]) (.agg #[.int .u8 ht, .int .u32 hp])).run Try.prog w = .ok (.bool x) w := by
  subst hx
  by_cases h1 : lt = ht
  · by_cases h2 : lp = hp
    · subst h1 h2
      rw [decide_eq_true rfl]
      go_simp
    · rw [decide_eq_false (fun e => h2 (by injection e))]
      have e2 : (lp == hp) = false := by simpa using h2
      subst h1
      go_simp
  · rw [decide_eq_false (fun e => h1 (by injection e))]
    go_simp
/-- is an edge made of its halves one of these? -/
def redE (z : Bool) (lo hi : Edg) : Bool := if z then decide (hi.pos = 0) else decide (lo = hi)
def fmOf (z : Bool) : Int := if z then 2 else 1
/-- what Make tells, and what the store holds then -/
def makeE (z : Bool) (n room : Nat) (cs : List (Option Rec)) (l : Int) (lo hi : Edg) : Edg × Nat × List (Option Rec) :=
  if l < 0 ∨ (n : Int) ≤ l then (.nil, 3, cs)
  else if leads cs n (fmOf z) lo (l + 1) && leads cs n (fmOf z) hi (l + 1) then
    (if redE z lo hi then (lo, 0, cs) else (fE (findP n room cs ⟨fmOf z, l, l, lo, hi⟩), (findP n room cs ⟨fmOf z, l, l, lo, hi⟩).2.1, (findP n room cs ⟨fmOf z, l, l, lo, hi⟩).2.2))
  else (.nil, 1, cs)
section
variable {z : Bool} {n room : Nat} {cs : List (Option Rec)} {l : Int} {lo hi : Edg}
theorem makeE_var (h : l < 0 ∨ (n : Int) ≤ l) : makeE z n room cs l lo hi = (.nil, 3, cs) := by unfold makeE; rw [if_pos h]
theorem makeE_arg (h : 0 ≤ l ∧ l < n) (h2 : leads cs n (fmOf z) lo (l + 1) = false ∨ leads cs n (fmOf z) hi (l + 1) = false) : makeE z n room cs l lo hi = (.nil, 1, cs) := by
  unfold makeE
  rw [if_neg (by omega), if_neg (by rcases h2 with h2 | h2 <;> simp [h2])]
theorem makeE_red (h : 0 ≤ l ∧ l < n) (h1 : leads cs n (fmOf z) lo (l + 1) = true) (h2 : leads cs n (fmOf z) hi (l + 1) = true) (h3 : redE z lo hi = true) : makeE z n room cs l lo hi = (lo, 0, cs) := by
  unfold makeE
  rw [if_neg (by omega), if_pos (by simp [h1, h2]), if_pos h3]
theorem makeE_find (h : 0 ≤ l ∧ l < n) (h1 : leads cs n (fmOf z) lo (l + 1) = true) (h2 : leads cs n (fmOf z) hi (l + 1) = true) (h3 : ¬ redE z lo hi = true) :
    makeE z n room cs l lo hi = (fE (findP n room cs ⟨fmOf z, l, l, lo, hi⟩), (findP n room cs ⟨fmOf z, l, l, lo, hi⟩).2.1, (findP n room cs ⟨fmOf z, l, l, lo, hi⟩).2.2) := by
  unfold makeE
  rw [if_neg (by omega), if_pos (by simp [h1, h2]), if_neg h3]
end
theorem u8_in (x : Int) (h : 0 ≤ x ∧ x < 256) : IntKind.u8.wrap x = x := by
  rw [IntKind.wrap_u8]; omega
end Go.Proofs.Ytfcklfpgjadfmaa
