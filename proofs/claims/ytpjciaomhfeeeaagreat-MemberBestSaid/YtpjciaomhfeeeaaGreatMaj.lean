/- Contracts: member.Nth, First, Last, Rank. Contracts: member.First, Last. Contract: member.Rank. -/
import Derived.Test.YtpjciaomhfeeeaaGreatRnkN
import Derived.Test.YtpjciaomhfeeeaaGreatMbrC
import Derived.Test.YtpjciaomhfeeeaaGreatMbMay
import Derived.Test.YtpjciaomhfeeeaaGreatMai
section
namespace Go.Proofs.YtpjciaomhfeeeaaGreat
open Go Go.RowKit Go.Maps
set_option linter.unusedSimpArgs false
set_option linter.unusedVariables false

def PairOut (w : World) (a : Int) (er : Nat) (x : Ending) (w' : World) : Prop := x = .returned (.tuple #[.int .i64 a, .int .u8 (er : Int)]) ∧ Below w.heap.size w w'
/-- what a built store and an order are for member -/
structure MbAt (w : World) (F G : List Nat) (gs go n room : Nat) (cs : List (Option Rec)) (free : List Int) (ps ls : List Int) : Prop where
  st : StoreAt w F gs n room cs free
  od : OrdAt w G go ps ls
  fit : Fits ps ls
  hcs : ∀ id r, recAt cs id = some r → r.Wf ∧ r.top ≤ r.bot ∧ r.bot < n
theorem MbAt.on {w w' : World} {F G : List Nat} {gs go n room : Nat} {cs : List (Option Rec)} {free : List Int} {ps ls : List Int} (h : MbAt w F G gs go n room cs free ps ls) (hb : Below w.heap.size w w') : MbAt w' F G gs go n room cs free ps ls := ⟨h.st.on hb, h.od.on hb, h.fit, h.hcs⟩
theorem MbAt.tl {w : World} {F G : List Nat} {gs go n room cb q : Nat} {cs : List (Option Rec)} {free : List Int} {ps ls : List Int} {f : Int} (h : MbAt w F G gs go n room cs free ps ls) (hC : CastAt w cb gs go f n) (hF : ∀ k ∈ F, k < q) (hc : cb < q) : TlAt w F gs go n room cb cs free f q :=
  ⟨h.st, hC, h.hcs, fun hm => Nat.lt_irrefl _ (hF q hm), Nat.ne_of_lt hc⟩
theorem hbt {w w' w'' : World} {q : Nat} (h : Below w.heap.size w w') (hc : Chg [q] w' w'') (hq : w.heap.size ≤ q) : Below w.heap.size w w'' := h.trans (hc.below h.size (fun x hx => by simp at hx; subst hx; exact hq))
def nthC (cs : List (Option Rec)) (n : Nat) (ps : List Int) (f : Int) (e : Edg) (k : Int) : Int × Nat :=
  if startC cs n ps.length f e ≠ 0 then (0, startC cs n ps.length f e) else if k < 0 ∨ (cntR cs n f n (atR cs e 0) : Int) ≤ k then (0, 11) else ((upM ps n (nthR cs n f n (atR cs e 0) k.toNat 0) : Nat), 0)

end Go.Proofs.YtpjciaomhfeeeaaGreat
end

section
namespace Go.Proofs.YtpjciaomhfeeeaaGreat
open Go Go.RowKit Go.Maps
set_option linter.unusedSimpArgs false
set_option linter.unusedVariables false

def lastC (cs : List (Option Rec)) (n : Nat) (ps : List Int) (f : Int) (e : Edg) : Int × Nat :=
  if startC cs n ps.length f e ≠ 0 then (0, startC cs n ps.length f e) else if (atR cs e 0).inn = false then (0, 11) else ((upM ps n (nthR cs n f n (atR cs e 0) (cntR cs n f n (atR cs e 0) - 1) 0) : Nat), 0)
end Go.Proofs.YtpjciaomhfeeeaaGreat
end

section
namespace Go.Proofs.YtpjciaomhfeeeaaGreat
open Go Go.RowKit Go.Maps
set_option linter.unusedSimpArgs false
set_option linter.unusedVariables false

def rankC (cs : List (Option Rec)) (n : Nat) (ps : List Int) (f : Int) (e : Edg) (x : Int) : Int × Nat :=
  if startC cs n ps.length f e ≠ 0 then (0, startC cs n ps.length f e) else if x < 0 ∨ ((2 ^ n : Nat) : Int) ≤ x then (0, 1) else ((rankR cs n f (rdown x.toNat ps).testBit n (atR cs e 0) : Nat), 0)
end Go.Proofs.YtpjciaomhfeeeaaGreat
end
