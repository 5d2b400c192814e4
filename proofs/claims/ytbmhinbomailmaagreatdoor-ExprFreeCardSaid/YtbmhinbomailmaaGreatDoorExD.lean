/- Expressions as values in memory. -/
import Derived.Test.YtbmhinbomailmaaGreatDoorExV
import Derived.Test.YtbmhinbomailmaaGreatDoorMa
namespace Go.Proofs.YtbmhinbomailmaaGreatDoor
open Go.RowKit
set_option linter.unusedSimpArgs false
set_option linter.unusedVariables false

/-- a part of an expression, its type and what it holds, as an interface value -/
abbrev ifV (v : TypeId × Value) : Value := .iface v.1 v.2
/-- the value v is the expression x; what it leads to lies below B -/
def ExAt (w : World) (B : Nat) : Ex → TypeId × Value → Prop
  | .const b, v => v = (106, .bool b)
  | .var n, v => v = (107, .int .i64 (n : Nat))
  | .not x, v => ∃ y, v = (109, .agg #[ifV y]) ∧ ExAt w B x y
  | .pair op a b, v => ∃ y z, v = (89, .agg #[.int .u8 (op : Nat), ifV y, ifV z]) ∧ ExAt w B a y ∧ ExAt w B b z
  | .bound each l x, v => ∃ A n c y, v = (115, .agg #[.bool each, .slice A n c, ifV y]) ∧ OwnI w 0 (.slice A n c) (l.map fun (k : Nat) => (k : Int)) ∧ (∀ k ∈ blk (.slice A n c), k < B) ∧ ExAt w B x y
theorem OwnI.keep {w w' : World} {B : Nat} {v : Value} {l : List Int} (h : OwnI w 0 v l) (hv : ∀ k ∈ blk v, k < B) (hk : ∀ k, k < B → (∃ cs, Blk w k 3 cs) → w'.heap[k]? = w.heap[k]?) : OwnI w' 0 v l := by
  rcases h with ⟨hl, h | ⟨g, cap, cur, rfl, hg, hh, hr⟩⟩
  · exact ⟨hl, .inl h⟩
  · exact ⟨hl, .inr ⟨g, cap, cur, rfl, hg, by rw [hk g (hv g (mem_blk.2 rfl)) ⟨_, hh⟩]; exact hh, hr⟩⟩
theorem ExAt.keep {w w' : World} {B B' : Nat} (hB : B ≤ B') (hk : ∀ k, k < B → (∃ cs, Blk w k 3 cs) → w'.heap[k]? = w.heap[k]?) : ∀ (x : Ex) (v : TypeId × Value), ExAt w B x v → ExAt w' B' x v
  | .const b, v, h => h
  | .var n, v, h => h
  | .not x, v, ⟨y, h, h1⟩ => ⟨y, h, ExAt.keep hB hk x y h1⟩
  | .pair op a b, v, ⟨y, z, h, h1, h2⟩ => ⟨y, z, h, ExAt.keep hB hk a y h1, ExAt.keep hB hk b z h2⟩
  | .bound each l x, v, ⟨A, n, c, y, h, h1, h2, h3⟩ => ⟨A, n, c, y, h, h1.keep h2 hk, fun k hm => Nat.lt_of_lt_of_le (h2 k hm) hB, ExAt.keep hB hk x y h3⟩
/-- .. where only blocks of other types have turned -/
theorem ExAt.chg {w w' : World} {x : Ex} {v : TypeId × Value} {g : Nat} {T : TypeId} {cs : Array Value} (h : ExAt w w.heap.size x v) (hb : Chg [g] w w') (hg : Blk w g T cs) (hT : 3 ≠ T) : ExAt w' w'.heap.size x v :=
  ExAt.keep hb.size (fun k hk ⟨cs', h'⟩ => hb.block k hk fun hm => by
    rw [List.mem_singleton] at hm
    subst hm
    exact Blk.ne_ h' hg hT rfl) x v h
theorem ExAt.below {w w' : World} {x : Ex} {v : TypeId × Value} {B : Nat} (h : ExAt w B x v) (hb : Below B w w') : ExAt w' B x v :=
  ExAt.keep (Nat.le_refl _) (fun k hk _ => hb.block k hk) x v h
theorem ExAt.more {w : World} {x : Ex} {v : TypeId × Value} {B B' : Nat} (h : ExAt w B x v) (hB : B ≤ B') : ExAt w B' x v :=
  ExAt.keep hB (fun k hk _ => rfl) x v h
theorem ExAt.on {w w' : World} {x : Ex} {v : TypeId × Value} (h : ExAt w w.heap.size x v) (hb : Below w.heap.size w w') : ExAt w' w'.heap.size x v := (h.below hb).more hb.size
/-- lists of them -/
def ExsAt (w : World) (B : Nat) : List Ex → List (TypeId × Value) → Prop
  | [], [] => True
  | x :: xs, v :: vs => ExAt w B x v ∧ ExsAt w B xs vs
  | _, _ => False
theorem ExsAt.keep {w w' : World} {B B' : Nat} (hk : ∀ x v, ExAt w B x v → ExAt w' B' x v) : ∀ {xs vs}, ExsAt w B xs vs → ExsAt w' B' xs vs
  | [], [], _ => trivial
  | x :: xs, v :: vs, ⟨h1, h2⟩ => ⟨hk x v h1, ExsAt.keep hk h2⟩
theorem ExsAt.snoc {w : World} {B : Nat} {x v} (h : ExAt w B x v) : ∀ {xs vs}, ExsAt w B xs vs → ExsAt w B (xs ++ [x]) (vs ++ [v])
  | [], [], _ => ⟨h, trivial⟩
  | x :: xs, v :: vs, ⟨h1, h2⟩ => ⟨h1, ExsAt.snoc h h2⟩
theorem ExsAt.length {w : World} {B : Nat} : ∀ {xs vs}, ExsAt w B xs vs → xs.length = vs.length
  | [], [], _ => rfl
  | x :: xs, v :: vs, ⟨_, h2⟩ => by simp [ExsAt.length h2]
/-- two sides with an operator, as a value -/
def pairV (op : Nat) (a b : TypeId × Value) : TypeId × Value := (89, .agg #[.int .u8 (op : Nat), ifV a, ifV b])
def foldLV (op : Nat) : List (TypeId × Value) → TypeId × Value | [] => (0, .bool false) | x :: l => l.foldl (pairV op) x
def foldRV (op : Nat) : List (TypeId × Value) → TypeId × Value | [] => (0, .bool false) | [x] => x | x :: y :: l => pairV op x (foldRV op (y :: l))
def foldXV (r : Nat) (l : List (TypeId × Value)) : TypeId × Value := if r = 2 then foldRV 62 l else foldLV (sgn r) l
theorem foldl_at {w : World} {B op : Nat} : ∀ {xs vs} {x : Ex} {v : TypeId × Value}, ExAt w B x v → ExsAt w B xs vs → ExAt w B (xs.foldl (.pair op) x) (vs.foldl (pairV op) v)
  | [], [], _, _, h, _ => h
  | x :: xs, v :: vs, _, _, h, ⟨h1, h2⟩ => foldl_at (xs := xs) (vs := vs) (⟨_, _, rfl, h, h1⟩) h2
theorem foldr_at {w : World} {B op : Nat} : ∀ {xs vs}, xs ≠ [] → ExsAt w B xs vs → ExAt w B (foldR op xs) (foldRV op vs)
  | [], _, h, _ => absurd rfl h
  | [x], [v], _, h => h.1
  | x :: y :: l, v :: u :: m, _, h => ⟨_, _, rfl, h.1, foldr_at (by simp) h.2⟩
  | [_], [], _, h => h.elim
  | [_], _ :: _ :: _, _, h => h.2.elim
  | _ :: _ :: _, [], _, h => h.elim
  | _ :: _ :: _, [_], _, h => h.2.elim
theorem foldX_at {w : World} {B r : Nat} {xs vs} (h0 : xs ≠ []) (h : ExsAt w B xs vs) : ExAt w B (foldX r xs) (foldXV r vs) := by
  unfold foldX foldXV
  split
  · exact foldr_at h0 h
  · match xs, vs, h with
    | [], _, _ => exact absurd rfl h0
    | x :: xs, v :: vs, h => exact foldl_at h.1 h.2
/-- the last ones of a list, folded to the right -/
theorem foldRV_drop {op : Nat} {l : List (TypeId × Value)} {k : Nat} {x : TypeId × Value} (h : l[k]? = some x) (hk : k + 1 < l.length) : foldRV op (l.drop k) = pairV op x (foldRV op (l.drop (k + 1))) := by
  have h1 : l.drop k = x :: l.drop (k + 1) := by
    rw [List.drop_eq_getElem_cons (by omega)]
    rw [List.getElem?_eq_getElem (by omega)] at h
    injection h with h
    rw [h]
  rw [h1]
  cases h2 : l.drop (k + 1) with
  | nil => have := congrArg List.length h2; simp at this; omega
  | cons y m => rfl
end Go.Proofs.YtbmhinbomailmaaGreatDoor
