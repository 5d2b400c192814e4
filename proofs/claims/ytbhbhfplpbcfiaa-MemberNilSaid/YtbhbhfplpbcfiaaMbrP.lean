/- Members: what is left of an edge, level by level: the program's way. -/
import Derived.Test.YtbhbhfplpbcfiaaMc
namespace Go.Proofs.Ytbhbhfplpbcfiaa
open Go Go.RowKit
set_option linter.unusedSimpArgs false
set_option linter.unusedVariables false

/-- what is left of an edge at a level -/
structure Rst where
  inn : Bool
  node : Bool
  r : Rec
  tag : Int
  l : Int
def Rst.nil : Rst := ⟨false, false, Rec.nil, 0, 0⟩
def Rst.cells (x : Rst) : List Value := [.bool x.inn, .bool x.node, .int .u8 x.r.form, .int .u8 x.r.top, .int .u8 x.r.bot, .int .u8 x.r.lo.tag, .int .u32 x.r.lo.pos, .int .u8 x.r.hi.tag, .int .u32 x.r.hi.pos, .int .u8 x.tag, .int .u8 x.l]
/-- what an edge has at a level -/
def atR (cs : List (Option Rec)) (e : Edg) (l : Int) : Rst := if e.pos = 0 then .nil else ⟨true, (recAt cs e.pos).isSome, (recAt cs e.pos).getD Rec.nil, e.tag, l⟩
/-- must a level that is left out be 0? -/
def zeroR (f : Int) (x : Rst) : Bool := f == 2 || f == 4 || (f == 5 && decide (x.tag ≤ x.l))
def topR (n : Int) (x : Rst) : Int := if x.node then x.r.top else n
/-- what is left when the level is 0, or 1 -/
def halfR (cs : List (Option Rec)) (n f : Int) (x : Rst) (one : Bool) : Rst :=
  if x.l < topR n x then (if zeroR f x && one then .nil else { x with l := x.l + 1 })
  else if one && (x.r.top == x.r.bot || x.r.form == 3) then atR cs x.r.hi (x.l + 1)
  else if x.r.top == x.r.bot then atR cs x.r.lo (x.l + 1)
  else { x with l := x.l + 1, r := { x.r with top := x.r.top + 1 } }
/-- members of what is left, as numbers by levels: m levels are to come -/
def memR (cs : List (Option Rec)) (n f : Int) : Nat → Rst → Nat → List Nat
  | 0, x, y => if x.inn then [y] else []
  | m + 1, x, y => if x.inn then memR cs n f m (halfR cs n f x false) (2 * y) ++ memR cs n f m (halfR cs n f x true) (2 * y + 1) else []
/-- what is left may be so, at a level -/
structure RstOk (n : Int) (l : Int) (x : Rst) : Prop where
  l : x.inn = true → x.l = l
  wf : x.r.Wf
  tag : 0 ≤ x.tag ∧ x.tag ≤ 255
  top : x.node = true → x.r.top ≤ x.r.bot ∧ x.r.bot < n
  ln : 0 ≤ x.l ∧ x.l ≤ n
theorem RstOk.nil {n l : Int} (hn : 0 ≤ n) : RstOk n l .nil := ⟨fun h => (by cases h), Rec.nil_wf, by decide, fun h => (by cases h), ⟨by decide, hn⟩⟩
theorem atR_ok {cs : List (Option Rec)} {n l : Int} {e : Edg} (hn : 0 ≤ n) (he : e.Wf) (hl : 0 ≤ l ∧ l ≤ n) (hcs : ∀ id r, recAt cs id = some r → r.Wf ∧ r.top ≤ r.bot ∧ r.bot < n) : RstOk n l (atR cs e l) := by
  unfold atR
  split
  · exact RstOk.nil hn
  · cases h : recAt cs e.pos with
    | none => exact ⟨fun _ => rfl, Rec.nil_wf, ⟨he.1, he.2.1⟩, fun h => (by cases h), hl⟩
    | some r => exact ⟨fun _ => rfl, (hcs _ _ h).1, ⟨he.1, he.2.1⟩, fun _ => (hcs _ _ h).2, hl⟩
theorem halfR_ok {cs : List (Option Rec)} {n f l : Int} {x : Rst} {one : Bool} (hn : 0 ≤ n) (hn16 : n ≤ 16) (h : RstOk n l x) (hi : x.inn = true) (hl : l < n) (hcs : ∀ id r, recAt cs id = some r → r.Wf ∧ r.top ≤ r.bot ∧ r.bot < n) : RstOk n (l + 1) (halfR cs n f x one) := by
  have h1 := h.l hi
  have h2 := h.ln
  unfold halfR
  split
  · split
    · exact RstOk.nil hn
    · exact ⟨fun _ => by simp only; omega, h.wf, h.tag, h.top, by simp only; omega⟩
  · rename_i ht
    have hnode : x.node = true := by
      cases hx : x.node with
      | true => rfl
      | false => unfold topR at ht; rw [hx] at ht; simp at ht; omega
    obtain ⟨w1, w2, w3, w4, w5⟩ := h.wf
    split
    · rw [h1]; exact atR_ok hn w5 (by omega) hcs
    · split
      · rw [h1]; exact atR_ok hn w4 (by omega) hcs
      · rename_i hne
        have ht2 := h.top hnode
        simp only [beq_iff_eq] at hne
        refine ⟨fun _ => by simp only; omega, ⟨w1, by simp only; omega, w3, w4, w5⟩, h.tag, fun _ => by simp only; omega, by simp only; omega⟩
theorem Rst.cells_len (x : Rst) : x.cells.length = 11 := rfl
end Go.Proofs.Ytbhbhfplpbcfiaa
