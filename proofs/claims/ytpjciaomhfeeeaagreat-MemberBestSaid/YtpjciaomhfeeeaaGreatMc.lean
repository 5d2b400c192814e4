/- Plain: edges, records, which may be; stores as lists of records. -/
import Derived.Below
namespace Go.Proofs.YtpjciaomhfeeeaaGreat
set_option linter.unusedSimpArgs false
set_option linter.unusedVariables false

structure Edg where
  tag : Int
  pos : Int
deriving DecidableEq
structure Rec where
  form : Int
  top : Int
  bot : Int
  lo : Edg
  hi : Edg
deriving DecidableEq
def Edg.nil : Edg := ⟨0, 0⟩
def Rec.nil : Rec := ⟨0, 0, 0, .nil, .nil⟩
def Edg.Wf (e : Edg) : Prop := 0 ≤ e.tag ∧ e.tag ≤ 255 ∧ 0 ≤ e.pos ∧ e.pos ≤ 4294967295
def Rec.Wf (r : Rec) : Prop := (0 ≤ r.form ∧ r.form ≤ 255) ∧ (0 ≤ r.top ∧ r.top ≤ 255) ∧ (0 ≤ r.bot ∧ r.bot ≤ 255) ∧ r.lo.Wf ∧ r.hi.Wf
def Edg.cells (e : Edg) : List Value := [.int .u8 e.tag, .int .u32 e.pos]
def Rec.cells (r : Rec) : List Value := [.int .u8 r.form, .int .u8 r.top, .int .u8 r.bot, .int .u8 r.lo.tag, .int .u32 r.lo.pos, .int .u8 r.hi.tag, .int .u32 r.hi.pos]
theorem Edg.nil_wf : Edg.nil.Wf := by unfold Edg.Wf Edg.nil; simp
theorem Rec.nil_wf : Rec.nil.Wf := by unfold Rec.Wf Rec.nil; simp [Edg.nil_wf]

/-- may an edge be? -/
def plain (f : Int) (e : Edg) (l n : Int) : Bool :=
  decide (1 ≤ f ∧ f ≤ 5 ∧ 0 ≤ n ∧ n ≤ 16 ∧ 0 ≤ l ∧ l ≤ n) && (if f ≠ 5 ∨ e.pos = 0 then decide (e.tag = 0) else decide (l ≤ e.tag ∧ e.tag ≤ n))
/-- may a record be? -/
def right (r : Rec) (n : Int) : Bool :=
  decide (1 ≤ r.form ∧ r.form ≤ 5 ∧ 0 ≤ n ∧ n ≤ 16 ∧ r.top ≤ r.bot ∧ r.bot < n ∧ (r.top = r.bot ∨ r.form = 3 ∨ r.form = 4)) && plain r.form r.lo (r.bot + 1) n && plain r.form r.hi (r.bot + 1) n &&
    (if r.form = 2 ∨ r.form = 4 then decide (r.hi.pos ≠ 0) else decide (r.lo ≠ r.hi))

/-- the record of an id -/
def recAt (cs : List (Option Rec)) (id : Int) : Option Rec := if 2 ≤ id then (cs[(id - 2).toNat]?).join else none
/-- does an edge lead? -/
def leads (cs : List (Option Rec)) (n : Int) (f : Int) (e : Edg) (l : Int) : Bool :=
  plain f e l n && (decide (e.pos < 2) || (match recAt cs e.pos with | some r => decide (r.form = f ∧ l ≤ r.top ∧ e.tag ≤ r.top) | none => false))
end Go.Proofs.YtpjciaomhfeeeaaGreat
