/- Steps of a script: their cells and texts. -/
import Derived.Test.YtkbanaaljebhiaaGreatDoorScNames
namespace Go.Proofs.YtkbanaaljebhiaaGreatDoor
open Go.RowKit
set_option linter.unusedSimpArgs false
set_option linter.unusedVariables false

/-- a step of a script -/
structure Stp where
  kind : Int
  form : Int
  a : Int
  b : Int
  c : Int
  v : Int
  k : Int
  one : Bool
deriving DecidableEq
def Stp.nil : Stp := ⟨0, 0, 0, 0, 0, 0, 0, false⟩
def Stp.Wf (s : Stp) : Prop := (0 ≤ s.kind ∧ s.kind ≤ 255) ∧ (0 ≤ s.form ∧ s.form ≤ 255) ∧ (Lit.int .i64 s.a).wf = true ∧ (Lit.int .i64 s.b).wf = true ∧ (Lit.int .i64 s.c).wf = true ∧ (Lit.int .i64 s.v).wf = true ∧ (0 ≤ s.k ∧ s.k ≤ 65535)
def Stp.cells (s : Stp) : List Value := [.int .u8 s.kind, .int .u8 s.form, .int .i64 s.a, .int .i64 s.b, .int .i64 s.c, .int .i64 s.v, .int .u16 s.k, .bool s.one]
theorem Stp.cells_len (s : Stp) : s.cells.length = 8 := rfl
/-- the numbers of a step as they are written -/
def Stp.nums (s : Stp) : List Int := [s.form, s.a, s.b, s.c, s.v, s.k, if s.one then 1 else 0]
/-- the name of a kind -/
def nameOf (k : Int) : List UInt8 := (kindL[k.toNat]?).getD [110, 111, 110, 101]
/-- numbers, each behind a blank -/
def tailOf (l : List Int) : List UInt8 := l.flatMap fun n => 32 :: Lib.itoa n
/-- the text of a step -/
def Stp.text (s : Stp) : List UInt8 := nameOf s.kind ++ tailOf s.nums
/-- the step of eight numbers -/
def stepOf (x : List Nat) : Stp :=
  let g := fun i => x.getD i 0
  ⟨(g 0 % 30 : Nat), (g 1 % 7 : Nat), (g 2 % 32 : Nat), (g 3 % 32 : Nat), (g 4 % 32 : Nat), (g 5 % 24 : Nat), (g 6 + 256 * g 7 : Nat), g 7 % 2 == 1⟩
/-- the steps of bytes -/
def decode (b : List Nat) : List Stp := if h : b = [] then [] else stepOf (b.take 8) :: decode (b.drop 8)
termination_by b.length
decreasing_by
  cases b with
  | nil => exact absurd rfl h
  | cons x r => simp; omega
theorem decode_nil : decode [] = [] := by rw [decode]; simp
theorem decode_cons {b : List Nat} (h : b ≠ []) : decode b = stepOf (b.take 8) :: decode (b.drop 8) := by rw [decode, dif_neg h]
/-- a byte -/
def Y (n : Nat) : Value := .int .u8 (n : Int)
/-- a slice of bytes that came in -/
def BytesArg (w : World) (A : Option Addr) (n c : Nat) (bs : List Nat) : Prop :=
  bs.length = n ∧ n ≤ c ∧ c ≤ maxLen ∧ RowF Y 0 w w.heap.size A bs ∧ ∀ x ∈ bs, x ≤ 255
theorem decode_len : ∀ (n : Nat) (b : List Nat), b.length ≤ n → (decode b).length ≤ b.length
  | 0, b, h => by
    have : b = [] := List.eq_nil_of_length_eq_zero (by omega)
    subst this
    rw [decode_nil]
    exact Nat.le_refl _
  | n + 1, b, h => by
    by_cases hb : b = []
    · subst hb
      rw [decode_nil]
      exact Nat.le_refl _
    · have : 0 < b.length := List.length_pos_iff.2 hb
      rw [decode_cons hb, List.length_cons]
      have h2 := decode_len n (b.drop 8) (by rw [List.length_drop]; omega)
      rw [List.length_drop] at h2
      omega
theorem getD_take {x i : Nat} {b : List Nat} (h : i < x) : (b.take x).getD i 0 = b.getD i 0 := by
  simp [List.getD, List.getElem?_take, h]
theorem step_take (b : List Nat) : stepOf (b.take 8) = stepOf b := by
  unfold stepOf
  simp only [getD_take (show 0 < 8 by omega), getD_take (show 1 < 8 by omega), getD_take (show 2 < 8 by omega), getD_take (show 3 < 8 by omega), getD_take (show 4 < 8 by omega), getD_take (show 5 < 8 by omega), getD_take (show 6 < 8 by omega), getD_take (show 7 < 8 by omega)]
theorem getD_le {b : List Nat} (h : ∀ x ∈ b, x ≤ 255) (i : Nat) : b.getD i 0 ≤ 255 := by
  rcases Nat.lt_or_ge i b.length with hi | hi
  · rw [List.getD_eq_getElem?_getD, List.getElem?_eq_getElem hi]
    exact h _ (List.getElem_mem hi)
  · rw [List.getD_eq_getElem?_getD, List.getElem?_eq_none hi]
    simp
theorem step_wf (b : List Nat) (h : ∀ x ∈ b, x ≤ 255) : (stepOf b).Wf := by
  have h6 := getD_le h 6
  have h7 := getD_le h 7
  unfold stepOf Stp.Wf
  simp only [List.getD_eq_getElem?_getD] at *
  generalize b[6]?.getD 0 = x6 at *
  generalize b[7]?.getD 0 = x7 at *
  simp [Lit.wf, IntKind.min, IntKind.max, IntKind.signed, IntKind.bits]
  omega
theorem decode_wf : ∀ (n : Nat) (b : List Nat), b.length ≤ n → (∀ x ∈ b, x ≤ 255) → ∀ s ∈ decode b, s.Wf
  | 0, b, h, _ => by
    have : b = [] := List.eq_nil_of_length_eq_zero (by omega)
    subst this
    rw [decode_nil]
    simp
  | n + 1, b, h, hx => by
    by_cases hb : b = []
    · subst hb
      rw [decode_nil]
      simp
    · have : 0 < b.length := List.length_pos_iff.2 hb
      rw [decode_cons hb]
      intro s hs
      rcases List.mem_cons.1 hs with rfl | hs
      · exact step_wf _ fun x h => hx x (List.mem_of_mem_take h)
      · exact decode_wf n (b.drop 8) (by rw [List.length_drop]; omega) (fun x h => hx x (List.mem_of_mem_drop h)) s hs
end Go.Proofs.YtkbanaaljebhiaaGreatDoor
