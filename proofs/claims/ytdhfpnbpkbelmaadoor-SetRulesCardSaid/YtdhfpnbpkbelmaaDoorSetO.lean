/- Contracts: set.Of, column, single, Single. -/
import Derived.Test.YtdhfpnbpkbelmaaDoorSetQ
namespace Go.Proofs.YtdhfpnbpkbelmaaDoor
open Go.RowKit Go.Sort
set_option linter.unusedSimpArgs false
set_option linter.unusedVariables false

/-- a list of ints as an argument -/
structure IntsArg (w : World) (A : Option Addr) (len c : Nat) (l : List Int) : Prop where
  hlen : l.length = len
  hcap : len ≤ c
  hmax : c ≤ maxLen
  row : RowF (Value.int .i64) 0 w w.heap.size A l
  wf : ∀ x ∈ l, (Lit.int .i64 x).wf = true
theorem IntsArg.on {w w' : World} {A : Option Addr} {len c : Nat} {l : List Int} (h : IntsArg w A len c l) (hb : Below w.heap.size w w') : IntsArg w' A len c l := ⟨h.hlen, h.hcap, h.hmax, h.row.on hb, h.wf⟩
/-- one assignment more -/
def putBit (ws : List Nat) (x : Nat) : List Nat := ws.set (x / 64) (wat ws (x / 64) ||| 2 ^ (x % 64))
def ofL (m : Nat) (l : List Nat) : List Nat := l.foldl putBit (List.replicate m 0)
theorem putBit_length (ws : List Nat) (x : Nat) : (putBit ws x).length = ws.length := by simp [putBit]
theorem ofL_length (m : Nat) (l : List Nat) : (ofL m l).length = m := by
  unfold ofL
  suffices h : ∀ (l ws : List Nat), (l.foldl putBit ws).length = ws.length by rw [h]; simp
  intro l
  induction l with
  | nil => intro ws; rfl
  | cons x r ih => intro ws; rw [List.foldl_cons, ih, putBit_length]
theorem putBit_bit {ws : List Nat} {x : Nat} (hx : x / 64 < ws.length) (y : Nat) : bitAt (putBit ws x) y = (bitAt ws y || decide (y = x)) := by
  unfold bitAt putBit
  by_cases h : y / 64 = x / 64
  · rw [h, List.getElem?_set_self hx, Option.getD_some, Nat.testBit_or, Nat.testBit_two_pow]
    unfold wat
    congr 1
    rw [decide_eq_decide]
    omega
  · rw [List.getElem?_set_ne (fun e => h e.symm), decide_eq_false (p := y = x) (fun e => h (by rw [e])), Bool.or_false]
theorem ofL_snoc (m : Nat) (l : List Nat) (x : Nat) : ofL m (l ++ [x]) = putBit (ofL m l) x := by unfold ofL; rw [List.foldl_append]; rfl
theorem foldPut_bit {m : Nat} : ∀ (l ws : List Nat), ws.length = m → (∀ x ∈ l, x / 64 < m) → ∀ y, bitAt (l.foldl putBit ws) y = (bitAt ws y || decide (y ∈ l))
  | [], ws, _, _, y => by simp
  | x :: r, ws, hw, h, y => by
    rw [List.foldl_cons, foldPut_bit r _ (by rw [putBit_length]; exact hw) (fun z hz => h z (List.mem_cons_of_mem _ hz)), putBit_bit (by rw [hw]; exact h x (List.mem_cons_self ..)), Bool.or_assoc]
    congr 1
    rw [Bool.eq_iff_iff]
    simp
theorem ofL_bit (m : Nat) (l : List Nat) (h : ∀ x ∈ l, x / 64 < m) (y : Nat) : bitAt (ofL m l) y = decide (y ∈ l) := by
  unfold ofL
  rw [foldPut_bit l _ (by simp) h]
  unfold bitAt
  rw [List.getElem?_replicate]
  split <;> simp
theorem foldPut_lt : ∀ (l ws : List Nat), (∀ v ∈ ws, v < 18446744073709551616) → ∀ v ∈ l.foldl putBit ws, v < 18446744073709551616
  | [], ws, h, v, hv => h v hv
  | x :: r, ws, h, v, hv => foldPut_lt r (putBit ws x) (fun u hu => by
    unfold putBit at hu
    rcases List.mem_or_eq_of_mem_set hu with h1 | rfl
    · exact h u h1
    · have h1 : wat ws (x / 64) < 2 ^ 64 := wat_lt h _
      exact Nat.or_lt_two_pow h1 (Nat.pow_lt_pow_right (by omega) (Nat.mod_lt _ (by omega)))) v hv
theorem ofL_lt (m : Nat) (l : List Nat) : ∀ v ∈ ofL m l, v < 18446744073709551616 := foldPut_lt l _ (by simp +contextual)
theorem ofL_ok {n : Nat} (hn : n ≤ 16) {l : List Nat} (hl : ∀ x ∈ l, x < 2 ^ n) : SOk n (ofL (wordsN n) l) :=
  ⟨hn, ofL_length _ _, ofL_lt _ _, fun x hx hx2 => by
    rw [ofL_bit _ _ (fun y hy => idx_lt (hl y hy)), decide_eq_false]
    intro hm
    have := hl x hm
    omega⟩
/-- may all be in? -/
def allIn (n : Nat) (l : List Int) : Prop := ∀ x ∈ l, 0 ≤ x ∧ x < (2 ^ n : Nat)
theorem u64_pow (r : Nat) (hr : r < 64) : IntKind.u64.wrap ((2 : Int) ^ r) = ((2 ^ r : Nat) : Int) := by
  have hp64 : (2 : Nat) ^ r < 2 ^ 64 := Nat.pow_lt_pow_right (by decide) hr
  have h2 : ((2 : Int) ^ r) = ((2 ^ r : Nat) : Int) := by simp
  rw [h2, IntKind.wrap_u64]
  clear h2
  generalize (2 : Nat) ^ r = p at *
  omega
def OfPost (n : Nat) (l : List Int) (w : World) (e : Ending) (w' : World) : Prop := (allIn n l ∧ SetRes2 w n (ofL (wordsN n) (l.map Int.toNat)) e w') ∨ (¬ allIn n l ∧ SetErr w 1 e w')
end Go.Proofs.YtdhfpnbpkbelmaaDoor
