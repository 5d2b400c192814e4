/- Contracts: the document's Table, Vars, Right, Zero; great. -/
import Derived.Test.YtpjciaomhfeeeaaGreatDoorMe
namespace Go.Proofs.YtpjciaomhfeeeaaGreatDoor
open Go.RowKit Go.Sort
set_option linter.unusedSimpArgs false
set_option linter.unusedVariables false

theorem info_bool5 : (Tryz.prog.info? 4).map (fun i => (i.zero, i.size, i.bytes)) = some (some (.bool false), 1, 1) := by kernel_rfl
/-- a table as a result -/
def TabRes (w : World) (t : List Bool) (e : Ending) (w' : World) : Prop := ∃ A c, e = .returned (.slice A t.length c) ∧ OwnF Value.bool 4 w' w.heap.size (.slice A t.length c) t ∧ Below w.heap.size w w'
theorem range_snoc {α : Type} (f : Nat → α) (k : Nat) : (List.range (k + 1)).map f = (List.range k).map f ++ [f k] := by rw [List.range_succ, List.map_append]; rfl
theorem rzero_any (m : Int) (A : Option Addr) (len c : Nat) (w : World) (x : Bool) (hx : decide (m = 0 ∧ len = 0) = x) : Calls Tryz.prog 15 #[setA m A len c] w fun e w' => e = .returned (.bool x) ∧ Below w.heap.size w w' := by
  unfold setA
  by_cases h1 : m = 0
  · subst h1
    by_cases h2 : len = 0
    · subst h2
      have : x = true := by rw [← hx]; decide
      subst this
      go_enter Tryz.func15, Tryz.ntmps15
      go_wp2
      go_ret
      exact ⟨rfl, (Below.refl _ _).alloc (Nat.le_refl _) _⟩
    · have : x = false := by rw [← hx, decide_eq_false]; omega
      subst this
      have hd : ((len : Int) == 0) = false := by rw [beq_eq_false_iff_ne]; omega
      clear h2 hx
      go_enter Tryz.func15, Tryz.ntmps15
      go_wp2
      go_ret
      exact ⟨by first | rfl | exact ret_bool hd, (Below.refl _ _).alloc (Nat.le_refl _) _⟩
  · have : x = false := by rw [← hx, decide_eq_false]; omega
    subst this
    have hd : (m == 0) = false := by rw [beq_eq_false_iff_ne]; exact h1
    clear h1 hx
    go_enter Tryz.func15, Tryz.ntmps15
    go_wp2
    go_ret
    exact ⟨by first | rfl | exact ret_bool hd, (Below.refl _ _).alloc (Nat.le_refl _) _⟩
def greatB (m : Int) (len : Nat) : Bool := decide (8 < m ∨ 8 < len)
/-- may a set be, bit by bit -/
theorem sright_bits {m : Int} {ws : List Nat} (n : Nat) (hm : m = n) (hn : n ≤ 16) (hlt : ∀ v ∈ ws, v < 18446744073709551616) (hl : ws.length = wordsN n) : srightB m ws = true ↔ ∀ x, 2 ^ n ≤ x → x < 64 → (wat ws 0).testBit x = false := by
  have hi := sright_iff (m := m) hlt
  have hb0 : ∀ j, j < 64 → bitAt ws j = (wat ws 0).testBit j := fun j hj => by
    unfold bitAt wat
    rw [show j / 64 = 0 by omega, Nat.mod_eq_of_lt hj]
  rw [hi, hm, Int.toNat_natCast]
  constructor
  · rintro ⟨_, h⟩ x h1 h2
    rw [← hb0 x h2]
    exact h.hi x h1 h2
  · intro h
    exact ⟨by omega, hn, hl, hlt, fun x h1 h2 => by rw [hb0 x h2]; exact h x h1 h2⟩
end Go.Proofs.YtpjciaomhfeeeaaGreatDoor
