/- Contract: the document's num of any whole number. -/
import Derived.Test.YtkbanaaljebhiaaGreatDoorNum
import Derived.Laws.Concat
namespace Go.Proofs.YtkbanaaljebhiaaGreatDoor
open Go.RowKit Go.Sort
set_option linter.unusedSimpArgs false
set_option linter.unusedVariables false

theorem itoa_len (n : Int) (h : (Lit.int .i64 n).wf = true) : (Lib.itoa n).length ≤ 21 := by
  have hb := i64_of_wf h
  unfold Lib.itoa
  split
  · rw [List.length_cons]
    have := digs_len n.natAbs (by omega)
    omega
  · have := digs_len n.toNat (by omega)
    omega
theorem itoa_any (n : Int) (hn : (Lit.int .i64 n).wf = true) (w : World) (ht : Pow w) : Calls Tryz.prog 20 #[.int .i64 n] w fun e w' => e = .returned (txt (Lib.itoa n)) ∧ Below w.heap.size w w' := by
  have hb := i64_of_wf hn
  exact (Tryz.strconv_Itoa n (by omega) (by omega) w ht).mono fun e w' ⟨he, k, os, hw⟩ => ⟨by rw [he]; rfl, by rw [hw]; exact below_growN w k os⟩
theorem itoa_negN (m : Nat) (h : 0 < m) : Lib.itoa (-(m : Int)) = 45 :: Lib.decDigits m := by
  unfold Lib.itoa
  rw [if_pos (by omega)]
  congr 2
  omega
theorem dec_split {m : Nat} (h : 10 ≤ m) : Lib.decDigits m = Lib.decDigits (m / 10) ++ Lib.decDigits (m % 10) := by
  rw [Lib.decDigits, dif_neg (by omega), Lib.decDigits_one (i := m % 10) (by omega)]
end Go.Proofs.YtkbanaaljebhiaaGreatDoor
