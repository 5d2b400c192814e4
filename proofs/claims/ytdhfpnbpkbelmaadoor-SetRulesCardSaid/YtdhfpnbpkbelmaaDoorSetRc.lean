/- Answers: set.Op, Ite; tables. -/
import Derived.Test.YtdhfpnbpkbelmaaDoorSetRb
import Derived.Test.YtdhfpnbpkbelmaaDoorSetPe
namespace Go.Proofs.YtdhfpnbpkbelmaaDoor
open Go.RowKit Go.Sort
set_option linter.unusedSimpArgs false
set_option linter.unusedVariables false

theorem mod_lt_pow {n x : Nat} (hx : x < 2 ^ n) : x % 64 < 2 ^ n := by have := Nat.mod_le x 64; omega
theorem opT_length (o : Nat) (t1 t2 : List Bool) : (opT o t1 t2).length = t1.length := by simp [opT]
theorem iteT_length (t1 t2 t3 : List Bool) : (iteT t1 t2 t3).length = t1.length := by simp [iteT]
theorem and_full_ok {n : Nat} (hn : n ≤ 16) {f : Nat → Nat} (hf : ∀ k, f k < 18446744073709551616) : SOk n ((List.range (wordsN n)).map fun k => f k &&& fullN n) := by
  refine SOk.made hn (fun k _ => Nat.lt_of_le_of_lt Nat.and_le_left (hf k)) (fun j h1 h2 => ?_)
  rw [Nat.testBit_and, fullN_bit n j h2, decide_eq_false (by omega), Bool.and_false]
theorem and_full_bit {n x : Nat} {f : Nat → Nat} (hx : x < 2 ^ n) : bitAt ((List.range (wordsN n)).map fun k => f k &&& fullN n) x = (f (x / 64)).testBit (x % 64) := by
  rw [bitAt_range (idx_lt hx), Nat.testBit_and, fullN_bit n _ (Nat.mod_lt _ (by omega)), decide_eq_true (mod_lt_pow hx), Bool.and_true]
theorem sOp_ans (o : Nat) (ho : o ≤ 15) (n : Nat) (A A' : Option Addr) (len len' c c' : Nat) (ws ws' : List Nat) (w : World) (h : SetArg w n A len c ws) (h' : SetArg w n A' len' c' ws') (hok : SOk n ws) (hok' : SOk n ws') :
    Calls Tryd.prog 29 #[.int .i64 (o : Nat), setA n A len c, setA n A' len' c'] w (SetAns w n 0 (opT o (tabS n ws) (tabS n ws'))) := by
  refine (sopS_any o ho n A A' len len' c c' ws ws' w h h' hok hok').mono fun _ _ hr => hr.ans (and_full_ok hok.n16 fun k => opAcc_lt (wat_lt hok.lt k) (wat_lt hok'.lt k) 4) (by rw [opT_length, tabS_length]) fun x hx => ?_
  rw [and_full_bit hx, opW_bit (wat_lt hok.lt _) (wat_lt hok'.lt _) (Nat.mod_lt _ (by omega)), wat_bit, wat_bit]
  unfold opT
  rw [List.getElem?_map, List.getElem?_range (by rw [tabS_length]; exact hx)]
  simp only [Option.map_some, Option.getD_some, tat_tab hx]
theorem sIte_ans (n : Nat) (A1 A2 A3 : Option Addr) (l1 l2 l3 c1 c2 c3 : Nat) (ws1 ws2 ws3 : List Nat) (w : World) (h1 : SetArg w n A1 l1 c1 ws1) (h2 : SetArg w n A2 l2 c2 ws2) (h3 : SetArg w n A3 l3 c3 ws3) (ok1 : SOk n ws1) (ok2 : SOk n ws2) (ok3 : SOk n ws3) :
    Calls Tryd.prog 31 #[setA n A1 l1 c1, setA n A2 l2 c2, setA n A3 l3 c3] w (SetAns w n 0 (iteT (tabS n ws1) (tabS n ws2) (tabS n ws3))) := by
  refine (sIte_any n A1 A2 A3 l1 l2 l3 c1 c2 c3 ws1 ws2 ws3 w h1 h2 h3 ok1 ok2 ok3).mono fun _ _ hr => hr.ans ?_ (by rw [iteT_length, tabS_length]) fun x hx => ?_
  · refine SOk.made ok1.n16 (fun k _ => iteW_lt (wat_lt ok1.lt k) (wat_lt ok3.lt k)) (fun j h1 h2 => ?_)
    have hz : ∀ ws, SOk n ws → (wat ws 0).testBit j = false := fun ws hk => by
      have := hk.hi j h1 h2
      unfold bitAt at this
      rwa [show j / 64 = 0 by omega, Nat.mod_eq_of_lt h2] at this
    rw [iteW_bit (wat_lt ok1.lt 0) h2, hz _ ok2, hz _ ok3]
    simp
  · rw [bitAt_range (idx_lt hx), iteW_bit (wat_lt ok1.lt _) (Nat.mod_lt _ (by omega)), wat_bit, wat_bit, wat_bit]
    unfold iteT
    rw [List.getElem?_map, List.getElem?_range (by rw [tabS_length]; exact hx)]
    simp only [Option.map_some, Option.getD_some, tat_tab hx]
/-- a table of the call's own, as an argument -/
theorem own_tab {w : World} {base : Nat} {A : Option Addr} {len c : Nat} {t : List Bool} (h : OwnF Value.bool 4 w base (.slice A len c) t) (hl : t.length = len) (hm : len ≤ 65536) : TabArg w A len c t := ⟨hl, hm, h.rows⟩
/-- a set as the statement looks at it: not too great -/
theorem sright_nat {m : Int} {ws : List Nat} (hlt : ∀ v ∈ ws, v < 18446744073709551616) (h : srightB m ws = true) : ∃ n : Nat, m = n ∧ SOk n ws := by
  obtain ⟨h0, h1⟩ := (sright_iff hlt).1 h
  exact ⟨m.toNat, by omega, h1⟩
/-- the document's table, in later memory -/
theorem rtable_tab (n : Nat) (A : Option Addr) (len c : Nat) (ws : List Nat) (w : World) (h : SetArg w n A len c ws) (hok : SOk n ws) : Calls Tryd.prog 17 #[setA n A len c] w fun e w' => ∃ B c2, e = .returned (.slice B (2 ^ n) c2) ∧ TabArg w' B (2 ^ n) c2 (tabS n ws) ∧ Below w.heap.size w w' := by
  refine (rtable_any n A len c ws w h hok).mono ?_
  rintro e w' ⟨B, c2, rfl, hown, hb⟩
  rw [tabS_length] at hown ⊢
  exact ⟨B, c2, rfl, own_tab hown (tabS_length n ws) (pow16 hok.n16), hb⟩
end Go.Proofs.YtdhfpnbpkbelmaaDoor
