/- SetRules: answers as tables; the rules on tables. -/
import Derived.Test.YtbhbhfplpbcfiaaGreatDoorSetSa
import Derived.Test.YtbhbhfplpbcfiaaGreatDoorMh
import Derived.Test.YtbhbhfplpbcfiaaGreatDoorMg
namespace Go.Proofs.YtbhbhfplpbcfiaaGreatDoor
open Go.RowKit Go.Sort
set_option linter.unusedSimpArgs false
set_option linter.unusedVariables false

/-- a set and no error, as a table -/
def TabAns (w : World) (n : Nat) (t : List Bool) (e : Ending) (w' : World) : Prop :=
  ∃ A l c, e = .returned (.tuple #[.agg #[.int .i64 (n : Nat), .slice A l c], .int .u8 0]) ∧ SetArg w' n A l c (packT t) ∧ Below w.heap.size w w'
theorem SetAns.tab {w w' : World} {n : Nat} {t : List Bool} {e : Ending} (h : SetAns w n 0 t e w') : TabAns w n t e w' := by
  obtain ⟨m, A, l, c, ws, er, rfl, ha, hb, hx⟩ := h
  rcases hx with ⟨_, rfl, _, rfl, _, rfl⟩ | ⟨h0, _⟩
  · exact ⟨A, l, c, rfl, ha, hb⟩
  · omega
theorem none_ok (n : Nat) (hn : n ≤ 16) (w : World) : Calls Tryz.prog 205 #[.int .i64 (n : Nat)] w (TabAns w n (List.replicate (2 ^ n) false)) :=
  (snothing_any n hn w).mono fun _ _ h => (h.ans (t := List.replicate (2 ^ n) false) ⟨hn, by simp, by simp, fun x _ _ => by unfold bitAt; simp [List.getElem?_replicate]; split <;> simp⟩ (by simp) (fun x hx => by unfold bitAt; simp [List.getElem?_replicate, hx]; split <;> simp)).tab
theorem op_ok (o : Nat) (ho : o ≤ 15) (n : Nat) (hn : n ≤ 16) (A A' : Option Addr) (len len' c c' : Nat) (t t' : List Bool) (ht : t.length = 2 ^ n) (ht' : t'.length = 2 ^ n) (w : World) (h : SetArg w n A len c (packT t)) (h' : SetArg w n A' len' c' (packT t')) :
    Calls Tryz.prog 144 #[.int .i64 (o : Nat), .agg #[.int .i64 (n : Nat), .slice A len c], .agg #[.int .i64 (n : Nat), .slice A' len' c']] w (TabAns w n (opT o t t')) := by
  refine (sOp_tab o ho n hn A A' len len' c c' t t' ht ht' w h h').mono ?_
  rintro e w' ⟨b, rfl, _, _, ha, hb⟩
  exact ⟨_, _, _, rfl, ha, hb⟩
theorem single_ok (n v : Nat) (hn : n ≤ 16) (hv : v < n) (w : World) : Calls Tryz.prog 216 #[.int .i64 (n : Nat), .int .i64 (v : Nat)] w (TabAns w n ((List.range (2 ^ n)).map fun x => x.testBit v)) := by
  obtain ⟨t, ht⟩ : ∃ t, t = (List.range (2 ^ n)).map fun x => x.testBit v := ⟨_, rfl⟩
  have hl : t.length = 2 ^ n := by rw [ht]; simp
  have hb : ∀ x, x < 2 ^ n → bitAt ((List.range (wordsN n)).map (singW n v)) x = t[x]?.getD false := fun x hx => by
    rw [sing_bit hv hx, ht, List.getElem?_map, List.getElem?_range hx]; rfl
  rw [← ht]
  clear ht
  exact (ssingle2_any n v hn hv w).mono fun _ _ h => (h.ans (sing_ok hn hv) hl hb).tab
theorem exists_ok (n vars : Nat) (hvars : vars < 2 ^ n) (hn : n ≤ 16) (A : Option Addr) (len c : Nat) (t : List Bool) (ht : t.length = 2 ^ n) (w : World) (h : SetArg w n A len c (packT t)) :
    Calls Tryz.prog 238 #[.agg #[.int .i64 (n : Nat), .slice A len c], .int .u16 (vars : Nat)] w (TabAns w n (quantT 14 vars t n)) :=
  (sExists_any n vars hvars A len c t w hn ht h).mono fun _ _ hr => (hr.ans hn (by rw [quantT_length, ht])).tab
theorem forall_ok (n vars : Nat) (hvars : vars < 2 ^ n) (hn : n ≤ 16) (A : Option Addr) (len c : Nat) (t : List Bool) (ht : t.length = 2 ^ n) (w : World) (h : SetArg w n A len c (packT t)) :
    Calls Tryz.prog 237 #[.agg #[.int .i64 (n : Nat), .slice A len c], .int .u16 (vars : Nat)] w (TabAns w n (quantT 8 vars t n)) :=
  (sForall_any n vars hvars A len c t w hn ht h).mono fun _ _ hr => (hr.ans hn (by rw [quantT_length, ht])).tab
theorem right_ok (n : Nat) (hn : n ≤ 16) (A : Option Addr) (len c : Nat) (t : List Bool) (ht : t.length = 2 ^ n) (w : World) (h : SetArg w n A len c (packT t)) :
    Calls Tryz.prog 65 #[.agg #[.int .i64 (n : Nat), .slice A len c]] w fun e w' => e = .returned (.bool true) ∧ Below w.heap.size w w' := by
  have hh := sright_any n A len c _ w h
  have hok := SOk.pack hn ht
  rw [(sright_iff hok.lt).2 ⟨by omega, by simpa using hok⟩] at hh
  exact hh
/-- the complement, as the statement makes it -/
def notT (t : List Bool) : List Bool := opT 1 t (List.replicate t.length false)
theorem notT_length (t : List Bool) : (notT t).length = t.length := by unfold notT; rw [opT_length]
theorem tat_rep (m x : Nat) : tat (List.replicate m false) x = false := by unfold tat; simp [List.getElem?_replicate]; split <;> simp
theorem tat_op {o : Nat} {t t' : List Bool} {x : Nat} (hx : x < t.length) : tat (opT o t t') x = o.testBit (2 * (tat t x).toNat + (tat t' x).toNat) := by
  unfold opT
  rw [tat, List.getElem?_map, List.getElem?_range hx]; rfl
theorem tat_with {t : List Bool} {v b x : Nat} (hx : x < t.length) : tat (withT t v b) x = tat t (putV x v b) := by
  unfold withT
  rw [tat, List.getElem?_map, List.getElem?_range hx]; rfl
theorem tat_not {t : List Bool} {x : Nat} (hx : x < t.length) : tat (notT t) x = !tat t x := by
  unfold notT
  rw [tat_op hx, tat_rep]
  cases tat t x <;> decide
theorem tab_ext {t t' : List Bool} (h : t.length = t'.length) (hx : ∀ x, x < t.length → tat t x = tat t' x) : t = t' := by
  apply List.ext_getElem h
  intro x h1 h2
  have := hx x h1
  unfold tat at this
  rwa [List.getElem?_eq_getElem h1, List.getElem?_eq_getElem h2] at this
theorem demorgan {a b : List Bool} (h : a.length = b.length) : notT (opT 8 a b) = opT 14 (notT a) (notT b) := by
  apply tab_ext (by rw [notT_length, opT_length, opT_length, notT_length])
  intro x hx
  rw [notT_length, opT_length] at hx
  rw [tat_not (by rw [opT_length]; exact hx), tat_op hx, tat_op (by rw [notT_length]; exact hx), tat_not hx, tat_not (by omega)]
  cases tat a x <;> cases tat b x <;> decide
theorem halves_back {n v : Nat} (hv : v < n) {t : List Bool} (ht : t.length = 2 ^ n) : iteT ((List.range (2 ^ n)).map fun x => x.testBit v) (withT t v 1) (withT t v 0) = t := by
  apply tab_ext (by rw [iteT_length]; simp [ht])
  intro x hx
  have hx' : x < 2 ^ n := by rw [iteT_length] at hx; simpa using hx
  unfold iteT
  rw [tat, List.getElem?_map, List.getElem?_range (by simpa using hx')]
  simp only [Option.map_some, Option.getD_some]
  have e : tat ((List.range (2 ^ n)).map fun x => x.testBit v) x = x.testBit v := by unfold tat; rw [List.getElem?_map, List.getElem?_range hx']; rfl
  rw [e, tat_with (by omega), tat_with (by omega)]
  cases hb : x.testBit v
  · rw [if_neg (by simp), putV_same (by rw [hb]; rfl)]
  · rw [if_pos rfl, putV_same (by rw [hb]; rfl)]
theorem quant_not {n : Nat} (vars : Nat) {t : List Bool} (ht : t.length = 2 ^ n) : ∀ k, k ≤ n → quantT 14 vars t k = notT (quantT 8 vars (notT t) k)
  | 0, _ => by
    apply tab_ext (by rw [notT_length]; exact (notT_length t).symm)
    intro x hx
    have hx' : x < t.length := hx
    show tat t x = tat (notT (notT t)) x
    rw [tat_not (by rw [notT_length]; exact hx'), tat_not hx', Bool.not_not]
  | k + 1, hk => by
    have ih := quant_not vars ht k (by omega)
    have hl : (quantT 8 vars (notT t) k).length = 2 ^ n := by rw [quantT_length, notT_length, ht]
    rw [quantT, quantT]
    split
    · rw [ih]
      generalize quantT 8 vars (notT t) k = q at *
      apply tab_ext (by rw [opT_length, withT_length, notT_length, notT_length, opT_length, withT_length])
      intro x hx
      rw [opT_length, withT_length, notT_length] at hx
      have h0 : putV x k 0 < 2 ^ n := putV_lt (n := n) false (by omega) (by omega)
      have h1 : putV x k 1 < 2 ^ n := putV_lt (n := n) true (by omega) (by omega)
      rw [tat_op (by rw [withT_length, notT_length]; exact hx), tat_with (by rw [notT_length]; exact hx), tat_with (by rw [notT_length]; exact hx), tat_not (by omega), tat_not (by omega),
        tat_not (by rw [opT_length, withT_length]; exact hx), tat_op (by rw [withT_length]; exact hx), tat_with hx, tat_with hx]
      cases tat q (putV x k 0) <;> cases tat q (putV x k 1) <;> decide
    · exact ih
end Go.Proofs.YtbhbhfplpbcfiaaGreatDoor
