/- Contracts: the document's Op, Ite. Contract: the document's Ite. -/
import Derived.Test.YtpbpjihdaghiaaaDoorSetV
section
namespace Go.Proofs.YtpbpjihdaghiaaaDoor
open Go.RowKit Go.Sort
set_option linter.unusedSimpArgs false
set_option linter.unusedVariables false

section
variable {ops : Array Oper} {o : Oper} {a : Act} {K : Act → World → Prop} {Q : Exit → Act → World → Prop} {E : Prop} {P : Program}
/-- 'append(s, x)' at a step of a region that draws -/
theorem step_app1 {α : Type} {f : α → Value} {T El : TypeId} {i : TypeInfo} {z : Value} {bytes : Nat} (hT : P.underlying T = some (.slice El)) (hi : P.info? El = some i) (hz0 : i.zero = some z) (hz1 : i.size = 1) (hz2 : i.bytes = bytes)
    (hzc : z.cells.size = 1) (hbytes : bytes ≤ 4096)
    (W : World) (hg : o.guard = none) (s x : Operand) (hop : o.op = .call { callee := .builtin .append, args := #[s, x], argTypes := #[T, T] })
    (base : Nat) (v : Value) (xs : List α) (e : α) (c : Nat) (hone : (f e).oneCell' = true) (H : Nat)
    (hown : OwnF f El W base v xs) (hbase : base ≤ W.heap.size) (hlen : xs.length ≤ 34359738366) (hs : a.eval s = v) (hx : a.eval x = .slice (some ⟨H, 0, none⟩) 1 c) (hc : W.cell? ⟨H, 0, none⟩ = some (f e))
    (h : ∀ v' w', OwnF f El w' base v' (xs ++ [e]) → Below base W w' → K (a.put o.dst v') w') :
    if Region.wanted o (yielded ops a.tmps) = true then Oper.wp P o a W K Q else E := by
  have hw : Region.wanted o (yielded ops a.tmps) = true := by simp [Region.wanted, hg]
  rw [if_pos hw]
  obtain ⟨v', w', hrun, hown', hgr, _, hat⟩ := run_append_own_at (P := P) W base T o.type El i z 1 bytes hT hi hz0 hz1 hz2 hzc (by decide) v xs.length (xs.map f) hown
      ⟨H, 0, none⟩ 1 c [f e] rfl (fun j u hj => by
        match j, hj with
        | 0, hj => simp at hj; subst hj; rw [Addr.add_lit]; exact hc)
      (fun u hu => by simp at hu; subst hu; exact hone)
      (by unfold maxLen; omega) (by have : (xs.length + 1) * bytes ≤ 34359738367 * 4096 := Nat.mul_le_mul (by omega) hbytes; omega) hbase
  unfold Oper.wp execOp
  simp only [hop, resolve, invoke, builtin, Sem.run_bind, Sem.run_pure, Result.andThen_ok, List.map_toArray, List.map_cons, List.map_nil, hs, hx, hrun]
  have hb : Below base W w' := (Below.refl _ _).grown hgr hbase (fun k hk => (hown.lt k hk).1)
  refine h v' w' ?_ hb
  unfold OwnF
  simpa using hown'
end
/-- a table's value at an assignment -/
def tat (t : List Bool) (x : Nat) : Bool := t[x]?.getD false
def opT (o : Nat) (t1 t2 : List Bool) : List Bool := (List.range t1.length).map fun x => o.testBit (2 * (tat t1 x).toNat + (tat t2 x).toNat)
def iteT (f g h : List Bool) : List Bool := (List.range f.length).map fun x => if tat f x then tat g x else tat h x
/-- a table as an argument -/
structure TabArg (w : World) (A : Option Addr) (len c : Nat) (t : List Bool) : Prop where
  hlen : t.length = len
  hmax : len ≤ 65536
  row : RowF Value.bool false w w.heap.size A t
theorem TabArg.on {w w' : World} {A : Option Addr} {len c : Nat} {t : List Bool} (h : TabArg w A len c t) (hb : Below w.heap.size w w') : TabArg w' A len c t := ⟨h.hlen, h.hmax, h.row.on hb⟩
/-- the argument's value, in later memory -/
theorem TabArg.val {w : World} {A : Option Addr} {len c : Nat} {t : List Bool} (h : TabArg w A len c t) (hl : 0 < len) : ∃ b off, A = some ⟨b, off, none⟩ ∧ b < w.heap.size ∧ ∀ w' k, Below w.heap.size w w' → k < len → w'.cell? ⟨b, off + k, none⟩ = some (.bool (tat t k)) := by
  obtain ⟨b, off, rfl, hb, hcell⟩ := h.row (by rw [h.hlen]; exact hl)
  exact ⟨b, off, rfl, hb, fun w' k hw hk => (hw.cell (p := ⟨b, off + k, none⟩) hb).trans (hcell k (by rw [h.hlen]; exact hk))⟩
end Go.Proofs.YtpbpjihdaghiaaaDoor
end

section
namespace Go.Proofs.YtpbpjihdaghiaaaDoor
open Go.RowKit Go.Sort
set_option linter.unusedSimpArgs false
set_option linter.unusedVariables false

/-- the tables of the words' operations -/
theorem tat_tab {n : Nat} {ws : List Nat} {x : Nat} (hx : x < 2 ^ n) : tat (tabS n ws) x = bitAt ws x := by
  unfold tat
  rw [tabS_get, decide_eq_true hx, Bool.true_and]
end Go.Proofs.YtpbpjihdaghiaaaDoor
end
