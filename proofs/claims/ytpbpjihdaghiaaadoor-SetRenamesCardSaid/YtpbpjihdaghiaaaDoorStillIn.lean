/- A region that draws its order, without calls and with one store at its end, inside a fence (the body of a range over a function). -/
import Derived.StillTail
import Derived.StillTactics
import Derived.OrdersIn
import Derived.TacticsIn
import Derived.OwnWalkIn
import Derived.Test.YtpbpjihdaghiaaaDoorMa
namespace Go.Proofs.YtpbpjihdaghiaaaDoor
open Go
set_option linter.unusedSimpArgs false
set_option linter.unusedVariables false

/-- an operation that makes no call -/
def plainOp : Op → Bool
  | .move _ | .assign _ | .load .. | .store .. | .binOp .. | .unOp .. | .convert .. | .fieldAddr .. | .indexAddr .. | .index .. | .pick .. => true
  | _ => false
section
variable {F : Fence} {n : Nat} {P : Program} {ops : Array Oper} {md : Region.Mode} {w : World}
theorem plainOp_ends {o : Oper} {ρ : Operand → Value} {m : Next} {w' : World} (h : plainOp o.op = true) (hr : (execOp ρ o).run P w = .ok m w') : (∃ v, m = .value v) ∨ m = .skip := by
  have hv : ∀ (s : Sem Value), (do pure (.value (← s)) : Sem Next).run P w = .ok m w' → (∃ v, m = .value v) ∨ m = .skip := fun s hs => by
    rw [Sem.run_bind] at hs
    cases e : s.run P w with
    | ok x w1 => rw [e] at hs; simp [Result.andThen] at hs; exact .inl ⟨x, hs.1.symm⟩
    | halt x w1 => rw [e] at hs; simp [Result.andThen] at hs
  have hu : ∀ (s : Sem Unit), (do s; pure .skip : Sem Next).run P w = .ok m w' → (∃ v, m = .value v) ∨ m = .skip := fun s hs => by
    rw [Sem.run_bind] at hs
    cases e : s.run P w with
    | ok x w1 => rw [e] at hs; simp [Result.andThen] at hs; exact .inr hs.1.symm
    | halt x w1 => rw [e] at hs; simp [Result.andThen] at hs
  have hb : ∀ (s : Sem Bool) (a b : Value), (do pure (.value (if ← s then a else b)) : Sem Next).run P w = .ok m w' → (∃ v, m = .value v) ∨ m = .skip := fun s a b hs => by
    rw [Sem.run_bind] at hs
    cases e : s.run P w with
    | ok x w1 => rw [e] at hs; simp [Result.andThen] at hs; exact .inl ⟨_, hs.1.symm⟩
    | halt x w1 => rw [e] at hs; simp [Result.andThen] at hs
  obtain ⟨dst, op, type, pos, after, guard⟩ := o
  cases op <;> simp only [plainOp, Bool.false_eq_true] at h <;> simp only [execOp] at hr <;> first
    | exact hv _ hr
    | exact hu _ hr
    | exact hb _ _ _ hr
    | (simp at hr; exact .inl ⟨_, hr.1.symm⟩)
theorem plainOp_about {o : Oper} (h : plainOp o.op = true) (ρ : Operand → Value) : o.about P w ρ = none := by
  unfold Oper.about
  cases ho : o.op <;> simp only [] <;> (rw [ho] at h; simp [plainOp] at h)
theorem plainOp_defer {o : Oper} (h : plainOp o.op = true) : ∀ c, o.op ≠ .defer c := fun c e => by rw [e] at h; simp [plainOp] at h
theorem wpIn_of_still {o : Oper} {a : Act} {K : Act → Prop} {K' : Act → World → Prop} {Q' : Exit → Act → World → Prop} (hp : plainOp o.op = true) (h : ∀ a, K a → K' a w) (hh : o.still P a w K) : o.wpIn F n P a w K' Q' := by
  refine ⟨fun f hf => (by rw [plainOp_about hp] at hf; cases hf), ?_⟩
  rw [Oper.semAt_plain F _ _ (plainOp_defer hp)]
  unfold Oper.still at hh
  generalize hr : (execOp a.eval o).run P w = r at *
  cases r with
  | ok m w' =>
    rcases plainOp_ends hp hr with ⟨v, rfl⟩ | rfl
    · simp only [Oper.stillUpon] at hh
      obtain ⟨rfl, h2⟩ := hh
      exact h _ h2
    · simp only [Oper.stillUpon] at hh
      obtain ⟨rfl, h2⟩ := hh
      exact h _ h2
  | halt x w' => simp only [Oper.stillUpon] at hh
theorem wpOpIn_of_stOp {i : Nat} {a : Act} {K : Act → Prop} {K' : Act → World → Prop} {Q' : Exit → Act → World → Prop} (hp : ∀ (i : Nat) (o : Oper), ops[i]? = some o → plainOp o.op = true) (h : ∀ a, K a → K' a w) (hh : stOp P ops w i K a) : wpOpIn F n P ops Q' i K' a w := by
  unfold stOp at hh
  unfold wpOpIn
  split
  · rename_i ho; simp only [ho] at hh; exact h _ hh
  · rename_i o ho
    simp only [ho] at hh
    split
    · rename_i hw; simp only [hw, if_true] at hh; exact wpIn_of_still (hp _ _ ho) h hh
    · rename_i hw; simp only [hw] at hh; exact ⟨fun f hf => (by rw [plainOp_about (hp _ _ ho)] at hf; cases hf), h _ hh⟩
theorem wpAnyIn_of_head {m g : Nat} {L : Array Bool → Act → Prop} {Q' : Exit → Act → World → Prop} (hp : ∀ (i : Nat) (o : Oper), ops[i]? = some o → plainOp o.op = true) (hL : ∀ listed a, L listed a → wpAnyIn F n P md ops Q' g listed a w) :
    ∀ (f : Nat) (listed : Array Bool) (a : Act), wpAnyL P md ops w m L f listed a → wpAnyIn F n P md ops Q' (f + g) listed a w
  | 0, listed, a, h => by rw [Nat.zero_add]; exact hL _ _ h
  | f + 1, listed, a, h => by
    rw [show f + 1 + g = (f + g) + 1 by omega]
    exact ⟨fun h0 => absurd h0 h.1, fun i hi => wpOpIn_of_stOp hp (fun a' h' => wpAnyIn_of_head hp hL f _ a' h') (h.2 i hi).2⟩
theorem wpAnyIn_of_seq {Q' : Exit → Act → World → Prop} : ∀ (l : List Oper) (k : Nat) (listed : Array Bool) (a : Act) (w : World), (∀ j, l[j]? = ops[k + j]?) →
    Region.seqB md ops l.length k listed = true → wpListIn F n P ops Q' l a w → wpAnyIn F n P md ops Q' l.length listed a w
  | [], _, _, _, _, _, hB, h => ⟨by simpa [Region.seqB] using hB, h⟩
  | o :: l, k, listed, a, w, hl, hB, h => by
    have h0 : ops[k]? = some o := by simpa using (hl 0).symm
    simp only [List.length_cons, Region.seqB, Bool.and_eq_true, decide_eq_true_eq] at hB
    refine ⟨fun h1 => (by rw [hB.1] at h1; cases h1), fun i hi => ?_⟩
    rw [hB.1] at hi
    have hik : i = k := by simpa using hi
    subst hik
    have hw : wpOpIn F n P ops Q' i (wpListIn F n P ops Q' l) a w := by unfold wpOpIn; simp only [h0]; exact h
    exact wpOpIn_mono (fun a' w' h' => wpAnyIn_of_seq l (i + 1) _ a' w' (fun j => by have := hl (j + 1); simpa [Nat.add_assoc, Nat.add_comm 1 j] using this) hB.2 h') hw
theorem wpIn_region_still_tail {id : Nat} {Q : Exit → Act → World → Prop} {a : Act} {l : List Oper} (m : Nat) (hm : P.follows .mixedOrders = true) (hB : Region.lexTailB .any l.toArray m = true) (hp : l.all (fun o => plainOp o.op) = true)
    (h : wpStill P l.toArray { w with drawn := w.drawn + 1 } (fun a' => wpListIn F n P l.toArray Q (l.drop m) a' { w with drawn := w.drawn + 1 }) (l.take m) a) : (Code.region id l.toArray true).wpIn F n P Q a w := by
  have hp' : ∀ (i : Nat) (o : Oper), l.toArray[i]? = some o → plainOp o.op = true := fun i o ho => by
    rw [List.getElem?_toArray] at ho
    exact List.all_eq_true.1 hp o (List.mem_of_getElem? ho)
  simp only [Region.lexTailB, Bool.and_eq_true, decide_eq_true_eq] at hB
  obtain ⟨⟨⟨⟨hsel, hn⟩, hs⟩, hc⟩, hlex⟩ := hB
  have hn' : m < l.length := by simpa using hn
  have htl : (l.take m).length = m := by simp; omega
  have hdl : (l.drop m).length = l.toArray.size - m := by simp
  have inv0 : HeadInv .any l.toArray m (Array.replicate l.toArray.size false) :=
    ⟨by simp, fun j oj _ hl => (by rw [getD_replicate_false] at hl; cases hl), fun t _ ht => getD_in (by simpa using ht) (getD_replicate_false _ _)⟩
  have H := wpAnyL_lex (md := .any) (g := l.toArray.size - m) hsel hs hc hn (l.take m) 0 _ a (fun j hj => by
    have hj' : j < m := by rw [htl] at hj; exact hj
    simp [hj']) (by simpa using htl) inv0 (by rw [htl]; exact hlex) h
  refine wpIn_region_any hm ?_
  have := wpAnyIn_of_head (F := F) (n := n) (Q' := Q) (g := l.toArray.size - m) hp' (fun listed a' hL => by
    have := wpAnyIn_of_seq (F := F) (n := n) (md := .any) (Q' := Q) (l.drop m) m listed a' { w with drawn := w.drawn + 1 } (fun j => by simp [List.getElem?_drop]) (by rw [hdl]; exact hL.1) hL.2
    rwa [hdl] at this) _ _ _ H
  rw [htl, show m + (l.toArray.size - m) = l.toArray.size by omega] at this
  exact this
end
end Go.Proofs.YtpbpjihdaghiaaaDoor
