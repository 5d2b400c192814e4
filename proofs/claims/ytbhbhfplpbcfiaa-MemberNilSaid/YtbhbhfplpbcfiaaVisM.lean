/- A set of ids kept as a map from uint32 to int. -/
import Derived.Test.YtbhbhfplpbcfiaaVisP
import Derived.Test.YtbhbhfplpbcfiaaMa
import Derived.Maps.Own
import Derived.Maps.OwnOps
import Derived.Maps.OwnSet
import Derived.Maps.Views
namespace Go.Proofs.Ytbhbhfplpbcfiaa
open Go Go.RowKit Go.Maps
set_option linter.unusedSimpArgs false
set_option linter.unusedVariables false

theorem keyU : Keyed Try.prog 22 := int_keyed Try.underlying22
theorem zeroInt (w : World) : (zeroValue 3).run Try.prog w = .ok (.int .i64 0) w := by kernel_rfl
def isU (id : Int) : Prop := (Lit.int .u32 id).wf = true
theorem keyOf_u {id : Int} (h : isU id) : keyOf Try.prog 22 (.int .u32 id) = some (.int .u32 id) := keyOf_int_mk Try.underlying22 h
/-- the map at block q holds 1 at the ids of V, and nothing else -/
def MapIs (w : World) (q : Nat) (V : List Int) : Prop :=
  ∃ D : DataW Unit, w.ownsMap Try.prog 22 (plainElem Try.prog 3) q V.length D ∧ IsMap D ∧
    (∀ id, isU id → D.atKey (.int .u32 id) (.lit (.int .i64 0)) = .lit (.int .i64 (if id ∈ V then 1 else 0))) ∧ (∀ id, isU id → has D (.int .u32 id) = decide (id ∈ V))
theorem MapIs.made (w : World) : MapIs (w.alloc (.map #[] 0)) w.heap.size [] := by
  refine ⟨.map [], World.ownsMap_made w _ _ _, isMap_empty, fun id _ => ?_, fun id _ => ?_⟩
  · rfl
  · rfl
theorem MapIs.lt {w : World} {q : Nat} {V : List Int} (h : MapIs w q V) : q < w.heap.size := by
  obtain ⟨D, h1, _⟩ := h
  exact h1.lt
theorem MapIs.keep {w w' : World} {q : Nat} {V : List Int} (h : MapIs w q V) (hk : w'.heap[q]? = w.heap[q]?) : MapIs w' q V := by
  obtain ⟨D, ⟨es, clock, hb, h2⟩, h3⟩ := h
  exact ⟨D, ⟨es, clock, hk.trans hb, h2⟩, h3⟩
theorem MapIs.chg {w w' : World} {q : Nat} {V : List Int} {F : List Nat} (h : MapIs w q V) (hc : Chg F w w') (hq : q ∉ F) : MapIs w' q V := h.keep (hc.block q h.lt hq)
set_option maxRecDepth 100000 in
theorem MapIs.look {w : World} {q : Nat} {V : List Int} (h : MapIs w q V) {id : Int} (hid : isU id) : (Instr.lookup 146 (.map (some q)) (.int .u32 id) false).run Try.prog w = .ok (.int .i64 (if id ∈ V then 1 else 0)) w := by
  obtain ⟨D, h1, _, h2, _⟩ := h
  obtain ⟨c, hrun, hat, _⟩ := h1.lookup_int keyU Try.underlying146 Try.underlying3 (zeroInt w) (keyOf_u hid)
  rw [h2 id hid] at hat
  injection hat with hat
  injection hat with _ hat
  rw [hrun, ← hat]
set_option maxRecDepth 100000 in
theorem MapIs.put {w : World} {q : Nat} {V : List Int} (h : MapIs w q V) {id : Int} (hid : isU id) (hlen : V.length < maxLen) : ∃ w', (Instr.mapUpdate 146 (.map (some q)) (.int .u32 id) (.int .i64 1)).run Try.prog w = .ok () w' ∧ MapIs w' q (V ++ [id]) ∧ Chg [q] w w' := by
  obtain ⟨D, h1, h0, h2, h3⟩ := h
  obtain ⟨w', hrun, hown, hgr⟩ := h1.update (d := .lit (.int .i64 1)) (ps := []) keyU Try.underlying146 hlen (keyOf_u hid) (plainElem_int Try.underlying3 (by decide))
  have hk : WideAt.IsKeyLit (.int .u32 id) := by trivial
  refine ⟨w', hrun, ⟨D.put (.int .u32 id) (.lit (.int .i64 1)), ?_, h0.put _ _, fun x hx => ?_, fun x hx => ?_⟩, ⟨hgr.os, hgr.tape, hgr.output, hgr.size, fun k hk hn => hgr.block k hk (fun e => hn (by injection e with e; simp [e]))⟩⟩
  · rw [List.length_append]
    exact hown
  · by_cases hxi : x = id
    · subst hxi
      rw [atKey_put_same h0 hk]
      simp
    · rw [atKey_put_other (by intro e; injection e with _ e; exact hxi e), h2 x hx]
      simp [hxi]
  · by_cases hxi : x = id
    · subst hxi
      rw [has_put_same h0 hk]
      simp
    · rw [has_put_other (by intro e; injection e with _ e; exact hxi e), h3 x hx]
      simp [hxi]
end Go.Proofs.Ytbhbhfplpbcfiaa
