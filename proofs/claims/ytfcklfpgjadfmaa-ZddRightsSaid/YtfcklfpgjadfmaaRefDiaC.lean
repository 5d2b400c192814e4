/- What the contracts of the document's diagrams have in common. -/
import Derived.Test.YtfcklfpgjadfmaaRefF
import Derived.Test.YtfcklfpgjadfmaaDiaC
namespace Go.Proofs.Ytfcklfpgjadfmaa
open Go.RowKit Go.Sort
set_option linter.unusedSimpArgs false
set_option linter.unusedVariables false

def fR (x : Nat × Nat × List Rec) : Edg := if x.2.1 = 0 then ⟨0, x.1⟩ else .nil
theorem findR_cases (n room : Nat) (rs : List Rec) (r : Rec) (hlen : rs.length ≤ room) (hroom : room ≤ 1048576) :
    (((findR n room rs r).2.1 = 0) ∧ (findR n room rs r).1 ≤ 4294967295) ∨ ((¬ (findR n room rs r).2.1 = 0) ∧ (findR n room rs r).1 = 0 ∧ 1 ≤ (findR n room rs r).2.1 ∧ (findR n room rs r).2.1 ≤ 6) := by
  unfold findR
  split
  · rename_i id h
    have := idOf_le h
    rw [List.length_map] at this
    exact .inl ⟨rfl, by simp only; omega⟩
  · split
    · split
      · exact .inl ⟨rfl, by simp only; omega⟩
      · exact .inr ⟨by simp, rfl, by simp, by simp⟩
    · exact .inr ⟨by simp, rfl, by simp, by simp⟩
theorem ref_turns_down {w W0 w1 w2 : World} {F G : List Nat} {g n room : Nat} {rs : List Rec} (hb : Below w.heap.size w W0) (hF : ∀ k ∈ F, k < w.heap.size) (h : Turns (fun W X => RefAt W X g n room rs) F W0 w1) (hc : Chg G w1 w2)
    (hG : ∀ k ∈ G, w.heap.size ≤ k ∧ k < W0.heap.size) : Turns (fun W X => RefAt W X g n room rs) F w w2 := by
  obtain ⟨⟨F', h1, h2⟩, h3⟩ := h
  have hs := hb.size
  refine ⟨⟨F', h1.chg hc (fun k hk hm => ?_), fun k hk => ?_⟩, ((chg_of_below hb).trans h3 (fun x hx => .inl hx)).trans hc (fun x hx => .inr (hG x hx).1)⟩
  · have := hG k hm
    rcases h2 k hk with h4 | h4
    · have := hF k h4; omega
    · omega
  · rcases h2 k hk with h4 | h4
    · exact .inl h4
    · right; omega
/-- what the document's Make tells -/
def makeR (z : Bool) (n room : Nat) (rs : List Rec) (l : Int) (lo hi : Edg) : Edg × Nat × List Rec :=
  if l < 0 ∨ (n : Int) ≤ l then (.nil, 3, rs)
  else if leads (rs.map some) n (fmOf z) lo (l + 1) && leads (rs.map some) n (fmOf z) hi (l + 1) then
    (if redE z lo hi then (lo, 0, rs) else (fR (findR n room rs ⟨fmOf z, l, l, lo, hi⟩), (findR n room rs ⟨fmOf z, l, l, lo, hi⟩).2.1, (findR n room rs ⟨fmOf z, l, l, lo, hi⟩).2.2))
  else (.nil, 1, rs)
section
variable {z : Bool} {n room : Nat} {rs : List Rec} {l : Int} {lo hi : Edg} {r : Rec}
theorem makeR_var (h : l < 0 ∨ (n : Int) ≤ l) : makeR z n room rs l lo hi = (.nil, 3, rs) := by unfold makeR; rw [if_pos h]
theorem makeR_arg (h : 0 ≤ l ∧ l < n) (h2 : leads (rs.map some) n (fmOf z) lo (l + 1) = false ∨ leads (rs.map some) n (fmOf z) hi (l + 1) = false) : makeR z n room rs l lo hi = (.nil, 1, rs) := by
  unfold makeR
  rw [if_neg (by omega), if_neg (by rcases h2 with h2 | h2 <;> simp [h2])]
theorem makeR_red (h : 0 ≤ l ∧ l < n) (h1 : leads (rs.map some) n (fmOf z) lo (l + 1) = true) (h2 : leads (rs.map some) n (fmOf z) hi (l + 1) = true) (h3 : redE z lo hi = true) : makeR z n room rs l lo hi = (lo, 0, rs) := by
  unfold makeR
  rw [if_neg (by omega), if_pos (by simp [h1, h2]), if_pos h3]
theorem makeR_find (h : 0 ≤ l ∧ l < n) (h1 : leads (rs.map some) n (fmOf z) lo (l + 1) = true) (h2 : leads (rs.map some) n (fmOf z) hi (l + 1) = true) (h3 : ¬ redE z lo hi = true) :
    makeR z n room rs l lo hi = (fR (findR n room rs ⟨fmOf z, l, l, lo, hi⟩), (findR n room rs ⟨fmOf z, l, l, lo, hi⟩).2.1, (findR n room rs ⟨fmOf z, l, l, lo, hi⟩).2.2) := by
  unfold makeR
  rw [if_neg (by omega), if_pos (by simp [h1, h2]), if_neg h3]
theorem findR_er : (findR n room rs r).2.1 ≤ 6 := by
  unfold findR
  repeat' split
  all_goals simp
theorem makeR_er (z : Bool) (n room : Nat) (rs : List Rec) (l : Int) (lo hi : Edg) : (makeR z n room rs l lo hi).2.1 ≤ 6 := by
  unfold makeR
  repeat' split
  all_goals first
    | exact findR_er
    | simp
/-- both Makes tell the same -/
theorem makeR_eq : makeE z n room (rs.map some) l lo hi = ((makeR z n room rs l lo hi).1, (makeR z n room rs l lo hi).2.1, (makeR z n room rs l lo hi).2.2.map some) := by
  unfold makeE makeR
  split
  · rfl
  · split
    · split
      · rfl
      · rw [findR_eq]
        rfl
    · rfl
end
theorem plcOf_none {rs : List Rec} {q : Int} (h : recAt (rs.map some) q = none) : plcOf rs.length q = -1 := by
  rw [recAt_map] at h
  unfold plcOf
  split at h
  · rename_i h2
    exfalso
    have : (q - 2).toNat < rs.length := by omega
    rw [List.getElem?_eq_getElem this] at h
    cases h
  · rename_i h2
    rw [if_neg h2]
theorem plcOf_some {rs : List Rec} {q : Int} {r : Rec} (h : recAt (rs.map some) q = some r) : ∃ k : Nat, k < rs.length ∧ rs[k]? = some r ∧ plcOf rs.length q = (k : Int) := by
  rw [recAt_map] at h
  split at h
  · rename_i h2
    refine ⟨(q - 2).toNat, by omega, h, ?_⟩
    unfold plcOf
    rw [if_pos h2]
    omega
  · cases h
theorem leads_top {cs : List (Option Rec)} {n f : Int} {e : Edg} {l : Int} {r : Rec} (h : leads cs n f e l = true) (hr : recAt cs e.pos = some r) : l ≤ r.top := by
  unfold leads at h
  rw [hr] at h
  have h2 := (recAt_some hr).1
  simp only [Bool.and_eq_true, Bool.or_eq_true, decide_eq_true_eq] at h
  rcases h.2 with h3 | h3
  · omega
  · exact h3.2.1
end Go.Proofs.Ytfcklfpgjadfmaa
