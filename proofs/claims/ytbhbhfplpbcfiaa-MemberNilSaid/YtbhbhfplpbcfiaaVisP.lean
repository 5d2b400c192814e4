/- What edges reach, as the program's walk finds it: pure facts. -/
import Derived.Test.YtbhbhfplpbcfiaaMc
namespace Go.Proofs.Ytbhbhfplpbcfiaa
set_option linter.unusedSimpArgs false
set_option linter.unusedVariables false

/-- what a visit of an edge makes of the ids that are there already -/
inductive Vis (cs : List (Option Rec)) : List Int → Edg → List Int → Prop
  | none {V e} : recAt cs e.pos = none → Vis cs V e V
  | old {V e} : e.pos ∈ V → Vis cs V e V
  | new {V e r V2 V3} : recAt cs e.pos = some r → e.pos ∉ V → Vis cs (V ++ [e.pos]) r.lo V2 → Vis cs V2 r.hi V3 → Vis cs V e V3
/-- .. of edges, one behind the other -/
inductive VisL (cs : List (Option Rec)) : List Int → List Edg → List Int → Prop
  | nil {V} : VisL cs V [] V
  | snoc {V l V1 e V2} : VisL cs V l V1 → Vis cs V1 e V2 → VisL cs V (l ++ [e]) V2
/-- ids of nodes, none twice -/
structure Ids (cs : List (Option Rec)) (V : List Int) : Prop where
  nodup : V.Nodup
  node : ∀ id ∈ V, recAt cs id ≠ none
theorem Ids.nil {cs} : Ids cs [] := ⟨List.nodup_nil, by simp⟩
theorem Ids.snoc {cs V} (h : Ids cs V) {id : Int} (hn : recAt cs id ≠ none) (hid : id ∉ V) : Ids cs (V ++ [id]) := by
  refine ⟨?_, fun x hx => ?_⟩
  · rw [List.nodup_append]
    exact ⟨h.nodup, by simp, fun a ha b hb e => hid (by rw [List.mem_singleton] at hb; rw [← hb, ← e]; exact ha)⟩
  · rcases List.mem_append.1 hx with hx | hx
    · exact h.node x hx
    · rw [List.mem_singleton.1 hx]; exact hn
theorem nodup_bound : ∀ (n : Nat) (l : List Nat), l.Nodup → (∀ x ∈ l, x < n) → l.length ≤ n
  | 0, l, _, h => by
    cases l with
    | nil => simp
    | cons x l => exact absurd (h x (by simp)) (by omega)
  | n + 1, l, hd, h => by
    by_cases hn : n ∈ l
    · have h1 := nodup_bound n (l.erase n) (hd.erase n) (fun x hx => by
        have h2 := (hd.mem_erase_iff).1 hx
        have := h x h2.2
        have := h2.1
        omega)
      rw [List.length_erase_of_mem hn] at h1
      omega
    · have h1 := nodup_bound n l hd (fun x hx => by
        have := h x hx
        rcases Nat.lt_or_ge x n with h2 | h2
        · exact h2
        · have : x = n := by omega
          rw [this] at hx
          exact absurd hx hn)
      omega
theorem rec_lt {cs : List (Option Rec)} {id : Int} (h : recAt cs id ≠ none) : 2 ≤ id ∧ (id - 2).toNat < cs.length := by
  unfold recAt at h
  split at h
  · rename_i h2
    refine ⟨h2, ?_⟩
    rcases Nat.lt_or_ge (id - 2).toNat cs.length with h3 | h3
    · exact h3
    · rw [List.getElem?_eq_none h3] at h; exact absurd rfl h
  · exact absurd rfl h
theorem Ids.len {cs V} (h : Ids cs V) : V.length ≤ cs.length := by
  have h1 := nodup_bound cs.length (V.map fun id => (id - 2).toNat) (by
    rw [List.nodup_iff_pairwise_ne, List.pairwise_map]
    refine (List.nodup_iff_pairwise_ne.1 h.nodup).imp_of_mem ?_
    intro a b ha hb hne e
    have := rec_lt (h.node a ha)
    have := rec_lt (h.node b hb)
    omega) (fun x hx => by
    obtain ⟨id, hid, rfl⟩ := List.mem_map.1 hx
    exact (rec_lt (h.node id hid)).2)
  simpa using h1
theorem Vis.ids {cs V e V'} (h : Vis cs V e V') : Ids cs V → Ids cs V' ∧ (∀ id ∈ V, id ∈ V') ∧ V.length ≤ V'.length := by
  induction h with
  | none => intro h; exact ⟨h, fun _ h => h, Nat.le_refl _⟩
  | old => intro h; exact ⟨h, fun _ h => h, Nat.le_refl _⟩
  | new hr hn _ _ ih1 ih2 =>
    intro h
    obtain ⟨a1, a2, a3⟩ := ih1 (h.snoc (by rw [hr]; simp) hn)
    obtain ⟨b1, b2, b3⟩ := ih2 a1
    exact ⟨b1, fun id hid => b2 id (a2 id (by simp [hid])), by simp at a3; omega⟩
theorem VisL.ids {cs V l V'} (h : VisL cs V l V') : Ids cs V → Ids cs V' ∧ (∀ id ∈ V, id ∈ V') := by
  induction h with
  | nil => intro h; exact ⟨h, fun _ h => h⟩
  | snoc _ h2 ih =>
    intro h
    obtain ⟨a1, a2⟩ := ih h
    obtain ⟨b1, b2, _⟩ := h2.ids a1
    exact ⟨b1, fun id hid => b2 id (a2 id hid)⟩
end Go.Proofs.Ytbhbhfplpbcfiaa
