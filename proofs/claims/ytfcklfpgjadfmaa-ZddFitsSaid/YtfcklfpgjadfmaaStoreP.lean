/- What a store holds behind a new record: plain, and of memory. -/
import Derived.Test.YtfcklfpgjadfmaaLeads
namespace Go.Proofs.Ytfcklfpgjadfmaa
open Go.RowKit
set_option linter.unusedSimpArgs false
set_option linter.unusedVariables false

/-- the id of a record -/
def idOf (cs : List (Option Rec)) (r : Rec) : Option Nat := if some r ∈ cs then some (cs.idxOf (some r) + 2) else none
theorem idOf_eq {cs : List (Option Rec)} {m : Rec → Option Nat} (h : ∀ (r : Rec) (id : Nat), m r = some id ↔ recAt cs id = some r) (r : Rec) : m r = idOf cs r := by
  unfold idOf
  split
  · rename_i hm
    rw [h]
    have hi := List.idxOf_lt_length_of_mem hm
    unfold recAt
    rw [if_pos (by omega), show ((cs.idxOf (some r) + 2 : Nat) : Int) - 2 = ((cs.idxOf (some r) : Nat) : Int) by omega, Int.toNat_natCast, List.getElem?_eq_getElem hi, List.getElem_idxOf]
    rfl
  · rename_i hm
    cases hx : m r with
    | none => rfl
    | some id =>
      exfalso
      apply hm
      exact List.mem_of_getElem? (recAt_some ((h r id).1 hx)).2.2
theorem recAt_snoc (cs : List (Option Rec)) (r : Rec) (id : Nat) : recAt (cs ++ [some r]) id = if id = cs.length + 2 then some r else recAt cs id := by
  unfold recAt
  split
  · rename_i h2
    have e : ((id : Int) - 2).toNat = id - 2 := by omega
    rw [e]
    split
    · rename_i h3
      subst h3
      simp
    · rename_i h3
      rcases Nat.lt_or_ge (id - 2) cs.length with h4 | h4
      · rw [List.getElem?_append_left h4]
      · rw [List.getElem?_eq_none (by simp; omega), List.getElem?_eq_none h4]
  · rename_i h2
    rw [if_neg (by omega)]
theorem upd_recAt {cs : List (Option Rec)} {m : Rec → Option Nat} {r : Rec} (h : ∀ (r : Rec) (id : Nat), m r = some id ↔ recAt cs id = some r) (hn : m r = none) (r' : Rec) (id : Nat) :
    upd m r (cs.length + 2) r' = some id ↔ recAt (cs ++ [some r]) id = some r' := by
  rw [recAt_snoc]
  unfold upd
  split
  · rename_i e
    subst e
    constructor
    · intro h2; injection h2 with h2; rw [if_pos h2.symm]
    · intro h2
      split at h2
      · rename_i h3; rw [h3]
      · rw [← h, hn] at h2; cases h2
  · rename_i e
    split
    · rename_i h3
      constructor
      · intro h4
        exfalso
        have h5 := (recAt_some ((h r' id).1 h4)).2.1
        omega
      · intro h4; injection h4 with h4; exact absurd h4.symm e
    · exact h r' id
theorem StOk.snoc {n room : Nat} {cs : List (Option Rec)} {r : Rec} (h : StOk n room cs []) (hr : r.Wf) (hc : cntC cs < room) : StOk n room (cs ++ [some r]) [] := by
  have h1 := h.cnt
  simp at h1
  refine ⟨h.n16, h.room20, by simp; omega, by rw [cntC_snoc]; simp; omega, fun i r' hi => ?_⟩
  rcases Nat.lt_trichotomy i cs.length with h2 | h2 | h2
  · rw [List.getElem?_append_left h2] at hi; exact h.wf i r' hi
  · subst h2; simp at hi; subst hi; exact hr
  · rw [List.getElem?_eq_none (by simp; omega)] at hi; cases hi
theorem IdxAt.nodup {w : World} {F : List Nat} {g k : Nat} {m : Rec → Option Nat} (h : IdxAt w F g m k) : F.Nodup := by
  obtain ⟨sl, ⟨A, q, c', _, _, _, rfl, hnd⟩, _⟩ := h
  exact hnd
theorem turns_of_below {A : World → List Nat → Prop} {F : List Nat} {w w' : World} (h : A w' F) (hb : Below w.heap.size w w') : Turns A F w w' := ⟨⟨F, h, fun _ hk => .inl hk⟩, chg_of_below hb⟩
theorem store_put_end {w w9 w10 w11 : World} {g ga gi n room : Nat} {Fa Fi : List Nat} {m : Rec → Option Nat} {cs : List (Option Rec)} {r : Rec} (hb : Below w.heap.size w w9) (hF : ∀ k ∈ g :: (Fa ++ Fi), k < w.heap.size)
    (hB : Blk w9 g 75 #[.int .i64 (n : Nat), .pointer (some ⟨ga, 0, none⟩), .pointer (some ⟨gi, 0, none⟩)]) (hnd : (g :: (Fa ++ Fi)).Nodup) (hok : StOk n room cs []) (hr : r.Wf) (hc : cntC cs < room)
    (hm : ∀ (r : Rec) (id : Nat), m r = some id ↔ recAt cs id = some r) (hn : m r = none)
    (hA : Turns (fun W X => ArenaAt W X ga (cs ++ [some r]) [] room) Fa w9 w10) (hI : Turns (fun W X => IdxAt W X gi (upd m r (cs.length + 2)) (cntC cs + 1)) Fi w10.drew w11) :
    Turns (fun W X => StoreAt W X g n room (cs ++ [some r]) []) (g :: (Fa ++ Fi)) w w11 := by
  obtain ⟨⟨Fa', hA', hFa'⟩, hcA⟩ := hA
  obtain ⟨⟨Fi', hI', hFi'⟩, hcI0⟩ := hI
  have hcI : Chg Fi w10 w11 := ⟨hcI0.os, hcI0.tape, hcI0.output, hcI0.size, hcI0.block⟩
  have hFi' : ∀ k ∈ Fi', k ∈ Fi ∨ w10.heap.size ≤ k := hFi'
  have hs9 := hb.size
  have hs10 := hcA.size
  have hAlt := hA'.lt
  rw [List.nodup_cons, List.nodup_append] at hnd
  obtain ⟨n1, n2, n3, n4⟩ := hnd
  have hga : g ∉ Fa := fun h => n1 (by simp [h])
  have hgi : g ∉ Fi := fun h => n1 (by simp [h])
  have hg := hF g (by simp)
  have hdis : ∀ x ∈ Fa', ∀ y ∈ Fi', x ≠ y := fun x hx y hy => by
    rintro rfl
    rcases hFi' x hy with h | h
    · rcases hFa' x hx with h2 | h2
      · exact n4 x h2 x h rfl
      · have := hF x (by simp [h]); omega
    · have := hAlt x hx; omega
  have hdis2 : ∀ x ∈ Fa', ¬ x ∈ Fi := fun x hx h => by
    rcases hFa' x hx with h2 | h2
    · exact n4 x h2 x h rfl
    · have := hF x (by simp [h]); omega
  refine ⟨⟨g :: (Fa' ++ Fi'), ⟨ga, gi, Fa', Fi', upd m r (cs.length + 2), (hB.chg hcA hga).chg hcI hgi, hA'.chg hcI hdis2, ?_, fun r' id => upd_recAt hm hn r' id, rfl, ?_, hok.snoc hr hc⟩, ?_⟩, ?_⟩
  · rw [cntC_snoc]; exact hI'
  · rw [List.nodup_cons, List.nodup_append]
    refine ⟨fun hx => ?_, hA'.nodup, hI'.nodup, hdis⟩
    rcases List.mem_append.1 hx with h | h
    · rcases hFa' g h with h2 | h2
      · exact hga h2
      · omega
    · rcases hFi' g h with h2 | h2
      · exact hgi h2
      · omega
  · intro k hk
    rcases List.mem_cons.1 hk with rfl | hk
    · exact .inl (by simp)
    · rcases List.mem_append.1 hk with h | h
      · rcases hFa' k h with h2 | h2
        · exact .inl (by simp [h2])
        · right; omega
      · rcases hFi' k h with h2 | h2
        · exact .inl (by simp [h2])
        · right; omega
  · exact ((chg_of_below hb).trans hcA (fun x hx => .inl (by simp [hx]))).trans hcI (fun x hx => .inl (by simp [hx]))

/-- what Find does -/
def findP (n room : Nat) (cs : List (Option Rec)) (r : Rec) : Nat × Nat × List (Option Rec) :=
  match idOf cs r with
  | some id => (id, 0, cs)
  | none => if right r n && leads cs n r.form r.lo (r.bot + 1) && leads cs n r.form r.hi (r.bot + 1) then (if cntC cs < room then (cs.length + 2, 0, cs ++ [some r]) else (0, 6, cs)) else (0, 1, cs)
theorem idOf_le {cs : List (Option Rec)} {r : Rec} {id : Nat} (h : idOf cs r = some id) : 2 ≤ id ∧ id ≤ cs.length + 1 := by
  unfold idOf at h
  split at h
  · rename_i hm
    injection h with h
    have := List.idxOf_lt_length_of_mem hm
    omega
  · cases h
end Go.Proofs.Ytfcklfpgjadfmaa
