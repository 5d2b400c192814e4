/- Plain: a table of slots in which a key stands as near behind its hash's place as can be. -/
import Derived.Below
namespace Go.Proofs.YtpjciaomhfeeeaaGreatDoor
set_option linter.unusedSimpArgs false
set_option linter.unusedVariables false

section
variable {K : Type} (hsh : K → Nat)

/-- slot i holds key k with number id -/
def At (sl : List (Option (K × Nat))) (i : Nat) (k : K) (id : Nat) : Prop := sl[i]? = some (some (k, id))
/-- the first d places behind k's own are taken by other keys -/
def Past (sl : List (Option (K × Nat))) (k : K) (d : Nat) : Prop := ∀ e, e < d → ∃ k' id', At sl ((hsh k + e) % sl.length) k' id' ∧ k' ≠ k
/-- each key's way to its slot leads past other keys alone -/
def Tab (sl : List (Option (K × Nat))) : Prop := ∀ i k id, At sl i k id → ∃ d, i = (hsh k + d) % sl.length ∧ Past hsh sl k d
/-- where the search of k ends -/
def Stops (sl : List (Option (K × Nat))) (k : K) (p : Nat) : Prop := p < sl.length ∧ (∃ d, p = (hsh k + d) % sl.length ∧ Past hsh sl k d) ∧ (sl[p]? = some none ∨ ∃ id, At sl p k id)
/-- k has the number id -/
def Look (sl : List (Option (K × Nat))) (k : K) (id : Nat) : Prop := ∃ i, At sl i k id
/-- how many keys there are -/
def cnt (sl : List (Option (K × Nat))) : Nat := sl.countP Option.isSome

theorem At.lt {sl : List (Option (K × Nat))} {i : Nat} {k : K} {id : Nat} (h : At sl i k id) : i < sl.length := (List.getElem?_eq_some_iff.1 h).1
theorem At.inj {sl : List (Option (K × Nat))} {i : Nat} {k k' : K} {id id' : Nat} (h : At sl i k id) (h' : At sl i k' id') : k = k' ∧ id = id' := by
  unfold At at h h'
  rw [h] at h'
  injection h' with h'
  injection h' with h'
  injection h' with h1 h2
  exact ⟨h1, h2⟩
theorem At.not_none {sl : List (Option (K × Nat))} {i : Nat} {k : K} {id : Nat} (h : At sl i k id) (h' : sl[i]? = some none) : False := by
  unfold At at h
  rw [h] at h'
  injection h' with h'
  cases h'

/-- a key stands in one slot alone: that at which the search ends -/
theorem Stops.only {sl : List (Option (K × Nat))} {k : K} {p i id : Nat} (h : Stops hsh sl k p) (ht : Tab hsh sl) (hi : At sl i k id) : p = i ∧ At sl p k id := by
  obtain ⟨hp, ⟨d, rfl, hd⟩, hend⟩ := h
  obtain ⟨d', rfl, hd'⟩ := ht i k id hi
  rcases Nat.lt_trichotomy d d' with h1 | h1 | h1
  · obtain ⟨k', id', ha, hne⟩ := hd' d h1
    rcases hend with h2 | ⟨id2, h2⟩
    · exact (ha.not_none h2).elim
    · exact absurd (ha.inj h2).1 hne
  · subst h1
    exact ⟨rfl, hi⟩
  · obtain ⟨k', id', ha, hne⟩ := hd d' h1
    exact absurd (ha.inj hi).1 hne
theorem Stops.none_look {sl : List (Option (K × Nat))} {k : K} {p : Nat} (h : Stops hsh sl k p) (ht : Tab hsh sl) (hn : sl[p]? = some none) (id : Nat) : ¬ Look sl k id := by
  rintro ⟨i, hi⟩
  exact ((h.only hsh ht hi).2).not_none hn
theorem Stops.some_look {sl : List (Option (K × Nat))} {k : K} {p id : Nat} (h : Stops hsh sl k p) (ht : Tab hsh sl) (hs : At sl p k id) (id' : Nat) : Look sl k id' ↔ id' = id := by
  constructor
  · rintro ⟨i, hi⟩
    exact ((h.only hsh ht hi).2.inj hs).2
  · rintro rfl
    exact ⟨p, hs⟩

theorem At.set_ne {sl : List (Option (K × Nat))} {i p : Nat} {k : K} {id : Nat} {x : Option (K × Nat)} (h : At sl i k id) (hne : i ≠ p) : At (sl.set p x) i k id := by
  unfold At at *
  rw [List.getElem?_set_ne (fun e => hne e.symm)]
  exact h
theorem At.set_self {sl : List (Option (K × Nat))} {p : Nat} (hp : p < sl.length) (k : K) (id : Nat) : At (sl.set p (some (k, id))) p k id := by
  unfold At
  rw [List.getElem?_set_self hp]
theorem At.of_set {sl : List (Option (K × Nat))} {i p : Nat} {k k' : K} {id id' : Nat} (h : At (sl.set p (some (k', id'))) i k id) (hp : p < sl.length) : (i = p ∧ k = k' ∧ id = id') ∨ (i ≠ p ∧ At sl i k id) := by
  by_cases e : i = p
  · subst e
    have := h.inj (At.set_self hp k' id')
    exact .inl ⟨rfl, this.1, this.2⟩
  · refine .inr ⟨e, ?_⟩
    unfold At at *
    rw [List.getElem?_set_ne (fun e' => e e'.symm)] at h
    exact h
/-- ways stay ways behind a store into an empty slot, or into the slot of the same key -/
theorem Past.set_ {sl : List (Option (K × Nat))} {p : Nat} {k k0 : K} {id0 d : Nat} (h : Past hsh sl k d) (hp : p < sl.length)
    (he : sl[p]? = some none ∨ ∃ id, At sl p k0 id) : Past hsh (sl.set p (some (k0, id0))) k d := by
  intro e hed
  obtain ⟨k', id', ha, hne⟩ := h e hed
  rw [List.length_set]
  by_cases hq : (hsh k + e) % sl.length = p
  · rw [hq] at ha ⊢
    rcases he with he | ⟨id, he⟩
    · exact (ha.not_none he).elim
    · obtain ⟨rfl, _⟩ := ha.inj he
      exact ⟨k', id0, At.set_self hp _ _, hne⟩
  · exact ⟨k', id', ha.set_ne hq, hne⟩
/-- a store where the search ended -/
theorem Tab.put {sl : List (Option (K × Nat))} {k : K} {p : Nat} (ht : Tab hsh sl) (h : Stops hsh sl k p) (id : Nat) : Tab hsh (sl.set p (some (k, id))) := by
  intro i k2 id2 ha
  obtain ⟨hp, ⟨d, rfl, hd⟩, hend⟩ := h
  rcases ha.of_set hp with ⟨rfl, rfl, rfl⟩ | ⟨hne, ha⟩
  · exact ⟨d, by rw [List.length_set], hd.set_ hsh hp hend⟩
  · obtain ⟨d2, rfl, hd2⟩ := ht i k2 id2 ha
    exact ⟨d2, by rw [List.length_set], hd2.set_ hsh hp hend⟩
/-- .. what is found then -/
theorem Stops.look_put {sl : List (Option (K × Nat))} {k : K} {p : Nat} (ht : Tab hsh sl) (h : Stops hsh sl k p) (id : Nat) (k2 : K) (id2 : Nat) :
    Look (sl.set p (some (k, id))) k2 id2 ↔ (k2 = k ∧ id2 = id) ∨ (k2 ≠ k ∧ Look sl k2 id2) := by
  have hp := h.1
  constructor
  · rintro ⟨i, hi⟩
    rcases hi.of_set hp with ⟨rfl, rfl, rfl⟩ | ⟨hne, ha⟩
    · exact .inl ⟨rfl, rfl⟩
    · by_cases e : k2 = k
      · subst e
        exact absurd (h.only hsh ht ha).1.symm hne
      · exact .inr ⟨e, i, ha⟩
  · rintro (⟨rfl, rfl⟩ | ⟨hne, i, hi⟩)
    · exact ⟨p, At.set_self hp _ _⟩
    · refine ⟨i, hi.set_ne ?_⟩
      rintro rfl
      rcases h.2.2 with h2 | ⟨id0, h2⟩
      · exact hi.not_none h2
      · exact hne (hi.inj h2).1
theorem cnt_set_none {sl : List (Option (K × Nat))} {p : Nat} (hp : p < sl.length) (hn : sl[p]? = some none) (x : K × Nat) : cnt (sl.set p (some x)) = cnt sl + 1 := by
  unfold cnt
  rw [List.getElem?_eq_getElem hp] at hn
  injection hn with hn
  rw [List.countP_set hp]
  simp [hn]
theorem cnt_set_some {sl : List (Option (K × Nat))} {p id : Nat} {k : K} (hs : At sl p k id) (x : K × Nat) : cnt (sl.set p (some x)) = cnt sl := by
  have hp := hs.lt
  unfold At at hs
  unfold cnt
  rw [List.getElem?_eq_getElem hp] at hs
  injection hs with hs
  rw [List.countP_set hp]
  have h1 : 0 < sl.countP Option.isSome := List.countP_pos_iff.2 ⟨sl[p], List.getElem_mem hp, by simp [hs]⟩
  simp [hs]
  omega
/-- fewer keys than slots: one is empty -/
theorem cnt_lt {sl : List (Option (K × Nat))} (h : cnt sl < sl.length) : ∃ i : Nat, sl[i]? = some none := by
  rcases Classical.em (∃ i : Nat, sl[i]? = some none) with h1 | h1
  · exact h1
  · exfalso
    have : cnt sl = sl.length := by
      unfold cnt
      rw [List.countP_eq_length]
      intro x hx
      obtain ⟨i, hi⟩ := List.getElem?_of_mem hx
      cases x with
      | none => exact absurd ⟨i, hi⟩ h1
      | some y => rfl
    omega
theorem mod_reach (h s i : Nat) (hi : i < s) : ∃ d, d < s ∧ (h + d) % s = i := by
  have hs : 0 < s := by omega
  have hm : h % s < s := Nat.mod_lt _ hs
  rcases Nat.lt_or_ge i (h % s) with h1 | h1
  · refine ⟨s + i - h % s, by omega, ?_⟩
    rw [Nat.add_mod, Nat.mod_eq_of_lt (a := s + i - h % s) (by omega)]
    rw [show h % s + (s + i - h % s) = i + s by omega, Nat.add_mod_right, Nat.mod_eq_of_lt hi]
  · refine ⟨i - h % s, by omega, ?_⟩
    rw [Nat.add_mod, Nat.mod_eq_of_lt (a := i - h % s) (by omega)]
    rw [show h % s + (i - h % s) = i by omega, Nat.mod_eq_of_lt hi]
/-- the search ends before it has been round -/
theorem Past.lt {sl : List (Option (K × Nat))} {k : K} {d : Nat} (h : Past hsh sl k d) (hc : cnt sl < sl.length) : d < sl.length := by
  rcases Nat.lt_or_ge d sl.length with h1 | h1
  · exact h1
  · exfalso
    obtain ⟨i, hi⟩ := cnt_lt hc
    have hil : i < sl.length := (List.getElem?_eq_some_iff.1 hi).1
    obtain ⟨e, he, hei⟩ := mod_reach (hsh k) sl.length i hil
    obtain ⟨k', id', ha, _⟩ := h e (by omega)
    rw [hei] at ha
    exact ha.not_none hi
theorem Past.zero (sl : List (Option (K × Nat))) (k : K) : Past hsh sl k 0 := fun e h => by omega
theorem Past.succ {sl : List (Option (K × Nat))} {k k' : K} {d id : Nat} (h : Past hsh sl k d) (ha : At sl ((hsh k + d) % sl.length) k' id) (hne : k' ≠ k) : Past hsh sl k (d + 1) := by
  intro e he
  rcases Nat.lt_or_ge e d with h1 | h1
  · exact h e h1
  · obtain rfl : e = d := by omega
    exact ⟨k', id, ha, hne⟩
theorem next_mod (a s : Nat) : (a % s + 1) % s = (a + 1) % s := by rw [Nat.mod_add_mod]
theorem Tab.blank (n : Nat) : Tab hsh (List.replicate n none) := by
  intro i k id h
  unfold At at h
  rw [List.getElem?_replicate] at h
  split at h
  · injection h with h; cases h
  · cases h
theorem cnt_blank (n : Nat) : cnt (List.replicate n (none : Option (K × Nat))) = 0 := by
  unfold cnt
  rw [List.countP_eq_zero]
  intro a ha
  rw [List.mem_replicate] at ha
  rw [ha.2]
  simp
theorem look_blank (n : Nat) (k : K) (id : Nat) : ¬ Look (List.replicate n none) k id := by
  rintro ⟨i, h⟩
  unfold At at h
  rw [List.getElem?_replicate] at h
  split at h
  · injection h with h; cases h
  · cases h
theorem Stops.uniq {sl : List (Option (K × Nat))} {k : K} {p p' : Nat} (h : Stops hsh sl k p) (h' : Stops hsh sl k p') : p = p' := by
  obtain ⟨_, ⟨d, rfl, hd⟩, hend⟩ := h
  obtain ⟨_, ⟨d', rfl, hd'⟩, hend'⟩ := h'
  rcases Nat.lt_trichotomy d d' with h1 | h1 | h1
  · obtain ⟨k', id', ha, hne⟩ := hd' d h1
    rcases hend with h2 | ⟨id2, h2⟩
    · exact (ha.not_none h2).elim
    · exact absurd (ha.inj h2).1 hne
  · rw [h1]
  · obtain ⟨k', id', ha, hne⟩ := hd d' h1
    rcases hend' with h2 | ⟨id2, h2⟩
    · exact (ha.not_none h2).elim
    · exact absurd (ha.inj h2).1 hne
theorem stops_ex {sl : List (Option (K × Nat))} (k : K) (hc : cnt sl < sl.length) : ∃ p, Stops hsh sl k p := by
  have go : ∀ (f d : Nat), d + f = sl.length → Past hsh sl k d → ∃ p, Stops hsh sl k p := by
    intro f
    induction f with
    | zero => intro d h hp; have := hp.lt hsh hc; omega
    | succ f ih =>
      intro d h hp
      have hm : (hsh k + d) % sl.length < sl.length := Nat.mod_lt _ (by omega)
      cases hx : sl[(hsh k + d) % sl.length]? with
      | none => rw [List.getElem?_eq_none_iff] at hx; omega
      | some x =>
        cases x with
        | none => exact ⟨_, hm, ⟨d, rfl, hp⟩, .inl hx⟩
        | some y =>
          obtain ⟨k', id'⟩ := y
          rcases Classical.em (k' = k) with e | e
          · subst e
            exact ⟨_, hm, ⟨d, rfl, hp⟩, .inr ⟨id', hx⟩⟩
          · exact ih (d + 1) (by omega) (hp.succ hsh hx e)
  exact go sl.length 0 (by omega) (Past.zero hsh sl k)
/-- an old table of which the first j slots were laid into a new one -/
structure Moved (old new : List (Option (K × Nat))) (j : Nat) : Prop where
  tab : Tab hsh new
  cnt : cnt new = Go.Proofs.YtpjciaomhfeeeaaGreatDoor.cnt (old.take j)
  look : ∀ k id, Look new k id ↔ ∃ i, i < j ∧ At old i k id
theorem take_cnt_succ (old : List (Option (K × Nat))) (j : Nat) (x : Option (K × Nat)) (h : old[j]? = some x) : Go.Proofs.YtpjciaomhfeeeaaGreatDoor.cnt (old.take (j + 1)) = Go.Proofs.YtpjciaomhfeeeaaGreatDoor.cnt (old.take j) + (if x.isSome then 1 else 0) := by
  unfold Go.Proofs.YtpjciaomhfeeeaaGreatDoor.cnt
  rw [List.take_add_one, h]
  simp [List.countP_append]
theorem cnt_take_le (old : List (Option (K × Nat))) (j : Nat) : Go.Proofs.YtpjciaomhfeeeaaGreatDoor.cnt (old.take j) ≤ Go.Proofs.YtpjciaomhfeeeaaGreatDoor.cnt old := by
  unfold Go.Proofs.YtpjciaomhfeeeaaGreatDoor.cnt
  exact List.Sublist.countP_le (List.take_sublist j old)
theorem Moved.zero (old : List (Option (K × Nat))) (n : Nat) : Moved hsh old (List.replicate n none) 0 :=
  ⟨Tab.blank hsh n, by rw [cnt_blank]; simp [Go.Proofs.YtpjciaomhfeeeaaGreatDoor.cnt], fun k id => ⟨fun h => (look_blank n k id h).elim, fun ⟨i, h, _⟩ => by omega⟩⟩
theorem Moved.skip {old new : List (Option (K × Nat))} {j : Nat} (h : Moved hsh old new j) (hj : old[j]? = some none) : Moved hsh old new (j + 1) := by
  refine ⟨h.tab, ?_, fun k id => ?_⟩
  · rw [take_cnt_succ old j none hj, h.cnt]; rfl
  · rw [h.look]
    constructor
    · rintro ⟨i, hi, ha⟩; exact ⟨i, by omega, ha⟩
    · rintro ⟨i, hi, ha⟩
      refine ⟨i, ?_, ha⟩
      rcases Nat.lt_or_ge i j with h1 | h1
      · exact h1
      · obtain rfl : i = j := by omega
        exact (ha.not_none hj).elim
/-- of two tables one key has one number -/
theorem Tab.uniq {sl : List (Option (K × Nat))} (ht : Tab hsh sl) {i j : Nat} {k : K} {id id' : Nat} (h : At sl i k id) (h' : At sl j k id') : i = j := by
  have hs : Stops hsh sl k i := ⟨h.lt, ht i k id h, .inr ⟨id, h⟩⟩
  exact (hs.only hsh ht h').1
theorem Moved.none_ {old new : List (Option (K × Nat))} {j : Nat} (h : Moved hsh old new j) (ht : Tab hsh old) {k : K} {id : Nat} (hj : At old j k id) {p : Nat} (hs : Stops hsh new k p) : new[p]? = some none := by
  rcases hs.2.2 with h1 | ⟨id', h1⟩
  · exact h1
  · obtain ⟨i, hi, ha⟩ := (h.look k id').1 ⟨p, h1⟩
    have := ht.uniq hsh ha hj
    omega
theorem Moved.put {old new : List (Option (K × Nat))} {j : Nat} (h : Moved hsh old new j) (ht : Tab hsh old) {k : K} {id : Nat} (hj : At old j k id) {p : Nat} (hs : Stops hsh new k p) : Moved hsh old (new.set p (some (k, id))) (j + 1) := by
  have hn := h.none_ hsh ht hj hs
  refine ⟨h.tab.put hsh hs id, ?_, fun k2 id2 => ?_⟩
  · rw [take_cnt_succ old j _ hj, cnt_set_none hs.1 hn, h.cnt]; rfl
  · rw [Stops.look_put hsh h.tab hs, h.look]
    constructor
    · rintro (⟨rfl, rfl⟩ | ⟨hne, i, hi, ha⟩)
      · exact ⟨j, by omega, hj⟩
      · exact ⟨i, by omega, ha⟩
    · rintro ⟨i, hi, ha⟩
      rcases Nat.lt_or_ge i j with h1 | h1
      · by_cases e : k2 = k
        · subst e
          have := ht.uniq hsh ha hj
          omega
        · exact .inr ⟨e, i, h1, ha⟩
      · obtain rfl : i = j := by omega
        have := ha.inj hj
        exact .inl this
theorem Moved.all {old new : List (Option (K × Nat))} (h : Moved hsh old new old.length) (k : K) (id : Nat) : Look new k id ↔ Look old k id := by
  rw [h.look]
  constructor
  · rintro ⟨i, _, ha⟩; exact ⟨i, ha⟩
  · rintro ⟨i, ha⟩; exact ⟨i, ha.lt, ha⟩
end
end Go.Proofs.YtpjciaomhfeeeaaGreatDoor
