/- Plain: diagrams made from below out of tables: what they denote, how many nodes there are. z: zero-suppressed. -/
import Derived.Below
namespace Go.Proofs.YtdhfpnbpkbelmaaDoor
set_option linter.unusedSimpArgs false
set_option linter.unusedVariables false

structure Nd where
  lv : Nat
  lo : Nat
  hi : Nat
deriving DecidableEq
inductive Tm where
  | leaf (b : Bool)
  | node (l : Nat) (lo hi : Tm)
deriving DecidableEq

def red (z : Bool) (lo hi : Nat) : Bool := if z then decide (hi = 0) else decide (lo = hi)
def redT (z : Bool) (lo hi : List Bool) : Bool := if z then hi.all (fun b => !b) else decide (lo = hi)
def mkP (z : Bool) (room : Nat) (S : List Nd) (l lo hi : Nat) : Option Nat × List Nd :=
  if red z lo hi then (some lo, S)
  else if ⟨l, lo, hi⟩ ∈ S then (some (S.idxOf ⟨l, lo, hi⟩ + 2), S)
  else if S.length < room then (some (S.length + 2), S ++ [⟨l, lo, hi⟩]) else (none, S)
def bitE (t : List Bool) : Nat := if t.head? = some true then 1 else 0
def madeP (z : Bool) (room : Nat) : Nat → List Bool → Nat → List Nd → Option Nat × List Nd
  | 0, t, _, S => (some (bitE t), S)
  | k + 1, t, l, S =>
    match (madeP z room k (t.take (2 ^ k)) (l + 1) S).1, (madeP z room k (t.drop (2 ^ k)) (l + 1) (madeP z room k (t.take (2 ^ k)) (l + 1) S).2).1 with
    | some a, some b => mkP z room (madeP z room k (t.drop (2 ^ k)) (l + 1) (madeP z room k (t.take (2 ^ k)) (l + 1) S).2).2 l a b
    | _, _ => (none, (madeP z room k (t.drop (2 ^ k)) (l + 1) (madeP z room k (t.take (2 ^ k)) (l + 1) S).2).2)
def tmOf (z : Bool) : Nat → List Bool → Nat → Tm
  | 0, t, _ => .leaf (t.head? == some true)
  | k + 1, t, l => if redT z (t.take (2 ^ k)) (t.drop (2 ^ k)) then tmOf z k (t.take (2 ^ k)) (l + 1) else .node l (tmOf z k (t.take (2 ^ k)) (l + 1)) (tmOf z k (t.drop (2 ^ k)) (l + 1))

/-- what an edge denotes -/
inductive Den (S : List Nd) : Nat → Tm → Prop where
  | zero : Den S 0 (.leaf false)
  | one : Den S 1 (.leaf true)
  | node (i : Nat) (nd : Nd) (a b : Tm) (h : S[i]? = some nd) (hl : Den S nd.lo a) (hh : Den S nd.hi b) : Den S (i + 2) (.node nd.lv a b)
/-- an edge leads, at a level, to a node before place i -/
def Ld (S : List Nd) (a l : Nat) : Prop := a < 2 ∨ ∃ nd, S[a - 2]? = some nd ∧ l ≤ nd.lv
structure SInv (z : Bool) (n : Nat) (S : List Nd) : Prop where
  nodup : S.Nodup
  node : ∀ (i : Nat) (nd : Nd), S[i]? = some nd → nd.lv < n ∧ Ld S nd.lo (nd.lv + 1) ∧ Ld S nd.hi (nd.lv + 1) ∧ red z nd.lo nd.hi = false ∧ nd.lo < i + 2 ∧ nd.hi < i + 2

section
variable {z : Bool} {room n : Nat} {S S' : List Nd}
theorem Den.fun_ {a : Nat} {T : Tm} (h : Den S a T) : ∀ {T'}, Den S a T' → T = T' := by
  induction h with
  | zero => intro T' h'; cases h'; rfl
  | one => intro T' h'; cases h'; rfl
  | node i nd a b h _ _ ih1 ih2 =>
    intro T' h'
    cases h' with
    | node _ nd' a' b' h' hl' hh' =>
      rw [h] at h'
      injection h' with h'
      subst h'
      rw [ih1 hl', ih2 hh']
theorem Den.inj {a : Nat} {T : Tm} (hS : S.Nodup) (h : Den S a T) : ∀ {b}, Den S b T → a = b := by
  induction h with
  | zero => intro b h'; cases h'; rfl
  | one => intro b h'; cases h'; rfl
  | node i nd A B h _ _ ih1 ih2 =>
    intro b h'
    generalize hT : Tm.node nd.lv A B = T at h'
    cases h' with
    | zero => cases hT
    | one => cases hT
    | node i' nd' a' b' h' hl' hh' =>
      injection hT with h1 h2 h3
      subst h2
      subst h3
      have e1 := ih1 hl'
      have e2 := ih2 hh'
      have : nd = nd' := by cases nd; cases nd'; simp_all
      subst this
      have hi := (List.getElem?_eq_some_iff.1 h).1
      have := (List.getElem?_inj hi hS).1 (h.trans h'.symm)
      omega
theorem Den.mono {a : Nat} {T : Tm} (h : Den S a T) (hp : S <+: S') : Den S' a T := by
  induction h with
  | zero => exact .zero
  | one => exact .one
  | node i nd A B h _ _ ih1 ih2 =>
    obtain ⟨r, rfl⟩ := hp
    refine .node i nd A B ?_ ih1 ih2
    rw [List.getElem?_append_left (List.getElem?_eq_some_iff.1 h).1]
    exact h
theorem Ld.mono {a l : Nat} (h : Ld S a l) (hp : S <+: S') : Ld S' a l := by
  obtain ⟨r, rfl⟩ := hp
  rcases h with h | ⟨nd, h, hl⟩
  · exact .inl h
  · refine .inr ⟨nd, ?_, hl⟩
    rw [List.getElem?_append_left (List.getElem?_eq_some_iff.1 h).1]
    exact h
theorem Ld.less {a l l' : Nat} (h : Ld S a l) (hl : l' ≤ l) : Ld S a l' := by
  rcases h with h | ⟨nd, h, hl'⟩
  · exact .inl h
  · exact .inr ⟨nd, h, by omega⟩

/-- the nodes of a term -/
def subs : Tm → List Tm
  | .leaf _ => []
  | .node l a b => .node l a b :: (subs a ++ subs b)
/-- a term's top level is not above l -/
def topGe (l : Nat) : Tm → Prop
  | .leaf _ => True
  | .node l' _ _ => l ≤ l'
theorem topGe.less {l l' : Nat} {T : Tm} (h : topGe l T) (hl : l' ≤ l) : topGe l' T := by
  cases T with
  | leaf b => trivial
  | node l2 a b => unfold topGe at *; omega
theorem tmOf_top (z : Bool) : ∀ (k : Nat) (t : List Bool) (l : Nat), topGe l (tmOf z k t l)
  | 0, t, l => trivial
  | k + 1, t, l => by
    unfold tmOf
    split
    · exact (tmOf_top z k _ (l + 1)).less (by omega)
    · exact Nat.le_refl _
/-- the table of a term -/
def tab (z : Bool) : Nat → Nat → Tm → List Bool
  | 0, _, T => [T == .leaf true]
  | k + 1, l, .leaf b => tab z k (l + 1) (.leaf b) ++ (if z then List.replicate (2 ^ k) false else tab z k (l + 1) (.leaf b))
  | k + 1, l, .node l' a b => if l' = l then tab z k (l + 1) a ++ tab z k (l + 1) b else tab z k (l + 1) (.node l' a b) ++ (if z then List.replicate (2 ^ k) false else tab z k (l + 1) (.node l' a b))
theorem tab_skip (z : Bool) (k l : Nat) (T : Tm) (h : topGe (l + 1) T) : tab z (k + 1) l T = tab z k (l + 1) T ++ (if z then List.replicate (2 ^ k) false else tab z k (l + 1) T) := by
  cases T with
  | leaf b => rfl
  | node l' a b =>
    unfold topGe at h
    rw [tab, if_neg (by omega)]
theorem tab_tmOf (z : Bool) : ∀ (k : Nat) (t : List Bool) (l : Nat), t.length = 2 ^ k → tab z k l (tmOf z k t l) = t
  | 0, t, l, h => by
    match t, h with
    | [b], _ => cases b <;> simp [tab, tmOf]
  | k + 1, t, l, h => by
    have hp : 2 ^ (k + 1) = 2 ^ k + 2 ^ k := by rw [Nat.pow_succ]; omega
    have h1 : (t.take (2 ^ k)).length = 2 ^ k := by rw [List.length_take]; omega
    have h2 : (t.drop (2 ^ k)).length = 2 ^ k := by rw [List.length_drop]; omega
    unfold tmOf
    split
    · rename_i hr
      rw [tab_skip z k l _ (tmOf_top z k _ (l + 1)), tab_tmOf z k _ _ h1]
      conv => rhs; rw [← List.take_append_drop (2 ^ k) t]
      congr 1
      cases z with
      | true =>
        simp only [redT, if_true] at hr ⊢
        rw [List.all_eq_true] at hr
        symm
        rw [List.eq_replicate_iff]
        exact ⟨h2, fun b hb => by simpa using hr b hb⟩
      | false => simpa [redT] using hr
    · rw [tab, if_pos rfl, tab_tmOf z k _ _ h1, tab_tmOf z k _ _ h2, List.take_append_drop]
theorem tmOf_inj {z : Bool} {k l : Nat} {t u : List Bool} (ht : t.length = 2 ^ k) (hu : u.length = 2 ^ k) (h : tmOf z k t l = tmOf z k u l) : t = u := by
  rw [← tab_tmOf z k t l ht, h, tab_tmOf z k u l hu]
theorem tmOf_none (z : Bool) : ∀ (k l : Nat), tmOf z k (List.replicate (2 ^ k) false) l = .leaf false
  | 0, l => rfl
  | k + 1, l => by
    have hp : 2 ^ (k + 1) = 2 ^ k + 2 ^ k := by rw [Nat.pow_succ]; omega
    unfold tmOf
    rw [List.take_replicate, List.drop_replicate, hp, Nat.min_eq_left (Nat.le_add_left _ _), Nat.add_sub_cancel]
    rw [if_pos (by cases z <;> simp [redT]), tmOf_none z k (l + 1)]
/-- edges are reduced just if tables are -/
theorem red_iff (hS : S.Nodup) {k l a b : Nat} {t u : List Bool} (ht : t.length = 2 ^ k) (hu : u.length = 2 ^ k) (ha : Den S a (tmOf z k t l)) (hb : Den S b (tmOf z k u l)) : red z a b = redT z t u := by
  cases z with
  | false =>
    simp only [red, redT, if_false, Bool.false_eq_true]
    congr 1
    apply propext
    constructor
    · rintro rfl
      exact tmOf_inj ht hu (ha.fun_ hb)
    · rintro rfl
      exact ha.inj hS hb
  | true =>
    simp only [red, redT, if_true]
    rw [Bool.eq_iff_iff, decide_eq_true_eq, List.all_eq_true]
    constructor
    · rintro rfl
      have h1 := hb.fun_ (Den.zero)
      have h2 : u = List.replicate (2 ^ k) false := tmOf_inj hu (by simp) (h1.trans (tmOf_none true k l).symm)
      rw [h2]
      intro x hx
      rw [List.mem_replicate] at hx
      rw [hx.2]; rfl
    · intro h
      have h2 : u = List.replicate (2 ^ k) false := by
        rw [List.eq_replicate_iff]
        exact ⟨hu, fun x hx => by simpa using h x hx⟩
      rw [h2, tmOf_none] at hb
      exact hb.inj hS .zero

theorem SInv.nil (z : Bool) (n : Nat) : SInv z n [] := ⟨List.nodup_nil, fun i nd h => by simp at h⟩
theorem SInv.snoc (h : SInv z n S) {l a b : Nat} (hl : l < n) (ha : Ld S a (l + 1)) (hb : Ld S b (l + 1)) (hr : red z a b = false) (hn : ¬ (⟨l, a, b⟩ : Nd) ∈ S) : SInv z n (S ++ [⟨l, a, b⟩]) := by
  have hp : S <+: S ++ [⟨l, a, b⟩] := ⟨_, rfl⟩
  have lt : ∀ x, Ld S x (l + 1) → x < S.length + 2 := fun x hx => by
    rcases hx with hx | ⟨nd, hx, _⟩
    · omega
    · have := (List.getElem?_eq_some_iff.1 hx).1; omega
  refine ⟨?_, fun i nd hi => ?_⟩
  · rw [List.nodup_append]
    exact ⟨h.nodup, by simp, fun x hx y hy => by rintro rfl; simp at hy; subst hy; exact hn hx⟩
  · rcases Nat.lt_trichotomy i S.length with h1 | h1 | h1
    · rw [List.getElem?_append_left h1] at hi
      obtain ⟨e1, e2, e3, e4, e5, e6⟩ := h.node i nd hi
      exact ⟨e1, e2.mono hp, e3.mono hp, e4, e5, e6⟩
    · subst h1
      rw [List.getElem?_append_right (Nat.le_refl _)] at hi
      simp at hi
      subst hi
      exact ⟨hl, ha.mono hp, hb.mono hp, hr, lt a ha, lt b hb⟩
    · rw [List.getElem?_eq_none (by simp; omega)] at hi; cases hi
theorem mem_idx {x : Nd} (h : x ∈ S) : S[S.idxOf x]? = some x := by
  rw [List.getElem?_eq_getElem (List.idxOf_lt_length_of_mem h), List.getElem_idxOf]

theorem mkP_grow (z : Bool) (room : Nat) (S : List Nd) (l a b : Nat) : S <+: (mkP z room S l a b).2 ∧ (mkP z room S l a b).2.length ≤ S.length + 1 ∧ (S.length ≤ room → (mkP z room S l a b).2.length ≤ room) ∧ (room ≤ S.length → (mkP z room S l a b).2 = S) := by
  unfold mkP
  repeat' split
  all_goals first
    | exact ⟨List.prefix_rfl, by simp, fun h => h, fun _ => rfl⟩
    | exact ⟨⟨_, rfl⟩, by simp, fun h => by simp; omega, fun h => by omega⟩
theorem madeP_grow (z : Bool) (room : Nat) : ∀ (k : Nat) (t : List Bool) (l : Nat) (S : List Nd), S <+: (madeP z room k t l S).2 ∧ (madeP z room k t l S).2.length + 1 ≤ S.length + 2 ^ k ∧ (S.length ≤ room → (madeP z room k t l S).2.length ≤ room) ∧ (room ≤ S.length → (madeP z room k t l S).2 = S)
  | 0, t, l, S => ⟨List.prefix_rfl, by simp [madeP], fun h => h, fun _ => rfl⟩
  | k + 1, t, l, S => by
    have hp : 2 ^ (k + 1) = 2 ^ k + 2 ^ k := by rw [Nat.pow_succ]; omega
    have h1 := madeP_grow z room k (t.take (2 ^ k)) (l + 1) S
    have h2 := madeP_grow z room k (t.drop (2 ^ k)) (l + 1) (madeP z room k (t.take (2 ^ k)) (l + 1) S).2
    unfold madeP
    generalize madeP z room k (t.drop (2 ^ k)) (l + 1) (madeP z room k (t.take (2 ^ k)) (l + 1) S).2 = r2 at *
    generalize madeP z room k (t.take (2 ^ k)) (l + 1) S = r1 at *
    obtain ⟨a, S1⟩ := r1
    obtain ⟨b, S2⟩ := r2
    simp only at h1 h2 ⊢
    have base : S <+: S2 ∧ S2.length + 1 ≤ S.length + 2 ^ (k + 1) ∧ (S.length ≤ room → S2.length ≤ room) ∧ (room ≤ S.length → S2 = S) :=
      ⟨h1.1.trans h2.1, by omega, fun h => h2.2.2.1 (h1.2.2.1 h), fun h => by
        have e1 := h1.2.2.2 h
        subst e1
        exact h2.2.2.2 h⟩
    cases a <;> cases b
    · exact base
    · exact base
    · exact base
    · rename_i a b
      have h3 := mkP_grow z room S2 l a b
      refine ⟨base.1.trans h3.1, by have h4 := h3.2.1; have h5 := h1.2.1; have h6 := h2.2.1; simp only; omega, fun h => h3.2.2.1 (base.2.2.1 h), fun h => ?_⟩
      have e1 := base.2.2.2 h
      subst e1
      exact h3.2.2.2 h

theorem Den.sub {a : Nat} {T : Tm} (h : Den S a T) : ∀ U ∈ subs T, ∃ i, Den S i U := by
  induction h with
  | zero => intro U hU; simp [subs] at hU
  | one => intro U hU; simp [subs] at hU
  | node i nd A B h hl hh ih1 ih2 =>
    intro U hU
    simp only [subs, List.mem_cons, List.mem_append] at hU
    rcases hU with rfl | hU | hU
    · exact ⟨i + 2, .node i nd A B h hl hh⟩
    · exact ih1 U hU
    · exact ih2 U hU
theorem subs_halves (z : Bool) (k l : Nat) (t : List Bool) (ht : t.length = 2 ^ (k + 1)) :
    (∀ U ∈ subs (tmOf z k (t.take (2 ^ k)) (l + 1)), U ∈ subs (tmOf z (k + 1) t l)) ∧ (∀ U ∈ subs (tmOf z k (t.drop (2 ^ k)) (l + 1)), U ∈ subs (tmOf z (k + 1) t l)) := by
  have hp : 2 ^ (k + 1) = 2 ^ k + 2 ^ k := by rw [Nat.pow_succ]; omega
  rw [tmOf]
  split
  · rename_i hr
    refine ⟨fun U h => h, fun U h => ?_⟩
    cases z with
    | false =>
      simp only [redT, if_false, Bool.false_eq_true, decide_eq_true_eq] at hr
      rw [← hr] at h
      exact h
    | true =>
      simp only [redT, if_true, List.all_eq_true] at hr
      have h2 : t.drop (2 ^ k) = List.replicate (2 ^ k) false := by
        rw [List.eq_replicate_iff]
        exact ⟨by rw [List.length_drop]; omega, fun x hx => by simpa using hr x hx⟩
      rw [h2, tmOf_none] at h
      simp [subs] at h
  · refine ⟨fun U h => ?_, fun U h => ?_⟩ <;> simp [subs, h]

theorem leaf_sub : ∀ (T : Tm) (b : Bool), ¬ Tm.leaf b ∈ subs T
  | .leaf _, b, h => by simp [subs] at h
  | .node l x y, b, h => by
    simp only [subs, List.mem_cons, List.mem_append] at h
    rcases h with h | h | h
    · cases h
    · exact leaf_sub x b h
    · exact leaf_sub y b h
/-- what making from below leaves -/
structure MadeP (z : Bool) (room n : Nat) (S : List Nd) (T : Tm) (l : Nat) (r : Option Nat × List Nd) : Prop where
  inv : SInv z n r.2
  pre : S <+: r.2
  only : ∀ i, i < r.2.length → i < S.length ∨ ∃ U ∈ subs T, Den r.2 (i + 2) U
  yes : ∀ e, r.1 = some e → Den r.2 e T ∧ Ld r.2 e l
  no : r.1 = none → room ≤ r.2.length ∧ ∃ U ∈ subs T, ∀ i, ¬ Den r.2 i U
theorem mkP_spec (hS : SInv z n S) {k l a b : Nat} {t : List Bool} (hln : l < n) (ht : t.length = 2 ^ (k + 1)) (ha : Den S a (tmOf z k (t.take (2 ^ k)) (l + 1))) (hb : Den S b (tmOf z k (t.drop (2 ^ k)) (l + 1)))
    (la : Ld S a (l + 1)) (lb : Ld S b (l + 1)) : MadeP z room n S (tmOf z (k + 1) t l) l (mkP z room S l a b) := by
  have hp : 2 ^ (k + 1) = 2 ^ k + 2 ^ k := by rw [Nat.pow_succ]; omega
  have h1 : (t.take (2 ^ k)).length = 2 ^ k := by rw [List.length_take]; omega
  have h2 : (t.drop (2 ^ k)).length = 2 ^ k := by rw [List.length_drop]; omega
  have hr := red_iff hS.nodup h1 h2 ha hb
  unfold mkP
  rw [tmOf, ← hr]
  split
  · rename_i hd
    exact ⟨hS, List.prefix_rfl, fun i hi => .inl hi, fun e he => by injection he with he; subst he; exact ⟨ha, la.less (by omega)⟩, fun h => by cases h⟩
  · rename_i hd
    split
    · rename_i hm
      have hg := mem_idx hm
      exact ⟨hS, List.prefix_rfl, fun i hi => .inl hi, fun e he => by
        injection he with he
        subst he
        exact ⟨.node _ _ _ _ hg ha hb, .inr ⟨_, by simpa using hg, Nat.le_refl _⟩⟩, fun h => by cases h⟩
    · rename_i hm
      split
      · have hS' := hS.snoc hln la lb (by simpa using hd) hm
        have hpre : S <+: S ++ [⟨l, a, b⟩] := ⟨_, rfl⟩
        have hg : (S ++ [(⟨l, a, b⟩ : Nd)])[S.length]? = some ⟨l, a, b⟩ := by simp
        have hden : Den (S ++ [(⟨l, a, b⟩ : Nd)]) (S.length + 2) (.node l (tmOf z k (t.take (2 ^ k)) (l + 1)) (tmOf z k (t.drop (2 ^ k)) (l + 1))) := .node S.length ⟨l, a, b⟩ _ _ hg (ha.mono hpre) (hb.mono hpre)
        refine ⟨hS', hpre, fun i hi => ?_, fun e he => ?_, fun h => by cases h⟩
        · simp at hi
          rcases Nat.lt_or_ge i S.length with h3 | h3
          · exact .inl h3
          · obtain rfl : i = S.length := by omega
            exact .inr ⟨_, by simp [subs], hden⟩
        · injection he with he
          subst he
          exact ⟨hden, .inr ⟨⟨l, a, b⟩, by rw [Nat.add_sub_cancel]; exact hg, Nat.le_refl _⟩⟩
      · refine ⟨hS, List.prefix_rfl, fun i hi => .inl hi, fun e he => (by cases he), fun _ => ⟨by simp only; omega, _, List.mem_cons_self, fun i hi => ?_⟩⟩
        simp only at hi
        generalize hT : Tm.node l (tmOf z k (t.take (2 ^ k)) (l + 1)) (tmOf z k (t.drop (2 ^ k)) (l + 1)) = T at hi
        cases hi with
        | zero => cases hT
        | one => cases hT
        | node i nd A B h hl hh =>
          injection hT with e1 e2 e3
          subst e2
          subst e3
          have q1 := ha.inj hS.nodup hl
          have q2 := hb.inj hS.nodup hh
          apply hm
          have : nd = ⟨l, a, b⟩ := by cases nd; simp_all
          rw [← this]
          exact List.mem_of_getElem? h
theorem madeP_spec : ∀ (k : Nat) (t : List Bool) (l : Nat) (S : List Nd), t.length = 2 ^ k → l + k ≤ n → SInv z n S → MadeP z room n S (tmOf z k t l) l (madeP z room k t l S)
  | 0, t, l, S, ht, _, hS => by
    match t, ht with
    | [b], _ =>
      refine ⟨hS, List.prefix_rfl, fun i hi => .inl hi, fun e he => ?_, fun h => by cases h⟩
      injection he with he
      subst he
      cases b
      · exact ⟨.zero, .inl (by simp [bitE])⟩
      · exact ⟨.one, .inl (by simp [bitE])⟩
  | k + 1, t, l, S, ht, hl, hS => by
    have hp : 2 ^ (k + 1) = 2 ^ k + 2 ^ k := by rw [Nat.pow_succ]; omega
    have h1 : (t.take (2 ^ k)).length = 2 ^ k := by rw [List.length_take]; omega
    have h2 : (t.drop (2 ^ k)).length = 2 ^ k := by rw [List.length_drop]; omega
    have m1 := madeP_spec k (t.take (2 ^ k)) (l + 1) S h1 (by omega) hS
    have m2 := madeP_spec k (t.drop (2 ^ k)) (l + 1) _ h2 (by omega) m1.inv
    have g2 := madeP_grow z room k (t.drop (2 ^ k)) (l + 1) (madeP z room k (t.take (2 ^ k)) (l + 1) S).2
    have sh := subs_halves z k l t ht
    rw [madeP]
    generalize madeP z room k (t.drop (2 ^ k)) (l + 1) (madeP z room k (t.take (2 ^ k)) (l + 1) S).2 = r2 at *
    generalize madeP z room k (t.take (2 ^ k)) (l + 1) S = r1 at *
    obtain ⟨a, S1⟩ := r1
    obtain ⟨b, S2⟩ := r2
    simp only at g2 ⊢
    have honly : ∀ i, i < S2.length → i < S.length ∨ ∃ U ∈ subs (tmOf z (k + 1) t l), Den S2 (i + 2) U := fun i hi => by
      rcases m2.only i hi with h3 | ⟨U, hU, hd⟩
      · rcases m1.only i h3 with h4 | ⟨U, hU, hd⟩
        · exact .inl h4
        · exact .inr ⟨U, sh.1 U hU, hd.mono m2.pre⟩
      · exact .inr ⟨U, sh.2 U hU, hd⟩
    have base : (∃ U ∈ subs (tmOf z (k + 1) t l), ∀ i, ¬ Den S2 i U) → room ≤ S2.length → MadeP z room n S (tmOf z (k + 1) t l) l (none, S2) := fun h3 h4 =>
      ⟨m2.inv, m1.pre.trans m2.pre, honly, fun e he => (by cases he), fun _ => ⟨h4, h3⟩⟩
    have n1 : a = none → MadeP z room n S (tmOf z (k + 1) t l) l (none, S2) := fun ha => by
      obtain ⟨hr, U, hU, hn⟩ := m1.no ha
      have e := g2.2.2.2 hr
      subst e
      exact base ⟨U, sh.1 U hU, hn⟩ hr
    have n2 : b = none → MadeP z room n S (tmOf z (k + 1) t l) l (none, S2) := fun hb => by
      obtain ⟨hr, U, hU, hn⟩ := m2.no hb
      exact base ⟨U, sh.2 U hU, hn⟩ hr
    cases a with
    | none => exact n1 rfl
    | some a =>
      cases b with
      | none => exact n2 rfl
      | some b =>
        obtain ⟨d1, l1⟩ := m1.yes a rfl
        obtain ⟨d2, l2⟩ := m2.yes b rfl
        have m3 := mkP_spec (room := room) m2.inv (by omega) ht (d1.mono m2.pre) d2 (l1.mono m2.pre) l2
        refine ⟨m3.inv, (m1.pre.trans m2.pre).trans m3.pre, fun i hi => ?_, m3.yes, m3.no⟩
        rcases m3.only i hi with h3 | h3
        · rcases honly i h3 with h4 | ⟨U, hU, hd⟩
          · exact .inl h4
          · exact .inr ⟨U, hU, hd.mono m3.pre⟩
        · exact .inr h3
end

/-- different things of a list, each at its first place -/
def dd {α : Type} [DecidableEq α] (l : List α) : List α := l.foldl (fun out x => if x ∈ out then out else out ++ [x]) []
section
variable {α : Type} [DecidableEq α]
theorem dd_snoc (l : List α) (x : α) : dd (l ++ [x]) = if x ∈ dd l then dd l else dd l ++ [x] := by unfold dd; rw [List.foldl_append]; rfl
theorem mem_foldl (l : List α) : ∀ (out : List α) (x : α), x ∈ l.foldl (fun out x => if x ∈ out then out else out ++ [x]) out ↔ x ∈ out ∨ x ∈ l := by
  induction l with
  | nil => intro out x; simp
  | cons y r ih =>
    intro out x
    rw [List.foldl_cons, ih]
    split
    · rename_i hy
      constructor
      · rintro (h | h)
        · exact .inl h
        · exact .inr (List.mem_cons_of_mem _ h)
      · rintro (h | h)
        · exact .inl h
        · rcases List.mem_cons.1 h with rfl | h
          · exact .inl hy
          · exact .inr h
    · simp only [List.mem_append, List.mem_cons, List.not_mem_nil, or_false, or_assoc]
theorem mem_dd (l : List α) (x : α) : x ∈ dd l ↔ x ∈ l := by unfold dd; rw [mem_foldl]; simp
theorem nodup_foldl (l : List α) : ∀ out : List α, out.Nodup → (l.foldl (fun out x => if x ∈ out then out else out ++ [x]) out).Nodup := by
  induction l with
  | nil => intro out h; exact h
  | cons y r ih =>
    intro out h
    rw [List.foldl_cons]
    apply ih
    split
    · exact h
    · rename_i hy
      rw [List.nodup_append]
      exact ⟨h, by simp, fun a ha b hb => by rintro rfl; simp at hb; subst hb; exact hy ha⟩
theorem nodup_dd (l : List α) : (dd l).Nodup := nodup_foldl l [] List.nodup_nil
theorem nodup_le : ∀ {l m : List α}, l.Nodup → (∀ x ∈ l, x ∈ m) → l.length ≤ m.length
  | [], _, _, _ => Nat.zero_le _
  | x :: r, m, h, hs => by
    rw [List.nodup_cons] at h
    have hx : x ∈ m := hs x (List.mem_cons_self ..)
    have h1 : r.length ≤ (m.erase x).length := nodup_le h.2 fun y hy => by
      rw [List.mem_erase_of_ne (fun e => by subst e; exact h.1 hy)]
      exact hs y (List.mem_cons_of_mem _ hy)
    rw [List.length_erase_of_mem hx] at h1
    have := List.length_pos_of_mem hx
    simp only [List.length_cons]
    omega
end

/-- how many nodes there are behind a diagram that was made first -/
theorem made_count {z : Bool} {room n : Nat} {T : Tm} {l : Nat} {r : Option Nat × List Nd} (h : MadeP z room n [] T l r) (hr : r.2.length ≤ room) :
    (∀ e, r.1 = some e → r.2.length = (dd (subs T)).length) ∧ (r.1 = none → r.2.length = room ∧ room < (dd (subs T)).length) := by
  have hex : ∀ i, ∃ U, i < r.2.length → U ∈ subs T ∧ Den r.2 (i + 2) U := fun i => by
    rcases Nat.lt_or_ge i r.2.length with hi | hi
    · rcases h.only i hi with h1 | ⟨U, h1, h2⟩
      · simp at h1
      · exact ⟨U, fun _ => ⟨h1, h2⟩⟩
    · exact ⟨.leaf false, fun h => by omega⟩
  obtain ⟨f, hf⟩ := Classical.axiomOfChoice hex
  have hnd : ((List.range r.2.length).map f).Nodup := by
    unfold List.Nodup
    rw [List.pairwise_map]
    refine List.Pairwise.imp_of_mem ?_ List.nodup_range
    intro a b ha hb hne he
    rw [List.mem_range] at ha hb
    have h1 := (hf a ha).2
    have h2 := (hf b hb).2
    rw [he] at h1
    have := h1.inj h.inv.nodup h2
    omega
  have hsub : ∀ U ∈ (List.range r.2.length).map f, U ∈ dd (subs T) := fun U hU => by
    obtain ⟨i, hi, rfl⟩ := List.mem_map.1 hU
    rw [List.mem_range] at hi
    rw [mem_dd]
    exact (hf i hi).1
  have hmem : ∀ U i, U ∈ subs T → Den r.2 i U → U ∈ (List.range r.2.length).map f := fun U i hU hd => by
    have hi : ∃ j, i = j + 2 ∧ j < r.2.length := by
      have hd' := hd
      cases hd' with
      | zero => exfalso; exact leaf_sub T _ hU
      | one => exfalso; exact leaf_sub T _ hU
      | node j nd a b h1 _ _ => exact ⟨j, rfl, (List.getElem?_eq_some_iff.1 h1).1⟩
    obtain ⟨j, rfl, hj⟩ := hi
    rw [List.mem_map]
    exact ⟨j, List.mem_range.2 hj, ((hf j hj).2).fun_ hd⟩
  constructor
  · intro e he
    have hd := (h.yes e he).1
    have h1 := nodup_le hnd hsub
    have h2 := nodup_le (nodup_dd (subs T)) (m := (List.range r.2.length).map f) fun U hU => by
      rw [mem_dd] at hU
      obtain ⟨i, hi⟩ := hd.sub U hU
      exact hmem U i hU hi
    simp only [List.length_map, List.length_range] at h1 h2
    omega
  · intro he
    obtain ⟨h1, U, hU, hn⟩ := h.no he
    refine ⟨by omega, ?_⟩
    have h2 := nodup_le (l := U :: (List.range r.2.length).map f) (m := dd (subs T)) (by
      rw [List.nodup_cons]
      refine ⟨fun hm => ?_, hnd⟩
      obtain ⟨i, hi, rfl⟩ := List.mem_map.1 hm
      rw [List.mem_range] at hi
      exact hn _ (hf i hi).2) fun V hV => by
        rcases List.mem_cons.1 hV with rfl | hV
        · rw [mem_dd]; exact hU
        · exact hsub V hV
    simp only [List.length_cons, List.length_map, List.length_range] at h2
    omega

/-- an edge's halves at a level -/
def viewP (z : Bool) (S : List Nd) (e l : Nat) : Nat × Nat :=
  if 2 ≤ e then (match S[e - 2]? with | some nd => if nd.lv = l then (nd.lo, nd.hi) else (e, if z then 0 else e) | none => (e, if z then 0 else e)) else (e, if z then 0 else e)
theorem viewP_spec {z : Bool} {room n : Nat} {S : List Nd} (hS : SInv z n S) {k l e : Nat} {t : List Bool} (hln : l < n) (ht : t.length = 2 ^ (k + 1)) (he : Den S e (tmOf z (k + 1) t l)) (hle : Ld S e l) :
    Den S (viewP z S e l).1 (tmOf z k (t.take (2 ^ k)) (l + 1)) ∧ Den S (viewP z S e l).2 (tmOf z k (t.drop (2 ^ k)) (l + 1)) ∧ Ld S (viewP z S e l).1 (l + 1) ∧ Ld S (viewP z S e l).2 (l + 1) ∧
      mkP z room S l (viewP z S e l).1 (viewP z S e l).2 = (some e, S) := by
  have hp : 2 ^ (k + 1) = 2 ^ k + 2 ^ k := by rw [Nat.pow_succ]; omega
  have h2 : (t.drop (2 ^ k)).length = 2 ^ k := by rw [List.length_drop]; omega
  rw [tmOf] at he
  by_cases hr : redT z (t.take (2 ^ k)) (t.drop (2 ^ k)) = true
  · rw [if_pos hr] at he
    have htop := tmOf_top z k (t.take (2 ^ k)) (l + 1)
    have hl' : Ld S e (l + 1) := by
      cases he' : tmOf z k (t.take (2 ^ k)) (l + 1) with
      | leaf b =>
        rw [he'] at he
        cases he with
        | zero => exact .inl (by omega)
        | one => exact .inl (by omega)
      | node l' a b =>
        rw [he'] at he htop
        cases he with
        | node i nd _ _ h1 _ _ => exact .inr ⟨nd, by simpa using h1, htop⟩
    have hv : viewP z S e l = (e, if z then 0 else e) := by
      unfold viewP
      split
      · rcases hl' with h3 | ⟨nd, h3, h4⟩
        · omega
        · rw [h3]
          simp only
          rw [if_neg (by omega)]
      · rfl
    rw [hv]
    have hd2 : Den S (if z then 0 else e) (tmOf z k (t.drop (2 ^ k)) (l + 1)) := by
      cases z with
      | false =>
        simp only [redT, if_false, Bool.false_eq_true, decide_eq_true_eq] at hr ⊢
        rw [← hr]
        exact he
      | true =>
        simp only [redT, if_true, List.all_eq_true] at hr ⊢
        have h3 : t.drop (2 ^ k) = List.replicate (2 ^ k) false := by
          rw [List.eq_replicate_iff]
          exact ⟨h2, fun x hx => by simpa using hr x hx⟩
        rw [h3, tmOf_none]
        exact .zero
    refine ⟨he, hd2, hl', ?_, ?_⟩
    · cases z with
      | false => exact hl'
      | true => exact .inl (by simp)
    · unfold mkP
      rw [if_pos (by cases z <;> simp [red])]
  · rw [if_neg hr] at he
    generalize hT : Tm.node l (tmOf z k (t.take (2 ^ k)) (l + 1)) (tmOf z k (t.drop (2 ^ k)) (l + 1)) = T at he
    cases he with
    | zero => cases hT
    | one => cases hT
    | node i nd A B h1 hl hh =>
      injection hT with e1 e2 e3
      subst e2
      subst e3
      have hv : viewP z S (i + 2) l = (nd.lo, nd.hi) := by
        unfold viewP
        rw [if_pos (by omega), Nat.add_sub_cancel, h1]
        simp only
        rw [if_pos e1.symm]
      rw [hv]
      obtain ⟨q1, q2, q3, q4, _, _⟩ := hS.node i nd h1
      have hm : (⟨l, nd.lo, nd.hi⟩ : Nd) ∈ S := by
        have : nd = ⟨l, nd.lo, nd.hi⟩ := by cases nd; simp_all
        rw [← this]
        exact List.mem_of_getElem? h1
      refine ⟨hl, hh, by rw [e1]; exact q2, by rw [e1]; exact q3, ?_⟩
      unfold mkP
      rw [if_neg (by simp [q4]), if_pos hm]
      have h5 := mem_idx hm
      have h6 : (⟨l, nd.lo, nd.hi⟩ : Nd) = nd := by cases nd; simp_all
      rw [h6] at h5 ⊢
      have h7 := (List.getElem?_inj (List.getElem?_eq_some_iff.1 h1).1 hS.nodup).1 (h1.trans h5.symm)
      rw [← h7]
end Go.Proofs.YtdhfpnbpkbelmaaDoor
