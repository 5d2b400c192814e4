/- Plain: edges, records, which may be; stores as lists of records. Plain: diagrams made from below out of tables: what they denote, how many nodes there are. z: zero-suppressed. Plain: the texts of diagrams: how a term is written, what its parts are. Plain: texts read byte by byte. -/
import Derived.Below
section
namespace Go.Proofs.YtpjciaomhfeeeaaGreatDoor
set_option linter.unusedSimpArgs false
set_option linter.unusedVariables false

structure Edg where
  tag : Int
  pos : Int
deriving DecidableEq
structure Rec where
  form : Int
  top : Int
  bot : Int
  lo : Edg
  hi : Edg
deriving DecidableEq
def Edg.nil : Edg := ⟨0, 0⟩
def Rec.nil : Rec := ⟨0, 0, 0, .nil, .nil⟩
def Edg.Wf (e : Edg) : Prop := 0 ≤ e.tag ∧ e.tag ≤ 255 ∧ 0 ≤ e.pos ∧ e.pos ≤ 4294967295
def Rec.Wf (r : Rec) : Prop := (0 ≤ r.form ∧ r.form ≤ 255) ∧ (0 ≤ r.top ∧ r.top ≤ 255) ∧ (0 ≤ r.bot ∧ r.bot ≤ 255) ∧ r.lo.Wf ∧ r.hi.Wf
def Edg.cells (e : Edg) : List Value := [.int .u8 e.tag, .int .u32 e.pos]
def Rec.cells (r : Rec) : List Value := [.int .u8 r.form, .int .u8 r.top, .int .u8 r.bot, .int .u8 r.lo.tag, .int .u32 r.lo.pos, .int .u8 r.hi.tag, .int .u32 r.hi.pos]
theorem Edg.nil_wf : Edg.nil.Wf := by unfold Edg.Wf Edg.nil; simp
theorem Rec.nil_wf : Rec.nil.Wf := by unfold Rec.Wf Rec.nil; simp [Edg.nil_wf]

/-- may an edge be? -/
def plain (f : Int) (e : Edg) (l n : Int) : Bool :=
  decide (1 ≤ f ∧ f ≤ 5 ∧ 0 ≤ n ∧ n ≤ 16 ∧ 0 ≤ l ∧ l ≤ n) && (if f ≠ 5 ∨ e.pos = 0 then decide (e.tag = 0) else decide (l ≤ e.tag ∧ e.tag ≤ n))
/-- may a record be? -/
def right (r : Rec) (n : Int) : Bool :=
  decide (1 ≤ r.form ∧ r.form ≤ 5 ∧ 0 ≤ n ∧ n ≤ 16 ∧ r.top ≤ r.bot ∧ r.bot < n ∧ (r.top = r.bot ∨ r.form = 3 ∨ r.form = 4)) && plain r.form r.lo (r.bot + 1) n && plain r.form r.hi (r.bot + 1) n &&
    (if r.form = 2 ∨ r.form = 4 then decide (r.hi.pos ≠ 0) else decide (r.lo ≠ r.hi))

/-- the record of an id -/
def recAt (cs : List (Option Rec)) (id : Int) : Option Rec := if 2 ≤ id then (cs[(id - 2).toNat]?).join else none
/-- does an edge lead? -/
def leads (cs : List (Option Rec)) (n : Int) (f : Int) (e : Edg) (l : Int) : Bool :=
  plain f e l n && (decide (e.pos < 2) || (match recAt cs e.pos with | some r => decide (r.form = f ∧ l ≤ r.top ∧ e.tag ≤ r.top) | none => false))
end Go.Proofs.YtpjciaomhfeeeaaGreatDoor
end

section
namespace Go.Proofs.YtpjciaomhfeeeaaGreatDoor
set_option linter.unusedSimpArgs false
set_option linter.unusedVariables false

structure Nd where
  lv : Nat
  lo : Nat
  hi : Nat
deriving DecidableEq
inductive Tm where
  | leaf (b : Bool)
  | node (l : Nat) (lo hi : Tm)
deriving DecidableEq

def red (z : Bool) (lo hi : Nat) : Bool := if z then decide (hi = 0) else decide (lo = hi)
def redT (z : Bool) (lo hi : List Bool) : Bool := if z then hi.all (fun b => !b) else decide (lo = hi)
def mkP (z : Bool) (room : Nat) (S : List Nd) (l lo hi : Nat) : Option Nat × List Nd :=
  if red z lo hi then (some lo, S)
  else if ⟨l, lo, hi⟩ ∈ S then (some (S.idxOf ⟨l, lo, hi⟩ + 2), S)
  else if S.length < room then (some (S.length + 2), S ++ [⟨l, lo, hi⟩]) else (none, S)
def bitE (t : List Bool) : Nat := if t.head? = some true then 1 else 0
def madeP (z : Bool) (room : Nat) : Nat → List Bool → Nat → List Nd → Option Nat × List Nd
  | 0, t, _, S => (some (bitE t), S)
  | k + 1, t, l, S =>
    match (madeP z room k (t.take (2 ^ k)) (l + 1) S).1, (madeP z room k (t.drop (2 ^ k)) (l + 1) (madeP z room k (t.take (2 ^ k)) (l + 1) S).2).1 with
    | some a, some b => mkP z room (madeP z room k (t.drop (2 ^ k)) (l + 1) (madeP z room k (t.take (2 ^ k)) (l + 1) S).2).2 l a b
    | _, _ => (none, (madeP z room k (t.drop (2 ^ k)) (l + 1) (madeP z room k (t.take (2 ^ k)) (l + 1) S).2).2)
def tmOf (z : Bool) : Nat → List Bool → Nat → Tm
  | 0, t, _ => .leaf (t.head? == some true)
  | k + 1, t, l => if redT z (t.take (2 ^ k)) (t.drop (2 ^ k)) then tmOf z k (t.take (2 ^ k)) (l + 1) else .node l (tmOf z k (t.take (2 ^ k)) (l + 1)) (tmOf z k (t.drop (2 ^ k)) (l + 1))

/-- what an edge denotes -/
inductive Den (S : List Nd) : Nat → Tm → Prop where
  | zero : Den S 0 (.leaf false)
  | one : Den S 1 (.leaf true)
  | node (i : Nat) (nd : Nd) (a b : Tm) (h : S[i]? = some nd) (hl : Den S nd.lo a) (hh : Den S nd.hi b) : Den S (i + 2) (.node nd.lv a b)
/-- an edge leads, at a level, to a node before place i -/
def Ld (S : List Nd) (a l : Nat) : Prop := a < 2 ∨ ∃ nd, S[a - 2]? = some nd ∧ l ≤ nd.lv
structure SInv (z : Bool) (n : Nat) (S : List Nd) : Prop where
  nodup : S.Nodup
  node : ∀ (i : Nat) (nd : Nd), S[i]? = some nd → nd.lv < n ∧ Ld S nd.lo (nd.lv + 1) ∧ Ld S nd.hi (nd.lv + 1) ∧ red z nd.lo nd.hi = false ∧ nd.lo < i + 2 ∧ nd.hi < i + 2

section
variable {z : Bool} {room n : Nat} {S S' : List Nd}
theorem Den.fun_ {a : Nat} {T : Tm} (h : Den S a T) : ∀ {T'}, Den S a T' → T = T' := by
  induction h with
  | zero => intro T' h'; cases h'; rfl
  | one => intro T' h'; cases h'; rfl
  | node i nd a b h _ _ ih1 ih2 =>
    intro T' h'
    cases h' with
    | node _ nd' a' b' h' hl' hh' =>
      rw [h] at h'
      injection h' with h'
      subst h'
      rw [ih1 hl', ih2 hh']
theorem Den.inj {a : Nat} {T : Tm} (hS : S.Nodup) (h : Den S a T) : ∀ {b}, Den S b T → a = b := by
  induction h with
  | zero => intro b h'; cases h'; rfl
  | one => intro b h'; cases h'; rfl
  | node i nd A B h _ _ ih1 ih2 =>
    intro b h'
    generalize hT : Tm.node nd.lv A B = T at h'
    cases h' with
    | zero => cases hT
    | one => cases hT
    | node i' nd' a' b' h' hl' hh' =>
      injection hT with h1 h2 h3
      subst h2
      subst h3
      have e1 := ih1 hl'
      have e2 := ih2 hh'
      have : nd = nd' := by cases nd; cases nd'; simp_all
      subst this
      have hi := (List.getElem?_eq_some_iff.1 h).1
      have := (List.getElem?_inj hi hS).1 (h.trans h'.symm)
      omega
theorem Den.mono {a : Nat} {T : Tm} (h : Den S a T) (hp : S <+: S') : Den S' a T := by
  induction h with
  | zero => exact .zero
  | one => exact .one
  | node i nd A B h _ _ ih1 ih2 =>
    obtain ⟨r, rfl⟩ := hp
    refine .node i nd A B ?_ ih1 ih2
    rw [List.getElem?_append_left (List.getElem?_eq_some_iff.1 h).1]
    exact h
theorem Ld.mono {a l : Nat} (h : Ld S a l) (hp : S <+: S') : Ld S' a l := by
  obtain ⟨r, rfl⟩ := hp
  rcases h with h | ⟨nd, h, hl⟩
  · exact .inl h
  · refine .inr ⟨nd, ?_, hl⟩
    rw [List.getElem?_append_left (List.getElem?_eq_some_iff.1 h).1]
    exact h
theorem Ld.less {a l l' : Nat} (h : Ld S a l) (hl : l' ≤ l) : Ld S a l' := by
  rcases h with h | ⟨nd, h, hl'⟩
  · exact .inl h
  · exact .inr ⟨nd, h, by omega⟩

/-- the nodes of a term -/
def subs : Tm → List Tm
  | .leaf _ => []
  | .node l a b => .node l a b :: (subs a ++ subs b)
/-- a term's top level is not above l -/
def topGe (l : Nat) : Tm → Prop
  | .leaf _ => True
  | .node l' _ _ => l ≤ l'
theorem topGe.less {l l' : Nat} {T : Tm} (h : topGe l T) (hl : l' ≤ l) : topGe l' T := by
  cases T with
  | leaf b => trivial
  | node l2 a b => unfold topGe at *; omega
theorem tmOf_top (z : Bool) : ∀ (k : Nat) (t : List Bool) (l : Nat), topGe l (tmOf z k t l)
  | 0, t, l => trivial
  | k + 1, t, l => by
    unfold tmOf
    split
    · exact (tmOf_top z k _ (l + 1)).less (by omega)
    · exact Nat.le_refl _
/-- the table of a term -/
def tab (z : Bool) : Nat → Nat → Tm → List Bool
  | 0, _, T => [T == .leaf true]
  | k + 1, l, .leaf b => tab z k (l + 1) (.leaf b) ++ (if z then List.replicate (2 ^ k) false else tab z k (l + 1) (.leaf b))
  | k + 1, l, .node l' a b => if l' = l then tab z k (l + 1) a ++ tab z k (l + 1) b else tab z k (l + 1) (.node l' a b) ++ (if z then List.replicate (2 ^ k) false else tab z k (l + 1) (.node l' a b))
theorem tab_skip (z : Bool) (k l : Nat) (T : Tm) (h : topGe (l + 1) T) : tab z (k + 1) l T = tab z k (l + 1) T ++ (if z then List.replicate (2 ^ k) false else tab z k (l + 1) T) := by
  cases T with
  | leaf b => rfl
  | node l' a b =>
    unfold topGe at h
    rw [tab, if_neg (by omega)]
theorem tab_tmOf (z : Bool) : ∀ (k : Nat) (t : List Bool) (l : Nat), t.length = 2 ^ k → tab z k l (tmOf z k t l) = t
  | 0, t, l, h => by
    match t, h with
    | [b], _ => cases b <;> simp [tab, tmOf]
  | k + 1, t, l, h => by
    have hp : 2 ^ (k + 1) = 2 ^ k + 2 ^ k := by rw [Nat.pow_succ]; omega
    have h1 : (t.take (2 ^ k)).length = 2 ^ k := by rw [List.length_take]; omega
    have h2 : (t.drop (2 ^ k)).length = 2 ^ k := by rw [List.length_drop]; omega
    unfold tmOf
    split
    · rename_i hr
      rw [tab_skip z k l _ (tmOf_top z k _ (l + 1)), tab_tmOf z k _ _ h1]
      conv => rhs; rw [← List.take_append_drop (2 ^ k) t]
      congr 1
      cases z with
      | true =>
        simp only [redT, if_true] at hr ⊢
        rw [List.all_eq_true] at hr
        symm
        rw [List.eq_replicate_iff]
        exact ⟨h2, fun b hb => by simpa using hr b hb⟩
      | false => simpa [redT] using hr
    · rw [tab, if_pos rfl, tab_tmOf z k _ _ h1, tab_tmOf z k _ _ h2, List.take_append_drop]
theorem tmOf_inj {z : Bool} {k l : Nat} {t u : List Bool} (ht : t.length = 2 ^ k) (hu : u.length = 2 ^ k) (h : tmOf z k t l = tmOf z k u l) : t = u := by
  rw [← tab_tmOf z k t l ht, h, tab_tmOf z k u l hu]
theorem tmOf_none (z : Bool) : ∀ (k l : Nat), tmOf z k (List.replicate (2 ^ k) false) l = .leaf false
  | 0, l => rfl
  | k + 1, l => by
    have hp : 2 ^ (k + 1) = 2 ^ k + 2 ^ k := by rw [Nat.pow_succ]; omega
    unfold tmOf
    rw [List.take_replicate, List.drop_replicate, hp, Nat.min_eq_left (Nat.le_add_left _ _), Nat.add_sub_cancel]
    rw [if_pos (by cases z <;> simp [redT]), tmOf_none z k (l + 1)]
/-- edges are reduced just if tables are -/
theorem red_iff (hS : S.Nodup) {k l a b : Nat} {t u : List Bool} (ht : t.length = 2 ^ k) (hu : u.length = 2 ^ k) (ha : Den S a (tmOf z k t l)) (hb : Den S b (tmOf z k u l)) : red z a b = redT z t u := by
  cases z with
  | false =>
    simp only [red, redT, if_false, Bool.false_eq_true]
    congr 1
    apply propext
    constructor
    · rintro rfl
      exact tmOf_inj ht hu (ha.fun_ hb)
    · rintro rfl
      exact ha.inj hS hb
  | true =>
    simp only [red, redT, if_true]
    rw [Bool.eq_iff_iff, decide_eq_true_eq, List.all_eq_true]
    constructor
    · rintro rfl
      have h1 := hb.fun_ (Den.zero)
      have h2 : u = List.replicate (2 ^ k) false := tmOf_inj hu (by simp) (h1.trans (tmOf_none true k l).symm)
      rw [h2]
      intro x hx
      rw [List.mem_replicate] at hx
      rw [hx.2]; rfl
    · intro h
      have h2 : u = List.replicate (2 ^ k) false := by
        rw [List.eq_replicate_iff]
        exact ⟨hu, fun x hx => by simpa using h x hx⟩
      rw [h2, tmOf_none] at hb
      exact hb.inj hS .zero

theorem SInv.nil (z : Bool) (n : Nat) : SInv z n [] := ⟨List.nodup_nil, fun i nd h => by simp at h⟩
theorem SInv.snoc (h : SInv z n S) {l a b : Nat} (hl : l < n) (ha : Ld S a (l + 1)) (hb : Ld S b (l + 1)) (hr : red z a b = false) (hn : ¬ (⟨l, a, b⟩ : Nd) ∈ S) : SInv z n (S ++ [⟨l, a, b⟩]) := by
  have hp : S <+: S ++ [⟨l, a, b⟩] := ⟨_, rfl⟩
  have lt : ∀ x, Ld S x (l + 1) → x < S.length + 2 := fun x hx => by
    rcases hx with hx | ⟨nd, hx, _⟩
    · omega
    · have := (List.getElem?_eq_some_iff.1 hx).1; omega
  refine ⟨?_, fun i nd hi => ?_⟩
  · rw [List.nodup_append]
    exact ⟨h.nodup, by simp, fun x hx y hy => by rintro rfl; simp at hy; subst hy; exact hn hx⟩
  · rcases Nat.lt_trichotomy i S.length with h1 | h1 | h1
    · rw [List.getElem?_append_left h1] at hi
      obtain ⟨e1, e2, e3, e4, e5, e6⟩ := h.node i nd hi
      exact ⟨e1, e2.mono hp, e3.mono hp, e4, e5, e6⟩
    · subst h1
      rw [List.getElem?_append_right (Nat.le_refl _)] at hi
      simp at hi
      subst hi
      exact ⟨hl, ha.mono hp, hb.mono hp, hr, lt a ha, lt b hb⟩
    · rw [List.getElem?_eq_none (by simp; omega)] at hi; cases hi
theorem mem_idx {x : Nd} (h : x ∈ S) : S[S.idxOf x]? = some x := by
  rw [List.getElem?_eq_getElem (List.idxOf_lt_length_of_mem h), List.getElem_idxOf]

theorem mkP_grow (z : Bool) (room : Nat) (S : List Nd) (l a b : Nat) : S <+: (mkP z room S l a b).2 ∧ (mkP z room S l a b).2.length ≤ S.length + 1 ∧ (S.length ≤ room → (mkP z room S l a b).2.length ≤ room) ∧ (room ≤ S.length → (mkP z room S l a b).2 = S) := by
  unfold mkP
  repeat' split
  all_goals first
    | exact ⟨List.prefix_rfl, by simp, fun h => h, fun _ => rfl⟩
    | exact ⟨⟨_, rfl⟩, by simp, fun h => by simp; omega, fun h => by omega⟩
theorem madeP_grow (z : Bool) (room : Nat) : ∀ (k : Nat) (t : List Bool) (l : Nat) (S : List Nd), S <+: (madeP z room k t l S).2 ∧ (madeP z room k t l S).2.length + 1 ≤ S.length + 2 ^ k ∧ (S.length ≤ room → (madeP z room k t l S).2.length ≤ room) ∧ (room ≤ S.length → (madeP z room k t l S).2 = S)
  | 0, t, l, S => ⟨List.prefix_rfl, by simp [madeP], fun h => h, fun _ => rfl⟩
  | k + 1, t, l, S => by
    have hp : 2 ^ (k + 1) = 2 ^ k + 2 ^ k := by rw [Nat.pow_succ]; omega
    have h1 := madeP_grow z room k (t.take (2 ^ k)) (l + 1) S
    have h2 := madeP_grow z room k (t.drop (2 ^ k)) (l + 1) (madeP z room k (t.take (2 ^ k)) (l + 1) S).2
    unfold madeP
    generalize madeP z room k (t.drop (2 ^ k)) (l + 1) (madeP z room k (t.take (2 ^ k)) (l + 1) S).2 = r2 at *
    generalize madeP z room k (t.take (2 ^ k)) (l + 1) S = r1 at *
    obtain ⟨a, S1⟩ := r1
    obtain ⟨b, S2⟩ := r2
    simp only at h1 h2 ⊢
    have base : S <+: S2 ∧ S2.length + 1 ≤ S.length + 2 ^ (k + 1) ∧ (S.length ≤ room → S2.length ≤ room) ∧ (room ≤ S.length → S2 = S) :=
      ⟨h1.1.trans h2.1, by omega, fun h => h2.2.2.1 (h1.2.2.1 h), fun h => by
        have e1 := h1.2.2.2 h
        subst e1
        exact h2.2.2.2 h⟩
    cases a <;> cases b
    · exact base
    · exact base
    · exact base
    · rename_i a b
      have h3 := mkP_grow z room S2 l a b
      refine ⟨base.1.trans h3.1, by have h4 := h3.2.1; have h5 := h1.2.1; have h6 := h2.2.1; simp only; omega, fun h => h3.2.2.1 (base.2.2.1 h), fun h => ?_⟩
      have e1 := base.2.2.2 h
      subst e1
      exact h3.2.2.2 h

theorem Den.sub {a : Nat} {T : Tm} (h : Den S a T) : ∀ U ∈ subs T, ∃ i, Den S i U := by
  induction h with
  | zero => intro U hU; simp [subs] at hU
  | one => intro U hU; simp [subs] at hU
  | node i nd A B h hl hh ih1 ih2 =>
    intro U hU
    simp only [subs, List.mem_cons, List.mem_append] at hU
    rcases hU with rfl | hU | hU
    · exact ⟨i + 2, .node i nd A B h hl hh⟩
    · exact ih1 U hU
    · exact ih2 U hU
theorem subs_halves (z : Bool) (k l : Nat) (t : List Bool) (ht : t.length = 2 ^ (k + 1)) :
    (∀ U ∈ subs (tmOf z k (t.take (2 ^ k)) (l + 1)), U ∈ subs (tmOf z (k + 1) t l)) ∧ (∀ U ∈ subs (tmOf z k (t.drop (2 ^ k)) (l + 1)), U ∈ subs (tmOf z (k + 1) t l)) := by
  have hp : 2 ^ (k + 1) = 2 ^ k + 2 ^ k := by rw [Nat.pow_succ]; omega
  rw [tmOf]
  split
  · rename_i hr
    refine ⟨fun U h => h, fun U h => ?_⟩
    cases z with
    | false =>
      simp only [redT, if_false, Bool.false_eq_true, decide_eq_true_eq] at hr
      rw [← hr] at h
      exact h
    | true =>
      simp only [redT, if_true, List.all_eq_true] at hr
      have h2 : t.drop (2 ^ k) = List.replicate (2 ^ k) false := by
        rw [List.eq_replicate_iff]
        exact ⟨by rw [List.length_drop]; omega, fun x hx => by simpa using hr x hx⟩
      rw [h2, tmOf_none] at h
      simp [subs] at h
  · refine ⟨fun U h => ?_, fun U h => ?_⟩ <;> simp [subs, h]

theorem leaf_sub : ∀ (T : Tm) (b : Bool), ¬ Tm.leaf b ∈ subs T
  | .leaf _, b, h => by simp [subs] at h
  | .node l x y, b, h => by
    simp only [subs, List.mem_cons, List.mem_append] at h
    rcases h with h | h | h
    · cases h
    · exact leaf_sub x b h
    · exact leaf_sub y b h
/-- what making from below leaves -/
structure MadeP (z : Bool) (room n : Nat) (S : List Nd) (T : Tm) (l : Nat) (r : Option Nat × List Nd) : Prop where
  inv : SInv z n r.2
  pre : S <+: r.2
  only : ∀ i, i < r.2.length → i < S.length ∨ ∃ U ∈ subs T, Den r.2 (i + 2) U
  yes : ∀ e, r.1 = some e → Den r.2 e T ∧ Ld r.2 e l
  no : r.1 = none → room ≤ r.2.length ∧ ∃ U ∈ subs T, ∀ i, ¬ Den r.2 i U
theorem mkP_spec (hS : SInv z n S) {k l a b : Nat} {t : List Bool} (hln : l < n) (ht : t.length = 2 ^ (k + 1)) (ha : Den S a (tmOf z k (t.take (2 ^ k)) (l + 1))) (hb : Den S b (tmOf z k (t.drop (2 ^ k)) (l + 1)))
    (la : Ld S a (l + 1)) (lb : Ld S b (l + 1)) : MadeP z room n S (tmOf z (k + 1) t l) l (mkP z room S l a b) := by
  have hp : 2 ^ (k + 1) = 2 ^ k + 2 ^ k := by rw [Nat.pow_succ]; omega
  have h1 : (t.take (2 ^ k)).length = 2 ^ k := by rw [List.length_take]; omega
  have h2 : (t.drop (2 ^ k)).length = 2 ^ k := by rw [List.length_drop]; omega
  have hr := red_iff hS.nodup h1 h2 ha hb
  unfold mkP
  rw [tmOf, ← hr]
  split
  · rename_i hd
    exact ⟨hS, List.prefix_rfl, fun i hi => .inl hi, fun e he => by injection he with he; subst he; exact ⟨ha, la.less (by omega)⟩, fun h => by cases h⟩
  · rename_i hd
    split
    · rename_i hm
      have hg := mem_idx hm
      exact ⟨hS, List.prefix_rfl, fun i hi => .inl hi, fun e he => by
        injection he with he
        subst he
        exact ⟨.node _ _ _ _ hg ha hb, .inr ⟨_, by simpa using hg, Nat.le_refl _⟩⟩, fun h => by cases h⟩
    · rename_i hm
      split
      · have hS' := hS.snoc hln la lb (by simpa using hd) hm
        have hpre : S <+: S ++ [⟨l, a, b⟩] := ⟨_, rfl⟩
        have hg : (S ++ [(⟨l, a, b⟩ : Nd)])[S.length]? = some ⟨l, a, b⟩ := by simp
        have hden : Den (S ++ [(⟨l, a, b⟩ : Nd)]) (S.length + 2) (.node l (tmOf z k (t.take (2 ^ k)) (l + 1)) (tmOf z k (t.drop (2 ^ k)) (l + 1))) := .node S.length ⟨l, a, b⟩ _ _ hg (ha.mono hpre) (hb.mono hpre)
        refine ⟨hS', hpre, fun i hi => ?_, fun e he => ?_, fun h => by cases h⟩
        · simp at hi
          rcases Nat.lt_or_ge i S.length with h3 | h3
          · exact .inl h3
          · obtain rfl : i = S.length := by omega
            exact .inr ⟨_, by simp [subs], hden⟩
        · injection he with he
          subst he
          exact ⟨hden, .inr ⟨⟨l, a, b⟩, by rw [Nat.add_sub_cancel]; exact hg, Nat.le_refl _⟩⟩
      · refine ⟨hS, List.prefix_rfl, fun i hi => .inl hi, fun e he => (by cases he), fun _ => ⟨by simp only; omega, _, List.mem_cons_self, fun i hi => ?_⟩⟩
        simp only at hi
        generalize hT : Tm.node l (tmOf z k (t.take (2 ^ k)) (l + 1)) (tmOf z k (t.drop (2 ^ k)) (l + 1)) = T at hi
        cases hi with
        | zero => cases hT
        | one => cases hT
        | node i nd A B h hl hh =>
          injection hT with e1 e2 e3
          subst e2
          subst e3
          have q1 := ha.inj hS.nodup hl
          have q2 := hb.inj hS.nodup hh
          apply hm
          have : nd = ⟨l, a, b⟩ := by cases nd; simp_all
          rw [← this]
          exact List.mem_of_getElem? h
theorem madeP_spec : ∀ (k : Nat) (t : List Bool) (l : Nat) (S : List Nd), t.length = 2 ^ k → l + k ≤ n → SInv z n S → MadeP z room n S (tmOf z k t l) l (madeP z room k t l S)
  | 0, t, l, S, ht, _, hS => by
    match t, ht with
    | [b], _ =>
      refine ⟨hS, List.prefix_rfl, fun i hi => .inl hi, fun e he => ?_, fun h => by cases h⟩
      injection he with he
      subst he
      cases b
      · exact ⟨.zero, .inl (by simp [bitE])⟩
      · exact ⟨.one, .inl (by simp [bitE])⟩
  | k + 1, t, l, S, ht, hl, hS => by
    have hp : 2 ^ (k + 1) = 2 ^ k + 2 ^ k := by rw [Nat.pow_succ]; omega
    have h1 : (t.take (2 ^ k)).length = 2 ^ k := by rw [List.length_take]; omega
    have h2 : (t.drop (2 ^ k)).length = 2 ^ k := by rw [List.length_drop]; omega
    have m1 := madeP_spec k (t.take (2 ^ k)) (l + 1) S h1 (by omega) hS
    have m2 := madeP_spec k (t.drop (2 ^ k)) (l + 1) _ h2 (by omega) m1.inv
    have g2 := madeP_grow z room k (t.drop (2 ^ k)) (l + 1) (madeP z room k (t.take (2 ^ k)) (l + 1) S).2
    have sh := subs_halves z k l t ht
    rw [madeP]
    generalize madeP z room k (t.drop (2 ^ k)) (l + 1) (madeP z room k (t.take (2 ^ k)) (l + 1) S).2 = r2 at *
    generalize madeP z room k (t.take (2 ^ k)) (l + 1) S = r1 at *
    obtain ⟨a, S1⟩ := r1
    obtain ⟨b, S2⟩ := r2
    simp only at g2 ⊢
    have honly : ∀ i, i < S2.length → i < S.length ∨ ∃ U ∈ subs (tmOf z (k + 1) t l), Den S2 (i + 2) U := fun i hi => by
      rcases m2.only i hi with h3 | ⟨U, hU, hd⟩
      · rcases m1.only i h3 with h4 | ⟨U, hU, hd⟩
        · exact .inl h4
        · exact .inr ⟨U, sh.1 U hU, hd.mono m2.pre⟩
      · exact .inr ⟨U, sh.2 U hU, hd⟩
    have base : (∃ U ∈ subs (tmOf z (k + 1) t l), ∀ i, ¬ Den S2 i U) → room ≤ S2.length → MadeP z room n S (tmOf z (k + 1) t l) l (none, S2) := fun h3 h4 =>
      ⟨m2.inv, m1.pre.trans m2.pre, honly, fun e he => (by cases he), fun _ => ⟨h4, h3⟩⟩
    have n1 : a = none → MadeP z room n S (tmOf z (k + 1) t l) l (none, S2) := fun ha => by
      obtain ⟨hr, U, hU, hn⟩ := m1.no ha
      have e := g2.2.2.2 hr
      subst e
      exact base ⟨U, sh.1 U hU, hn⟩ hr
    have n2 : b = none → MadeP z room n S (tmOf z (k + 1) t l) l (none, S2) := fun hb => by
      obtain ⟨hr, U, hU, hn⟩ := m2.no hb
      exact base ⟨U, sh.2 U hU, hn⟩ hr
    cases a with
    | none => exact n1 rfl
    | some a =>
      cases b with
      | none => exact n2 rfl
      | some b =>
        obtain ⟨d1, l1⟩ := m1.yes a rfl
        obtain ⟨d2, l2⟩ := m2.yes b rfl
        have m3 := mkP_spec (room := room) m2.inv (by omega) ht (d1.mono m2.pre) d2 (l1.mono m2.pre) l2
        refine ⟨m3.inv, (m1.pre.trans m2.pre).trans m3.pre, fun i hi => ?_, m3.yes, m3.no⟩
        rcases m3.only i hi with h3 | h3
        · rcases honly i h3 with h4 | ⟨U, hU, hd⟩
          · exact .inl h4
          · exact .inr ⟨U, hU, hd.mono m3.pre⟩
        · exact .inr h3
end

/-- different things of a list, each at its first place -/
def dd {α : Type} [DecidableEq α] (l : List α) : List α := l.foldl (fun out x => if x ∈ out then out else out ++ [x]) []
section
variable {α : Type} [DecidableEq α]
theorem dd_snoc (l : List α) (x : α) : dd (l ++ [x]) = if x ∈ dd l then dd l else dd l ++ [x] := by unfold dd; rw [List.foldl_append]; rfl
theorem mem_foldl (l : List α) : ∀ (out : List α) (x : α), x ∈ l.foldl (fun out x => if x ∈ out then out else out ++ [x]) out ↔ x ∈ out ∨ x ∈ l := by
  induction l with
  | nil => intro out x; simp
  | cons y r ih =>
    intro out x
    rw [List.foldl_cons, ih]
    split
    · rename_i hy
      constructor
      · rintro (h | h)
        · exact .inl h
        · exact .inr (List.mem_cons_of_mem _ h)
      · rintro (h | h)
        · exact .inl h
        · rcases List.mem_cons.1 h with rfl | h
          · exact .inl hy
          · exact .inr h
    · simp only [List.mem_append, List.mem_cons, List.not_mem_nil, or_false, or_assoc]
theorem mem_dd (l : List α) (x : α) : x ∈ dd l ↔ x ∈ l := by unfold dd; rw [mem_foldl]; simp
theorem nodup_foldl (l : List α) : ∀ out : List α, out.Nodup → (l.foldl (fun out x => if x ∈ out then out else out ++ [x]) out).Nodup := by
  induction l with
  | nil => intro out h; exact h
  | cons y r ih =>
    intro out h
    rw [List.foldl_cons]
    apply ih
    split
    · exact h
    · rename_i hy
      rw [List.nodup_append]
      exact ⟨h, by simp, fun a ha b hb => by rintro rfl; simp at hb; subst hb; exact hy ha⟩
theorem nodup_dd (l : List α) : (dd l).Nodup := nodup_foldl l [] List.nodup_nil
theorem nodup_le : ∀ {l m : List α}, l.Nodup → (∀ x ∈ l, x ∈ m) → l.length ≤ m.length
  | [], _, _, _ => Nat.zero_le _
  | x :: r, m, h, hs => by
    rw [List.nodup_cons] at h
    have hx : x ∈ m := hs x (List.mem_cons_self ..)
    have h1 : r.length ≤ (m.erase x).length := nodup_le h.2 fun y hy => by
      rw [List.mem_erase_of_ne (fun e => by subst e; exact h.1 hy)]
      exact hs y (List.mem_cons_of_mem _ hy)
    rw [List.length_erase_of_mem hx] at h1
    have := List.length_pos_of_mem hx
    simp only [List.length_cons]
    omega
end

/-- how many nodes there are behind a diagram that was made first -/
theorem made_count {z : Bool} {room n : Nat} {T : Tm} {l : Nat} {r : Option Nat × List Nd} (h : MadeP z room n [] T l r) (hr : r.2.length ≤ room) :
    (∀ e, r.1 = some e → r.2.length = (dd (subs T)).length) ∧ (r.1 = none → r.2.length = room ∧ room < (dd (subs T)).length) := by
  have hex : ∀ i, ∃ U, i < r.2.length → U ∈ subs T ∧ Den r.2 (i + 2) U := fun i => by
    rcases Nat.lt_or_ge i r.2.length with hi | hi
    · rcases h.only i hi with h1 | ⟨U, h1, h2⟩
      · simp at h1
      · exact ⟨U, fun _ => ⟨h1, h2⟩⟩
    · exact ⟨.leaf false, fun h => by omega⟩
  obtain ⟨f, hf⟩ := Classical.axiomOfChoice hex
  have hnd : ((List.range r.2.length).map f).Nodup := by
    unfold List.Nodup
    rw [List.pairwise_map]
    refine List.Pairwise.imp_of_mem ?_ List.nodup_range
    intro a b ha hb hne he
    rw [List.mem_range] at ha hb
    have h1 := (hf a ha).2
    have h2 := (hf b hb).2
    rw [he] at h1
    have := h1.inj h.inv.nodup h2
    omega
  have hsub : ∀ U ∈ (List.range r.2.length).map f, U ∈ dd (subs T) := fun U hU => by
    obtain ⟨i, hi, rfl⟩ := List.mem_map.1 hU
    rw [List.mem_range] at hi
    rw [mem_dd]
    exact (hf i hi).1
  have hmem : ∀ U i, U ∈ subs T → Den r.2 i U → U ∈ (List.range r.2.length).map f := fun U i hU hd => by
    have hi : ∃ j, i = j + 2 ∧ j < r.2.length := by
      have hd' := hd
      cases hd' with
      | zero => exfalso; exact leaf_sub T _ hU
      | one => exfalso; exact leaf_sub T _ hU
      | node j nd a b h1 _ _ => exact ⟨j, rfl, (List.getElem?_eq_some_iff.1 h1).1⟩
    obtain ⟨j, rfl, hj⟩ := hi
    rw [List.mem_map]
    exact ⟨j, List.mem_range.2 hj, ((hf j hj).2).fun_ hd⟩
  constructor
  · intro e he
    have hd := (h.yes e he).1
    have h1 := nodup_le hnd hsub
    have h2 := nodup_le (nodup_dd (subs T)) (m := (List.range r.2.length).map f) fun U hU => by
      rw [mem_dd] at hU
      obtain ⟨i, hi⟩ := hd.sub U hU
      exact hmem U i hU hi
    simp only [List.length_map, List.length_range] at h1 h2
    omega
  · intro he
    obtain ⟨h1, U, hU, hn⟩ := h.no he
    refine ⟨by omega, ?_⟩
    have h2 := nodup_le (l := U :: (List.range r.2.length).map f) (m := dd (subs T)) (by
      rw [List.nodup_cons]
      refine ⟨fun hm => ?_, hnd⟩
      obtain ⟨i, hi, rfl⟩ := List.mem_map.1 hm
      rw [List.mem_range] at hi
      exact hn _ (hf i hi).2) fun V hV => by
        rcases List.mem_cons.1 hV with rfl | hV
        · rw [mem_dd]; exact hU
        · exact hsub V hV
    simp only [List.length_cons, List.length_map, List.length_range] at h2
    omega

/-- an edge's halves at a level -/
def viewP (z : Bool) (S : List Nd) (e l : Nat) : Nat × Nat :=
  if 2 ≤ e then (match S[e - 2]? with | some nd => if nd.lv = l then (nd.lo, nd.hi) else (e, if z then 0 else e) | none => (e, if z then 0 else e)) else (e, if z then 0 else e)
theorem viewP_spec {z : Bool} {room n : Nat} {S : List Nd} (hS : SInv z n S) {k l e : Nat} {t : List Bool} (hln : l < n) (ht : t.length = 2 ^ (k + 1)) (he : Den S e (tmOf z (k + 1) t l)) (hle : Ld S e l) :
    Den S (viewP z S e l).1 (tmOf z k (t.take (2 ^ k)) (l + 1)) ∧ Den S (viewP z S e l).2 (tmOf z k (t.drop (2 ^ k)) (l + 1)) ∧ Ld S (viewP z S e l).1 (l + 1) ∧ Ld S (viewP z S e l).2 (l + 1) ∧
      mkP z room S l (viewP z S e l).1 (viewP z S e l).2 = (some e, S) := by
  have hp : 2 ^ (k + 1) = 2 ^ k + 2 ^ k := by rw [Nat.pow_succ]; omega
  have h2 : (t.drop (2 ^ k)).length = 2 ^ k := by rw [List.length_drop]; omega
  rw [tmOf] at he
  by_cases hr : redT z (t.take (2 ^ k)) (t.drop (2 ^ k)) = true
  · rw [if_pos hr] at he
    have htop := tmOf_top z k (t.take (2 ^ k)) (l + 1)
    have hl' : Ld S e (l + 1) := by
      cases he' : tmOf z k (t.take (2 ^ k)) (l + 1) with
      | leaf b =>
        rw [he'] at he
        cases he with
        | zero => exact .inl (by omega)
        | one => exact .inl (by omega)
      | node l' a b =>
        rw [he'] at he htop
        cases he with
        | node i nd _ _ h1 _ _ => exact .inr ⟨nd, by simpa using h1, htop⟩
    have hv : viewP z S e l = (e, if z then 0 else e) := by
      unfold viewP
      split
      · rcases hl' with h3 | ⟨nd, h3, h4⟩
        · omega
        · rw [h3]
          simp only
          rw [if_neg (by omega)]
      · rfl
    rw [hv]
    have hd2 : Den S (if z then 0 else e) (tmOf z k (t.drop (2 ^ k)) (l + 1)) := by
      cases z with
      | false =>
        simp only [redT, if_false, Bool.false_eq_true, decide_eq_true_eq] at hr ⊢
        rw [← hr]
        exact he
      | true =>
        simp only [redT, if_true, List.all_eq_true] at hr ⊢
        have h3 : t.drop (2 ^ k) = List.replicate (2 ^ k) false := by
          rw [List.eq_replicate_iff]
          exact ⟨h2, fun x hx => by simpa using hr x hx⟩
        rw [h3, tmOf_none]
        exact .zero
    refine ⟨he, hd2, hl', ?_, ?_⟩
    · cases z with
      | false => exact hl'
      | true => exact .inl (by simp)
    · unfold mkP
      rw [if_pos (by cases z <;> simp [red])]
  · rw [if_neg hr] at he
    generalize hT : Tm.node l (tmOf z k (t.take (2 ^ k)) (l + 1)) (tmOf z k (t.drop (2 ^ k)) (l + 1)) = T at he
    cases he with
    | zero => cases hT
    | one => cases hT
    | node i nd A B h1 hl hh =>
      injection hT with e1 e2 e3
      subst e2
      subst e3
      have hv : viewP z S (i + 2) l = (nd.lo, nd.hi) := by
        unfold viewP
        rw [if_pos (by omega), Nat.add_sub_cancel, h1]
        simp only
        rw [if_pos e1.symm]
      rw [hv]
      obtain ⟨q1, q2, q3, q4, _, _⟩ := hS.node i nd h1
      have hm : (⟨l, nd.lo, nd.hi⟩ : Nd) ∈ S := by
        have : nd = ⟨l, nd.lo, nd.hi⟩ := by cases nd; simp_all
        rw [← this]
        exact List.mem_of_getElem? h1
      refine ⟨hl, hh, by rw [e1]; exact q2, by rw [e1]; exact q3, ?_⟩
      unfold mkP
      rw [if_neg (by simp [q4]), if_pos hm]
      have h5 := mem_idx hm
      have h6 : (⟨l, nd.lo, nd.hi⟩ : Nd) = nd := by cases nd; simp_all
      rw [h6] at h5 ⊢
      have h7 := (List.getElem?_inj (List.getElem?_eq_some_iff.1 h1).1 hS.nodup).1 (h1.trans h5.symm)
      rw [← h7]
end Go.Proofs.YtpjciaomhfeeeaaGreatDoor
end

section
namespace Go.Proofs.YtpjciaomhfeeeaaGreatDoor
set_option linter.unusedSimpArgs false
set_option linter.unusedVariables false

/-- a term's text (its levels are single digits) -/
def render : Tm → List UInt8
  | .leaf b => [if b then 49 else 48]
  | .node l a b => 40 :: UInt8.ofNat (48 + l) :: 32 :: (render a ++ 32 :: (render b ++ [41]))
/-- all levels are single digits -/
def low : Tm → Prop
  | .leaf _ => True
  | .node l a b => l < 10 ∧ low a ∧ low b
/-- how deep a term is -/
def deep : Tm → Nat
  | .leaf _ => 0
  | .node _ a b => 1 + max (deep a) (deep b)
theorem digit_nat {i : Nat} (hi : i < 10) : (UInt8.ofNat (48 + i)).toNat = 48 + i := by
  rw [UInt8.toNat_ofNat']; omega
theorem digit_inj {i j : Nat} (hi : i < 10) (hj : j < 10) (h : UInt8.ofNat (48 + i) = UInt8.ofNat (48 + j)) : i = j := by
  have := congrArg UInt8.toNat h
  rw [digit_nat hi, digit_nat hj] at this
  omega
theorem digit_ne {i : Nat} (hi : i < 10) : UInt8.ofNat (48 + i) ≠ 40 ∧ UInt8.ofNat (48 + i) ≠ 41 := by
  constructor <;> (intro h; have := congrArg UInt8.toNat h; rw [digit_nat hi] at this; simp at this; omega)
theorem render_inj : ∀ (T U : Tm) (s s' : List UInt8), low T → low U → render T ++ s = render U ++ s' → T = U ∧ s = s'
  | .leaf b, .leaf c, s, s', _, _, h => by
    simp only [render, List.cons_append, List.nil_append] at h
    injection h with h1 h2
    refine ⟨?_, h2⟩
    cases b <;> cases c <;> simp at h1 ⊢
  | .leaf b, .node l x y, s, s', _, _, h => by
    simp only [render, List.cons_append, List.nil_append] at h
    injection h with h1 h2
    cases b <;> simp at h1
  | .node l x y, .leaf b, s, s', _, _, h => by
    simp only [render, List.cons_append, List.nil_append] at h
    injection h with h1 h2
    cases b <;> simp at h1
  | .node l x y, .node l' x' y', s, s', h1, h2, h => by
    simp only [render, List.cons_append, List.append_assoc, List.nil_append] at h
    injection h with _ h
    injection h with e1 h
    injection h with _ h
    obtain ⟨e2, h3⟩ := render_inj x x' _ _ h1.2.1 h2.2.1 h
    injection h3 with _ h3
    obtain ⟨e4, h5⟩ := render_inj y y' _ _ h1.2.2 h2.2.2 h3
    injection h5 with _ h5
    exact ⟨by rw [digit_inj h1.1 h2.1 e1, e2, e4], h5⟩
theorem render_inj0 {T U : Tm} (h1 : low T) (h2 : low U) (h : render T = render U) : T = U :=
  (render_inj T U [] [] h1 h2 (by rw [h])).1

/-- how many bytes there are up to where so many brackets are shut -/
def close : List UInt8 → Nat → Nat
  | [], _ => 0
  | _ :: _, 0 => 0
  | c :: r, d + 1 => 1 + close r (if c = 40 then d + 2 else if c = 41 then d else d + 1)
theorem close_zero (s : List UInt8) : close s 0 = 0 := by cases s <;> rfl
theorem close_le : ∀ (s : List UInt8) (d : Nat), close s d ≤ s.length
  | [], _ => Nat.zero_le _
  | c :: r, 0 => Nat.zero_le _
  | c :: r, d + 1 => by
    rw [close, List.length_cons]
    have := close_le r (if c = 40 then d + 2 else if c = 41 then d else d + 1)
    omega
theorem close_plain {c : UInt8} (r : List UInt8) (d : Nat) (h : c ≠ 40 ∧ c ≠ 41) : close (c :: r) (d + 1) = 1 + close r (d + 1) := by
  rw [close, if_neg h.1, if_neg h.2]
theorem close_render : ∀ (T : Tm) (s : List UInt8) (d : Nat), low T → close (render T ++ s) (d + 1) = (render T).length + close s (d + 1)
  | .leaf b, s, d, _ => by
    simp only [render, List.cons_append, List.nil_append, List.length_cons, List.length_nil]
    rw [close_plain _ _ (by cases b <;> decide)]
  | .node l x y, s, d, h => by
    simp only [render, List.cons_append, List.append_assoc, List.nil_append, List.length_cons, List.length_append, List.length_nil]
    rw [close, if_pos rfl, close_plain _ _ (digit_ne h.1), close_plain _ _ (by decide), close_render x _ _ h.2.1, close_plain _ _ (by decide), close_render y _ _ h.2.2, close]
    simp only [show ¬ (41 : UInt8) = 40 from by decide, if_false, if_true]
    omega
/-- the texts that begin at some bracket -/
def spots : List UInt8 → List (List UInt8)
  | [] => []
  | c :: r => if c = 40 then (c :: r.take (close r 1)) :: spots r else spots r
theorem spots_plain {c : UInt8} (r : List UInt8) (h : c ≠ 40) : spots (c :: r) = spots r := by rw [spots, if_neg h]
theorem spots_render : ∀ (T : Tm) (s : List UInt8), low T → spots (render T ++ s) = (subs T).map render ++ spots s
  | .leaf b, s, _ => by
    simp only [render, List.cons_append, List.nil_append, subs, List.map_nil]
    rw [spots_plain _ (by cases b <;> decide)]
  | .node l x y, s, h => by
    have hb : ∀ s' : List UInt8, render (.node l x y) ++ s' = 40 :: ((UInt8.ofNat (48 + l) :: 32 :: (render x ++ 32 :: (render y ++ [41]))) ++ s') := fun s' => by simp [render]
    have hc : close ((UInt8.ofNat (48 + l) :: 32 :: (render x ++ 32 :: (render y ++ [41]))) ++ s) 1 = (UInt8.ofNat (48 + l) :: 32 :: (render x ++ 32 :: (render y ++ [41]))).length := by
      simp only [List.cons_append, List.append_assoc, List.nil_append, List.length_cons, List.length_append, List.length_nil]
      rw [close_plain _ 0 (digit_ne h.1), close_plain _ 0 (by decide), close_render x _ 0 h.2.1, close_plain _ 0 (by decide), close_render y _ 0 h.2.2, close]
      simp only [show ¬ (41 : UInt8) = 40 from by decide, if_false, if_true, close_zero]
      omega
    rw [hb, spots, if_pos rfl, hc, List.take_left']
    · simp only [subs, List.map_cons, List.map_append, List.cons_append, List.append_assoc, List.nil_append]
      rw [spots_plain _ (digit_ne h.1).1, spots_plain _ (by decide), spots_render x _ h.2.1, spots_plain _ (by decide), spots_render y _ h.2.2, spots_plain _ (by decide)]
      simp [render]
    · rfl

section
variable {α β : Type} [DecidableEq α] [DecidableEq β]
theorem foldl_map_inj {f : α → β} {P : α → Prop} (hf : ∀ x y, P x → P y → f x = f y → x = y) : ∀ (l out : List α), (∀ x ∈ l, P x) → (∀ x ∈ out, P x) →
    (l.map f).foldl (fun out x => if x ∈ out then out else out ++ [x]) (out.map f) = (l.foldl (fun out x => if x ∈ out then out else out ++ [x]) out).map f
  | [], _, _, _ => rfl
  | y :: r, out, hl, ho => by
    have hy := hl y (List.mem_cons_self ..)
    have hm : f y ∈ out.map f ↔ y ∈ out := by
      rw [List.mem_map]
      constructor
      · rintro ⟨x, hx, e⟩
        rw [← hf x y (ho x hx) hy e]
        exact hx
      · intro h
        exact ⟨y, h, rfl⟩
    rw [List.map_cons, List.foldl_cons, List.foldl_cons]
    by_cases h : y ∈ out
    · rw [if_pos h, if_pos (hm.2 h)]
      exact foldl_map_inj hf r out (fun x hx => hl x (List.mem_cons_of_mem _ hx)) ho
    · rw [if_neg h, if_neg (fun h' => h (hm.1 h'))]
      have := foldl_map_inj hf r (out ++ [y]) (fun x hx => hl x (List.mem_cons_of_mem _ hx)) (fun x hx => by
        rcases List.mem_append.1 hx with hx | hx
        · exact ho x hx
        · simp at hx; subst hx; exact hy)
      rw [List.map_append] at this
      exact this
theorem dd_map {f : α → β} {P : α → Prop} (hf : ∀ x y, P x → P y → f x = f y → x = y) (l : List α) (h : ∀ x ∈ l, P x) : dd (l.map f) = (dd l).map f :=
  foldl_map_inj hf l [] h (by simp)
end
theorem low_subs : ∀ (T : Tm), low T → ∀ U ∈ subs T, low U
  | .leaf _, _, U, h => by simp [subs] at h
  | .node l x y, hT, U, h => by
    simp only [subs, List.mem_cons, List.mem_append] at h
    rcases h with rfl | h | h
    · exact hT
    · exact low_subs x hT.2.1 U h
    · exact low_subs y hT.2.2 U h
/-- how many different parts a term's text has -/
theorem parts_count (T : Tm) (h : low T) : (dd (spots (render T))).length = (dd (subs T)).length := by
  have := spots_render T [] h
  rw [List.append_nil, spots, List.append_nil] at this
  rw [this, dd_map (P := low) (fun x y hx hy e => render_inj0 hx hy e) _ (low_subs T h), List.length_map]
theorem low_tmOf (z : Bool) : ∀ (k : Nat) (t : List Bool) (l : Nat), l + k ≤ 10 → low (tmOf z k t l)
  | 0, t, l, _ => trivial
  | k + 1, t, l, h => by
    rw [tmOf]
    split
    · exact low_tmOf z k _ (l + 1) (by omega)
    · exact ⟨by omega, low_tmOf z k _ (l + 1) (by omega), low_tmOf z k _ (l + 1) (by omega)⟩
theorem deep_tmOf (z : Bool) : ∀ (k : Nat) (t : List Bool) (l : Nat), deep (tmOf z k t l) ≤ k
  | 0, t, l => Nat.le_refl _
  | k + 1, t, l => by
    rw [tmOf]
    split
    · have := deep_tmOf z k (t.take (2 ^ k)) (l + 1); omega
    · have h1 := deep_tmOf z k (t.take (2 ^ k)) (l + 1)
      have h2 := deep_tmOf z k (t.drop (2 ^ k)) (l + 1)
      unfold deep
      omega
theorem render_len : ∀ (T : Tm), (render T).length + 5 ≤ 6 * 2 ^ deep T
  | .leaf b => by simp [render, deep]
  | .node l x y => by
    have h1 := render_len x
    have h2 := render_len y
    have e1 : 2 ^ deep x ≤ 2 ^ max (deep x) (deep y) := Nat.pow_le_pow_right (by omega) (by omega)
    have e2 : 2 ^ deep y ≤ 2 ^ max (deep x) (deep y) := Nat.pow_le_pow_right (by omega) (by omega)
    simp only [render, deep, List.length_cons, List.length_append, List.length_nil]
    rw [Nat.pow_add, Nat.pow_one]
    omega
theorem render_short {T : Tm} (h : deep T ≤ 6) : (render T).length ≤ 379 := by
  have h1 := render_len T
  have : 2 ^ deep T ≤ 2 ^ 6 := Nat.pow_le_pow_right (by omega) h
  omega

/-- a string -/
def strV (l : List UInt8) : Value := .string ⟨l.toArray⟩
theorem str_append (l m : List UInt8) : ((⟨l.toArray⟩ : ByteArray) ++ ⟨m.toArray⟩) = ⟨(l ++ m).toArray⟩ := by
  apply ByteArray.ext
  simp [ByteArray.data_append]
end Go.Proofs.YtpjciaomhfeeeaaGreatDoor
end

section
namespace Go.Proofs.YtpjciaomhfeeeaaGreatDoor
set_option linter.unusedSimpArgs false
set_option linter.unusedVariables false

theorem drop_head {α : Type} (s : List α) (d : α) (i : Nat) (h : i < s.length) : s.drop i = (s[i]?.getD d) :: s.drop (i + 1) := by
  rw [List.drop_eq_getElem_cons h, List.getElem?_eq_getElem h]; rfl
theorem close_drop (s : List UInt8) (k d : Nat) (h : k < s.length) : close (s.drop k) (d + 1) = 1 + close (s.drop (k + 1)) (if s[k]?.getD 0 = 40 then d + 2 else if s[k]?.getD 0 = 41 then d else d + 1) := by
  rw [drop_head s 0 k h, close]
theorem spots_drop (s : List UInt8) (i : Nat) (h : i < s.length) : spots (s.drop i) = if s[i]?.getD 0 = 40 then ((s.drop i).take (1 + close (s.drop (i + 1)) 1)) :: spots (s.drop (i + 1)) else spots (s.drop (i + 1)) := by
  rw [drop_head s 0 i h, spots]
  by_cases h1 : s[i]?.getD 0 = 40
  · rw [if_pos h1, if_pos h1, Nat.add_comm 1, List.take_succ_cons]
  · rw [if_neg h1, if_neg h1]
theorem spots_end (s : List UInt8) (i : Nat) (h : s.length ≤ i) : spots (s.drop i) = [] := by
  rw [List.drop_eq_nil_of_le h, spots]
theorem close_end (s : List UInt8) (i d : Nat) (h : s.length ≤ i) : close (s.drop i) d = 0 := by
  rw [List.drop_eq_nil_of_le h, close]
theorem extract_list (s : List UInt8) (i k : Nat) : (⟨s.toArray⟩ : ByteArray).extract i k = ⟨((s.drop i).take (k - i)).toArray⟩ := by
  apply ByteArray.ext
  simp [ByteArray.extract, ByteArray.copySlice, List.take_drop]
/-- one step of gathering -/
def gather {α : Type} [DecidableEq α] (out : List α) (x : α) : List α := if x ∈ out then out else out ++ [x]
theorem dd_gather {α : Type} [DecidableEq α] (l : List α) : l.foldl gather [] = dd l := rfl
theorem mem_take_succ {α : Type} [DecidableEq α] (l : List α) (x d : α) (j : Nat) (h : j < l.length) : (decide (x ∈ l.take j) || decide (l[j]?.getD d = x)) = decide (x ∈ l.take (j + 1)) := by
  have e : l.take (j + 1) = l.take j ++ [l[j]] := by rw [List.take_add_one, List.getElem?_eq_getElem h]; rfl
  have e2 : l[j]?.getD d = l[j] := by rw [List.getElem?_eq_getElem h]; rfl
  rw [e, e2, Bool.eq_iff_iff, Bool.or_eq_true, decide_eq_true_eq, decide_eq_true_eq, decide_eq_true_eq, List.mem_append, List.mem_singleton]
  exact ⟨fun h => h.imp id Eq.symm, fun h => h.imp id Eq.symm⟩
theorem gather_len {α : Type} [DecidableEq α] (out : List α) (x : α) : (gather out x).length ≤ out.length + 1 := by
  unfold gather; split
  · omega
  · simp
theorem byte_at (s : List UInt8) (k : Nat) (h : k < s.length) (h' : k < (ByteArray.mk s.toArray).size) : (ByteArray.mk s.toArray)[k]'h' = s[k]?.getD 0 := by
  rw [List.getElem?_eq_getElem h]
  rfl
theorem byte_is {s : List UInt8} {k : Nat} {c : UInt8} (h : k < s.length) (h' : k < (ByteArray.mk s.toArray).size) (hc : s[k]?.getD 0 = c) : ((ByteArray.mk s.toArray)[k]'h').toNat = c.toNat := by
  rw [byte_at s k h h', hc]
theorem byte_isnt {s : List UInt8} {k : Nat} {c : UInt8} {i : Int} (h : k < s.length) (h' : k < (ByteArray.mk s.toArray).size) (hc : ¬ s[k]?.getD 0 = c) (hi : i = (c.toNat : Int)) : ((((ByteArray.mk s.toArray)[k]'h').toNat : Nat) : Int) ≠ i := by
  rw [byte_at s k h h', hi]
  intro e
  apply hc
  apply UInt8.toNat_inj.1
  omega
theorem strV_node (dg : UInt8) (x y : List UInt8) : Value.string ((⟨#[40]⟩ : ByteArray) ++ ⟨#[dg]⟩ ++ ⟨#[32]⟩ ++ ⟨x.toArray⟩ ++ ⟨#[32]⟩ ++ ⟨y.toArray⟩ ++ ⟨#[41]⟩) = strV (40 :: dg :: 32 :: (x ++ 32 :: (y ++ [41]))) := by
  unfold strV
  congr 1
  apply ByteArray.ext
  simp [ByteArray.data_append]
end Go.Proofs.YtpjciaomhfeeeaaGreatDoor
end
