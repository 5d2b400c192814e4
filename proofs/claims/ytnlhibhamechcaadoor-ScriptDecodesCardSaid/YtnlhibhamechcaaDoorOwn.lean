/- Slices of one-cell elements that the call itself makes: made, appended to, stored into. -/
import Derived.Test.YtnlhibhamechcaaDoorBase
namespace Go.Proofs.YtnlhibhamechcaaDoor
open Go.RowKit
set_option linter.unusedSimpArgs false
set_option linter.unusedVariables false

/-- the value v is a slice of the call's own (blocks from base on) that holds f x for each x of xs; E: the element type -/
def OwnF {α : Type} (f : α → Value) (E : TypeId) (w : World) (base : Nat) (v : Value) (xs : List α) : Prop :=
  w.ownsRow base E 1 v xs.length (xs.map f)
/-- slices of int -/
abbrev OwnI := OwnF (Value.int .i64) 3

/-- a slice value's length -/
def lenOf : Value → Nat | .slice _ n _ => n | _ => 0

section
variable {α : Type} {f : α → Value} {E : TypeId} {w w' : World} {base base' : Nat} {v : Value} {xs : List α}
theorem OwnF.nil_ : OwnF f E w base (.slice none 0 0) [] := World.ownsRow_nil _ _ _ _
theorem OwnF.form (h : OwnF f E w base v xs) : ∃ A n c, v = .slice A n c ∧ xs.length = n ∧ n ≤ c := by
  rcases h with ⟨_, ⟨rfl, h0⟩ | ⟨g, cap, cur, rfl, _, _, hc, _⟩⟩
  · exact ⟨_, _, _, rfl, h0, Nat.le_refl _⟩
  · exact ⟨_, _, _, rfl, rfl, hc⟩
theorem OwnF.len_le (h : OwnF f E w base v xs) : xs.length ≤ 9223372036854775807 := by
  rcases h with ⟨_, ⟨rfl, h0⟩ | ⟨g, cap, cur, rfl, _, _, hc, hm, _⟩⟩
  · omega
  · unfold maxLen at hm; omega
theorem OwnF.cap_le {A : Option Addr} {n c : Nat} (h : OwnF f E w base (.slice A n c) xs) : c ≤ 9223372036854775807 := by
  rcases h with ⟨_, ⟨hv, h0⟩ | ⟨g, cap, cur, hv, _, _, hc, hm, _⟩⟩
  · injection hv with _ _ h3; omega
  · injection hv with _ _ h3; unfold maxLen at hm; omega
theorem lenOf_own (h : OwnF f E w base v xs) : lenOf v = xs.length := by
  obtain ⟨A, n, c, rfl, h1, _⟩ := h.form
  exact h1.symm
theorem OwnF.below (h : OwnF f E w base v xs) (hb : Below w.heap.size w w') : OwnF f E w' base v xs := own_below h hb
theorem OwnF.mono (h : OwnF f E w base v xs) (hb : base' ≤ base) : OwnF f E w base' v xs := own_mono h hb
theorem OwnF.drewN (h : OwnF f E w base v xs) (k : Nat) : OwnF f E (w.drewN k) base v xs := h
theorem OwnF.drew (h : OwnF f E w base v xs) : OwnF f E w.drew base v xs := h
theorem OwnF.alloc (h : OwnF f E w base v xs) (o : Obj) : OwnF f E (w.alloc o) base v xs := World.ownsRow.alloc h o
theorem OwnF.set_below (h : OwnF f E w base v xs) {a : Addr} (ha : a.block < base) (u : Value) : OwnF f E (w.setCell a u) base v xs := ownsRow_setCell_below h ha u
/-- of what is owned: a block, below the heap's size -/
theorem OwnF.lt (h : OwnF f E w base v xs) : ∀ k, v.ownBlock = some k → base ≤ k ∧ k < w.heap.size := World.ownsRow.lt h
theorem OwnF.kept {row : Option Nat} (h : OwnF f E w base v xs) (hg : w.grownBy w' row) (hne : v.ownBlock = none ∨ v.ownBlock ≠ row) : OwnF f E w' base v xs := World.ownsRow.kept h hg hne
theorem OwnF.belowB {B : Nat} (h : OwnF f E w base v xs) (hb : Below B w w') (hB : ∀ k, v.ownBlock = some k → k < B) : OwnF f E w' base v xs := by
  rcases h with ⟨hl, h | ⟨g, cap, cur, rfl, hg, hh, hr⟩⟩
  · exact ⟨hl, .inl h⟩
  · exact ⟨hl, .inr ⟨g, cap, cur, rfl, hg, by rw [hb.block g (hB g rfl)]; exact hh, hr⟩⟩
/-- at a known head: the cells, that they may be written, and what a store leaves -/
theorem OwnF.at_ {g n cap : Nat} (h : OwnF f E w base (.slice (some ⟨g, 0, none⟩) n cap) xs) (k : Nat) (hk : k < xs.length) :
    w.cell? ⟨g, k, none⟩ = (xs[k]?).map f ∧ w.frozen? ⟨g, k, none⟩ = false := by
  obtain ⟨A, n', c', hv, hn, _⟩ := h.form
  injection hv with _ h2 _
  subst h2
  unfold OwnF at h
  rw [hn] at h
  exact ⟨by rw [World.ownsRow.cellAt h k (by omega), List.getElem?_map], World.ownsRow.frozenAt h k⟩
theorem OwnF.set_ {g n cap : Nat} (h : OwnF f E w base (.slice (some ⟨g, 0, none⟩) n cap) xs) (k : Nat) (x : α) :
    OwnF f E (w.setCell ⟨g, k, none⟩ (f x)) base (.slice (some ⟨g, 0, none⟩) n cap) (xs.set k x) := by
  obtain ⟨A, n', c', hv, hn, _⟩ := h.form
  injection hv with _ h2 _
  subst h2
  unfold OwnF at h ⊢
  rw [hn] at h
  have := (World.ownsRow.stored h k (f x)).1
  rw [List.length_set, hn, List.map_set]
  exact this
theorem OwnF.head (h : OwnF f E w base v xs) (hn : 0 < xs.length) : ∃ g c, v = .slice (some ⟨g, 0, none⟩) xs.length c ∧ base ≤ g ∧ g < w.heap.size ∧ xs.length ≤ c := by
  rcases h with ⟨_, ⟨rfl, h0⟩ | ⟨g, cap, cur, rfl, hg, hh, hc, _⟩⟩
  · omega
  · refine ⟨g, cap, rfl, hg, ?_, hc⟩
    rcases Nat.lt_or_ge g w.heap.size with hlt | hge
    · exact hlt
    · rw [Array.getElem?_eq_none hge] at hh; cases hh
end

theorem OwnF.rows {α : Type} {f : α → Value} {d : α} {E : TypeId} {w : World} {base n c : Nat} {A : Option Addr} {zs : List α} (h : OwnF f E w base (.slice A n c) zs) : RowF f d w w.heap.size A zs := fun hn => by
  obtain ⟨g, c', hv, _, hlt, _⟩ := h.head hn
  injection hv with h1 h2 h3
  subst h1
  subst h2
  refine ⟨g, 0, rfl, hlt, fun j hj => ?_⟩
  have := (OwnF.at_ h j hj).1
  rw [List.getElem?_eq_getElem hj] at this ⊢
  rw [Nat.zero_add]
  exact this
theorem OwnI.ints {w : World} {base n c : Nat} {A : Option Addr} {zs : List Int} (h : OwnI w base (.slice A n c) zs) : Ints w w.heap.size A zs := OwnF.rows h

section
variable {ops : Array Oper} {rest : List Oper} {o : Oper} {a : Act} {Q : Exit → Act → World → Prop} {P : Program}
/-- 'make([]T, n)' -/
theorem wp_make {α : Type} {f : α → Value} {T E : TypeId} {i : TypeInfo} {z : α} {bytes : Nat} (hT : P.underlying T = some (.slice E)) (hi : P.info? E = some i) (hz0 : i.zero = some (f z)) (hz1 : i.size = 1) (hz2 : i.bytes = bytes)
    (hone : (f z).cells = #[f z]) (w : World) (hg : o.guard = none) (l c : Operand) (hop : o.op = Op.makeSlice T l c) (L : Int) (n : Nat) (hl : a.eval l = .int .i64 L) (hc : a.eval c = .int .i64 L) (hL : L = (n : Int)) (hn : bytes * n ≤ 281474976710656) (h63 : n ≤ maxLen)
    (h : ∀ w', OwnF f E w' w.heap.size (.slice (some ⟨w.heap.size, 0, none⟩) n n) (List.replicate n z) → Below w.heap.size w w' → w.heap.size < w'.heap.size → wpList P ops Q rest (a.put o.dst (.slice (some ⟨w.heap.size, 0, none⟩) n n)) w') :
    wpList P ops Q (o :: rest) a w :=
  wpList_make_full w hg l c T hop w.heap.size E i (f z) 1 hT hi hz0 hz1 .i64 .i64 L L n hl hc hL hL (by rw [hz2]; exact hn) h63 (Nat.le_refl _) fun w' hown hgr => by
    have h1 : OwnF f E w' w.heap.size (.slice (some ⟨w.heap.size, 0, none⟩) n n) (List.replicate n z) := by
      unfold OwnF
      rw [List.length_replicate, List.map_replicate]
      rw [hone, Nat.mul_one, toList_madeCells_one] at hown
      exact hown
    refine h w' h1 ((Below.refl _ _).grown hgr (Nat.le_refl _) (by simp)) ?_
    exact (h1.lt w.heap.size rfl).2
/-- 'make([]T, 0, n)' -/
theorem wp_make0 {α : Type} {f : α → Value} {T E : TypeId} {i : TypeInfo} {z : Value} {bytes : Nat} (hT : P.underlying T = some (.slice E)) (hi : P.info? E = some i) (hz0 : i.zero = some z) (hz1 : i.size = 1) (hz2 : i.bytes = bytes)
    (w : World) (hg : o.guard = none) (l c : Operand) (hop : o.op = Op.makeSlice T l c) (L : Int) (n : Nat) (hl : a.eval l = .int .i64 0) (hc : a.eval c = .int .i64 L) (hL : L = (n : Int)) (hn : bytes * n ≤ 281474976710656) (h63 : n ≤ maxLen)
    (h : ∀ w', OwnF f E w' w.heap.size (.slice (some ⟨w.heap.size, 0, none⟩) 0 n) [] → Below w.heap.size w w' → w.heap.size < w'.heap.size → wpList P ops Q rest (a.put o.dst (.slice (some ⟨w.heap.size, 0, none⟩) 0 n)) w') :
    wpList P ops Q (o :: rest) a w :=
  wpList_make_own w hg l c T hop w.heap.size E i z 1 hT hi hz0 hz1 .i64 .i64 L n hl hc hL (by rw [hz2]; exact hn) h63 (Nat.le_refl _) fun w' hown hgr => by
    have h1 : OwnF f E w' w.heap.size (.slice (some ⟨w.heap.size, 0, none⟩) 0 n) [] := hown
    exact h w' h1 ((Below.refl _ _).grown hgr (Nat.le_refl _) (by simp)) (h1.lt w.heap.size rfl).2
/-- 'append(s, x)': the one element lies in a new block -/
theorem wp_app1 {α : Type} {f : α → Value} {T E : TypeId} {i : TypeInfo} {z : Value} {bytes : Nat} (hT : P.underlying T = some (.slice E)) (hi : P.info? E = some i) (hz0 : i.zero = some z) (hz1 : i.size = 1) (hz2 : i.bytes = bytes)
    (hzc : z.cells.size = 1) (hbytes : bytes ≤ 4096)
    (W : World) (hg : o.guard = none) (s x : Operand) (hop : o.op = .call { callee := .builtin .append, args := #[s, x], argTypes := #[T, T] })
    (base : Nat) (v : Value) (xs : List α) (e : α) (c : Nat) (hone : (f e).oneCell' = true)
    (hown : OwnF f E W base v xs) (hbase : base ≤ W.heap.size) (hlen : xs.length ≤ 34359738366) {H : Nat} (hs : a.eval s = v) (hx : a.eval x = .slice (some ⟨H, 0, none⟩) 1 c) (hH : W.heap.size = H)
    (h : ∀ v' w', OwnF f E w' base v' (xs ++ [e]) → Below base W w' → W.heap.size < w'.heap.size → W.grownBy w' v.ownBlock → (∀ k, v'.ownBlock = some k → v.ownBlock = some k ∨ W.heap.size ≤ k) → wpList P ops Q rest (a.put o.dst v') w') :
    wpList P ops Q (o :: rest) a (W.alloc (.cells #[f e] E)) :=
  wpList_plain hg fun K hK => by
    subst hH
    obtain ⟨v', w', hrun, hown', hgr, _, hat⟩ := run_append_own_at (P := P) (W.alloc (.cells #[f e] E)) base T o.type E i z 1 bytes hT hi hz0 hz1 hz2 hzc (by decide) v xs.length (xs.map f) (World.ownsRow.alloc hown _)
      ⟨W.heap.size, 0, none⟩ 1 c [f e] rfl (fun j u hj => by
        match j, hj with
        | 0, hj => simp at hj; subst hj; rw [Addr.add_lit]; exact World.cell?_alloc_at _ _ _ _ rfl)
      (fun u hu => by simp at hu; subst hu; exact hone)
      (by unfold maxLen; omega) (by have : (xs.length + 1) * bytes ≤ 34359738367 * 4096 := Nat.mul_le_mul (by omega) hbytes; omega) (by simp; omega)
    unfold Oper.wp execOp
    simp only [hop, resolve, invoke, builtin, Sem.run_bind, Sem.run_pure, Result.andThen_ok, List.map_toArray, List.map_cons, List.map_nil, hs, hx, hrun]
    have hb : Below base W w' := ((Below.refl _ _).alloc hbase _).grown hgr (by simp; omega) (fun k hk => (hown.lt k hk).1)
    have hs : W.heap.size < w'.heap.size := by have := hgr.size; simp at this; omega
    refine hK _ _ (h v' w' ?_ hb hs ⟨hgr.os, hgr.tape, hgr.output, by omega, fun k hk hne => ?_⟩ (fun k hk => ?_))
    · unfold OwnF
      simpa using hown'
    · rw [hgr.block k (by simp; omega) hne, Below.heap_alloc _ _ _ hk]
    · rcases hat with h | h
      · exact .inl (by rw [← h]; exact hk)
      · rw [h] at hk; injection hk with hk; simp at hk; right; omega
end
/-- a literal: the block that was laid just now -/
theorem RowF.lit {α : Type} {f : α → Value} {d : α} (w : World) (E : TypeId) (xs : List α) : RowF f d (w.alloc (.cells (xs.map f).toArray E)) (w.alloc (.cells (xs.map f).toArray E)).heap.size (some ⟨w.heap.size, 0, none⟩) xs := fun hn => by
  refine ⟨_, _, rfl, by simp, fun j hj => ?_⟩
  rw [World.cell?_alloc_at _ _ _ _ rfl, List.getElem?_eq_getElem hj]
  simp [hj]
theorem RowF.lit' {α : Type} {f : α → Value} {d : α} (w : World) (E : TypeId) (xs : List α) {H : Nat} (h : w.heap.size = H) : RowF f d (w.alloc (.cells (xs.map f).toArray E)) (w.alloc (.cells (xs.map f).toArray E)).heap.size (some ⟨H, 0, none⟩) xs := by
  subst h; exact RowF.lit w E xs
theorem RowF.alloc' {α : Type} {f : α → Value} {d : α} {w : World} {A : Option Addr} {zs : List α} (h : RowF f d w w.heap.size A zs) (o : Obj) : RowF f d (w.alloc o) (w.alloc o).heap.size A zs := (h.alloc (Nat.le_refl _) o).more (by simp)

/-- what is handed to append as a slice: m elements at address A -/
def Src (w : World) (A : Option Addr) (m : Nat) (us : List Value) : Prop :=
  us.length = m ∧ (0 < m → ∃ ad, A = some ad ∧ ∀ j u, us[j]? = some u → w.cell? (ad.add j) = some u)
theorem RowF.src {α : Type} {f : α → Value} {d : α} {w : World} {B n : Nat} {A : Option Addr} {zs : List α} (h : RowF f d w B A zs) (hn : zs.length = n) : Src w A n (zs.map f) := by
  refine ⟨by rw [List.length_map, hn], fun h0 => ?_⟩
  obtain ⟨b, off, rfl, _, hc⟩ := h (by omega)
  refine ⟨_, rfl, fun j u hu => ?_⟩
  rw [List.getElem?_map] at hu
  have hj : j < zs.length := by
    rcases Nat.lt_or_ge j zs.length with h | h
    · exact h
    · rw [List.getElem?_eq_none h] at hu; cases hu
  rw [Addr.add_lit, hc j hj]
  rw [List.getElem?_eq_getElem hj] at hu ⊢
  simpa using hu
theorem RowF.kept {α : Type} {f : α → Value} {d : α} {w w' : World} {A : Option Addr} {zs : List α} {row : Option Nat} (h : RowF f d w w.heap.size A zs) (hg : w.grownBy w' row) (hne : ∀ a, A = some a → some a.block ≠ row) : RowF f d w' w'.heap.size A zs := fun hn => by
  obtain ⟨b, off, rfl, hb, hc⟩ := h hn
  have := hg.size
  refine ⟨b, off, rfl, by omega, fun j hj => ?_⟩
  rw [World.cell?_of_block (w := w) (hg.block b hb (hne _ rfl))]
  exact hc j hj
theorem Src.alloc {w : World} {A : Option Addr} {m : Nat} {us : List Value} (h : Src w A m us) (o : Obj) : Src (w.alloc o) A m us :=
  ⟨h.1, fun h0 => by
    obtain ⟨ad, e, hc⟩ := h.2 h0
    refine ⟨ad, e, fun j u hu => ?_⟩
    have h1 := hc j u hu
    rw [World.cell?_alloc_lt w o _ ?_]
    · exact h1
    · rcases Nat.lt_or_ge (ad.add j).block w.heap.size with h | h
      · exact h
      · simp [World.cell?, Array.getElem?_eq_none h] at h1⟩
theorem run_append_src {P : Program} (w : World) (base : Nat) (t ty e : TypeId) (i : TypeInfo) (z : Value) (bytes : Nat) (ht : P.underlying t = some (.slice e)) (hi : P.info? e = some i) (hz : i.zero = some z)
    (hsize : i.size = 1) (hby : i.bytes = bytes) (hzs : z.cells.size = 1)
    (v : Value) (n : Nat) (xs : List Value) (hown : w.ownsRow base e 1 v n xs)
    (A : Option Addr) (m c : Nat) (us : List Value) (hr : Src w A m us) (h1 : ∀ u ∈ us, u.oneCell' = true)
    (h63 : n + m ≤ maxLen) (hbytes : (n + m) * bytes ≤ 140737488355328) (hbase : base ≤ w.heap.size) :
    ∃ v' w', (Builtin.append_ #[t, t] ty #[v, .slice A m c]).run P w = .ok v' w' ∧ w'.ownsRow base e 1 v' (n + m) (xs ++ us) ∧ w.grownBy w' v.ownBlock ∧ (∀ k, v'.ownBlock = some k → v.ownBlock = some k ∨ w.heap.size ≤ k) := by
  rcases A with _ | ad
  · have hm : m = 0 := by
      rcases Nat.eq_zero_or_pos m with h0 | h0
      · exact h0
      · obtain ⟨ad, h, _⟩ := hr.2 h0
        cases h
    subst hm
    have hn : us = [] := List.eq_nil_of_length_eq_zero hr.1
    subst hn
    refine ⟨v, w, ?_, by simpa using hown, World.grownBy.refl w _, fun k hk => .inl hk⟩
    rcases hown.2 with ⟨rfl, rfl⟩ | ⟨g, cap, cur, rfl, _, _, hnc, _⟩
    · simp [Builtin.append_, run_underlying ht, sizeOf, typeInfo, hi, Builtin.lenOf, Builtin.firstCells]
    · simp [Builtin.append_, run_underlying ht, sizeOf, typeInfo, hi, Builtin.lenOf, Builtin.firstCells, hnc, storeCells]
  · have hcells : ∀ j u, us[j]? = some u → w.cell? (ad.add j) = some u := by
      intro j u hu
      rcases Nat.eq_zero_or_pos m with h0 | h0
      · subst h0
        have hn : us = [] := List.eq_nil_of_length_eq_zero hr.1
        subst hn
        simp at hu
      · obtain ⟨ad', h, hc⟩ := hr.2 h0
        injection h with h
        subst h
        exact hc j u hu
    obtain ⟨v', w', hrun, h2, h3, _, hat⟩ := run_append_own_at (P := P) w base t ty e i z 1 bytes ht hi hz hsize hby hzs (by decide) v n xs hown ad m c us (by rw [hr.1, Nat.mul_one]) hcells h1 h63 hbytes hbase
    refine ⟨v', w', hrun, h2, h3, fun k hk => ?_⟩
    rcases hat with h | h
    · exact .inl (by rw [← h]; exact hk)
    · rw [h] at hk; injection hk with hk; right; omega

section
variable {ops : Array Oper} {rest : List Oper} {o : Oper} {a : Act} {Q : Exit → Act → World → Prop} {P : Program}
/-- 'append(s, ys...)' -/
theorem wp_appN {α : Type} {f : α → Value} {T E : TypeId} {i : TypeInfo} {z : Value} {bytes : Nat} (hT : P.underlying T = some (.slice E)) (hi : P.info? E = some i) (hz0 : i.zero = some z) (hz1 : i.size = 1) (hz2 : i.bytes = bytes)
    (hzc : z.cells.size = 1) (hbytes : bytes ≤ 4096)
    (W : World) (hg : o.guard = none) (s x : Operand) (hop : o.op = .call { callee := .builtin .append, args := #[s, x], argTypes := #[T, T] })
    (base : Nat) (v : Value) (xs ys : List α) (A : Option Addr) (m c : Nat) (hone : ∀ e, (f e).oneCell' = true)
    (hown : OwnF f E W base v xs) (hsrc : Src W A m (ys.map f)) (hbase : base ≤ W.heap.size) (hlen : xs.length + m ≤ 34359738367) (hs : a.eval s = v) (hx : a.eval x = .slice A m c)
    (h : ∀ v' w', OwnF f E w' base v' (xs ++ ys) → Below base W w' → W.heap.size ≤ w'.heap.size → W.grownBy w' v.ownBlock → (∀ k, v'.ownBlock = some k → v.ownBlock = some k ∨ W.heap.size ≤ k) → wpList P ops Q rest (a.put o.dst v') w') :
    wpList P ops Q (o :: rest) a W :=
  wpList_plain hg fun K hK => by
    obtain ⟨v', w', hrun, h2, h3, h4⟩ := run_append_src (P := P) W base T o.type E i z bytes hT hi hz0 hz1 hz2 hzc v xs.length (xs.map f) hown A m c (ys.map f) hsrc (fun u hu => by
      obtain ⟨e, _, rfl⟩ := List.mem_map.1 hu; exact hone e) (by unfold maxLen; omega) (by have : (xs.length + m) * bytes ≤ 34359738367 * 4096 := Nat.mul_le_mul (by omega) hbytes; omega) hbase
    unfold Oper.wp execOp
    simp only [hop, resolve, invoke, builtin, Sem.run_bind, Sem.run_pure, Result.andThen_ok, List.map_toArray, List.map_cons, List.map_nil, hs, hx, hrun]
    refine hK _ _ (h v' w' ?_ ((Below.refl _ _).grown h3 hbase (fun k hk => (hown.lt k hk).1)) h3.size h3 h4)
    have hm : ys.length = m := by have := hsrc.1; rwa [List.length_map] at this
    unfold OwnF
    rw [List.length_append, hm, List.map_append]
    exact h2
end
end Go.Proofs.YtnlhibhamechcaaDoor
