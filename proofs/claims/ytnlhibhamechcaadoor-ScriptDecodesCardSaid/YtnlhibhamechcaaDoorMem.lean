/- Slices whose elements have several cells: read, owned, stored into. -/
import Derived.Test.YtnlhibhamechcaaDoorFoot
import Derived.Deep.MidRow
namespace Go.Proofs.YtnlhibhamechcaaDoor
open Go.RowKit
set_option linter.unusedSimpArgs false
set_option linter.unusedVariables false

/-- a slice at address A reads as xs, s cells an element (enc x) -/
def RowS {α : Type} (s : Nat) (enc : α → List Value) (w : World) (B : Nat) (A : Option Addr) (xs : List α) : Prop :=
  0 < xs.length → ∃ b off, A = some ⟨b, off, none⟩ ∧ b < B ∧ ∀ i x, xs[i]? = some x → w.rangeAt b (off + i * s) (enc x)
/-- the value v is a slice of the call's own that holds xs, s cells an element -/
def OwnS {α : Type} (s : Nat) (enc : α → List Value) (E : TypeId) (w : World) (base : Nat) (v : Value) (xs : List α) : Prop :=
  w.ownsRow base E s v xs.length (xs.flatMap enc)

theorem rangeAt_keep {w w' : World} {b o : Nat} {cs : List Value} (h : w.rangeAt b o cs) (hk : w'.heap[b]? = w.heap[b]?) : w'.rangeAt b o cs := fun j v hv =>
  (World.cell?_of_block (w := w) hk).trans (h j v hv)

section
variable {α : Type} {s : Nat} {enc : α → List Value} {w w' : World} {B B' : Nat} {A : Option Addr} {zs : List α}
theorem RowS.nil_ : RowS s enc w B A [] := fun h => absurd h (by simp)
theorem RowS.keep (h : RowS s enc w B A zs) (hk : ∀ k, k < B → w'.heap[k]? = w.heap[k]?) : RowS s enc w' B A zs := fun hn => by
  obtain ⟨b, off, e, hb, hc⟩ := h hn
  exact ⟨b, off, e, hb, fun i x hx => rangeAt_keep (hc i x hx) (hk b hb)⟩
theorem RowS.more (h : RowS s enc w B A zs) (hB : B ≤ B') : RowS s enc w B' A zs := fun hn => by
  obtain ⟨b, off, e, hb, hc⟩ := h hn
  exact ⟨b, off, e, by omega, hc⟩
theorem RowS.below' (h : RowS s enc w B A zs) (hb : Below B w w') : RowS s enc w' B A zs := h.keep fun k hk => hb.block k hk
theorem RowS.on (h : RowS s enc w w.heap.size A zs) (hb : Below w.heap.size w w') : RowS s enc w' w'.heap.size A zs := (h.below' hb).more hb.size
theorem RowS.drewN' (h : RowS s enc w w.heap.size A zs) (k : Nat) : RowS s enc (w.drewN k) (w.drewN k).heap.size A zs := h
end

/-- the cells of the i-th element in the list of all cells -/
theorem flat_get {α : Type} {s : Nat} {enc : α → List Value} (hs : ∀ x, (enc x).length = s) : ∀ (xs : List α) (i : Nat) (x : α), xs[i]? = some x → ∀ j v, (enc x)[j]? = some v → (xs.flatMap enc)[i * s + j]? = some v
  | [], i, x, h, _, _, _ => by simp at h
  | y :: ys, 0, x, h, j, v, hv => by
    simp at h
    subst h
    rw [List.flatMap_cons, Nat.zero_mul, Nat.zero_add, List.getElem?_append_left (List.getElem?_eq_some_iff.1 hv).1]
    exact hv
  | y :: ys, i + 1, x, h, j, v, hv => by
    rw [List.flatMap_cons, List.getElem?_append_right (by rw [hs, Nat.succ_mul]; omega), hs]
    have := flat_get hs ys i x (by simpa using h) j v hv
    rwa [show (i + 1) * s + j - s = i * s + j by rw [Nat.succ_mul]; omega]
theorem flat_len {α : Type} {s : Nat} {enc : α → List Value} (hs : ∀ x, (enc x).length = s) (xs : List α) : (xs.flatMap enc).length = xs.length * s := by
  induction xs with
  | nil => simp
  | cons y ys ih => rw [List.flatMap_cons, List.length_append, hs, ih, List.length_cons, Nat.succ_mul]; omega
theorem flat_set {α : Type} {s : Nat} {enc : α → List Value} (hs : ∀ x, (enc x).length = s) (x : α) : ∀ (xs : List α) (i : Nat), i < xs.length → ∀ k, ((xs.set i x).flatMap enc)[k]? = if i * s ≤ k ∧ k < i * s + s then (enc x)[k - i * s]? else (xs.flatMap enc)[k]?
  | [], i, h, _ => by simp at h
  | y :: ys, 0, _, k => by
    rw [List.set_cons_zero, List.flatMap_cons, List.flatMap_cons, Nat.zero_mul, Nat.zero_add]
    rcases Nat.lt_or_ge k s with hk | hk
    · rw [if_pos ⟨Nat.zero_le _, hk⟩, List.getElem?_append_left (by rw [hs]; exact hk), Nat.sub_zero]
    · rw [if_neg (by omega), List.getElem?_append_right (by rw [hs]; exact hk), List.getElem?_append_right (by rw [hs]; exact hk), hs, hs]
  | y :: ys, i + 1, h, k => by
    rw [List.set_cons_succ, List.flatMap_cons, List.flatMap_cons]
    have hm : (i + 1) * s = i * s + s := Nat.succ_mul i s
    rcases Nat.lt_or_ge k s with hk | hk
    · rw [if_neg (by omega), List.getElem?_append_left (by rw [hs]; exact hk), List.getElem?_append_left (by rw [hs]; exact hk)]
    · rw [List.getElem?_append_right (by rw [hs]; exact hk), List.getElem?_append_right (by rw [hs]; exact hk), hs, flat_set hs x ys i (by simpa using h)]
      have h1 : (i * s ≤ k - s ∧ k - s < i * s + s) ↔ ((i + 1) * s ≤ k ∧ k < (i + 1) * s + s) := by omega
      have h2 : k - s - i * s = k - (i + 1) * s := by omega
      simp only [h1, h2]

theorem setCells_block {b : Nat} {E : TypeId} {fr : Nat × Nat} : ∀ (vs : List Value) (o : Nat) (w : World) (cur : Array Value), w.heap[b]? = some (.cells cur E fr) → o + vs.length ≤ cur.size →
    ∃ cur', (w.setCells b o vs).heap[b]? = some (.cells cur' E fr) ∧ cur'.size = cur.size ∧ ∀ k, cur'[k]? = if o ≤ k ∧ k < o + vs.length then vs[k - o]? else cur[k]?
  | [], o, w, cur, h, _ => ⟨cur, h, rfl, fun k => by rw [if_neg (by simp)]⟩
  | v :: r, o, w, cur, h, hle => by
    rw [List.length_cons] at hle
    have h1 : (w.setCell ⟨b, o, none⟩ v).heap[b]? = some (.cells (cur.setIfInBounds o v) E fr) := by simp [World.setCell, Array.getElem?_modify, h]
    obtain ⟨cur', h2, h3, h4⟩ := setCells_block r (o + 1) _ _ h1 (by simp; omega)
    refine ⟨cur', h2, by simpa using h3, fun k => ?_⟩
    rw [h4 k, List.length_cons]
    by_cases hk : o + 1 ≤ k ∧ k < o + 1 + r.length
    · rw [if_pos hk, if_pos (by omega), show k - o = (k - (o + 1)) + 1 by omega, List.getElem?_cons_succ]
    · rw [if_neg hk]
      by_cases hko : k = o
      · subst hko
        rw [if_pos (by omega), Nat.sub_self, Array.getElem?_setIfInBounds_self_of_lt (by omega)]
        rfl
      · rw [if_neg (by omega), Array.getElem?_setIfInBounds_ne (by omega)]
theorem setCells_other {b k : Nat} (hk : k ≠ b) : ∀ (vs : List Value) (o : Nat) (w : World), (w.setCells b o vs).heap[k]? = w.heap[k]?
  | [], _, _ => rfl
  | v :: r, o, w => by rw [World.setCells, setCells_other hk r]; exact Below.heap_setCell w _ v k hk
theorem setCells_size (b : Nat) : ∀ (vs : List Value) (o : Nat) (w : World), (w.setCells b o vs).heap.size = w.heap.size
  | [], _, _ => rfl
  | v :: r, o, w => by rw [World.setCells, setCells_size b r]; simp [World.setCell]
theorem setCells_rest (b : Nat) : ∀ (vs : List Value) (o : Nat) (w : World), (w.setCells b o vs).os = w.os ∧ (w.setCells b o vs).tape = w.tape ∧ (w.setCells b o vs).output = w.output
  | [], _, _ => ⟨rfl, rfl, rfl⟩
  | v :: r, o, w => by
    rw [World.setCells]
    exact setCells_rest b r (o + 1) (w.setCell ⟨b, o, none⟩ v)
theorem Chg.setCells {F : List Nat} {w w' : World} (h : Chg F w w') {b : Nat} (hp : b ∈ F ∨ w.heap.size ≤ b) (o : Nat) (vs : List Value) : Chg F w (w'.setCells b o vs) := by
  obtain ⟨h1, h2, h3⟩ := setCells_rest b vs o w'
  refine ⟨h1.trans h.os, h2.trans h.tape, h3.trans h.output, by rw [setCells_size]; exact h.size, fun i hi hn => ?_⟩
  rw [setCells_other (by
    rintro rfl
    rcases hp with hp | hp
    · exact hn hp
    · omega)]
  exact h.block i hi hn

section
variable {α : Type} {s : Nat} {enc : α → List Value} {E : TypeId} {w w' : World} {base base' : Nat} {v : Value} {xs : List α} {F : List Nat}
theorem OwnS.nil_ : OwnS s enc E w base (.slice none 0 0) [] := World.ownsRow_nil _ _ _ _
theorem OwnS.form (h : OwnS s enc E w base v xs) : ∃ A n c, v = .slice A n c ∧ xs.length = n ∧ n ≤ c := by
  rcases h with ⟨_, ⟨rfl, h0⟩ | ⟨g, cap, cur, rfl, _, _, hc, _⟩⟩
  · exact ⟨_, _, _, rfl, h0, Nat.le_refl _⟩
  · exact ⟨_, _, _, rfl, rfl, hc⟩
theorem OwnS.chg (h : OwnS s enc E w base v xs) (hb : Chg F w w') (hF : ∀ k ∈ blk v, ¬ k ∈ F) : OwnS s enc E w' base v xs := by
  rcases h with ⟨hl, h | ⟨g, cap, cur, rfl, hg, hh, hr⟩⟩
  · exact ⟨hl, .inl h⟩
  · refine ⟨hl, .inr ⟨g, cap, cur, rfl, hg, ?_, hr⟩⟩
    rw [hb.block g (by
      rcases Nat.lt_or_ge g w.heap.size with hlt | hge
      · exact hlt
      · rw [Array.getElem?_eq_none hge] at hh; cases hh) (hF g (mem_blk.2 rfl))]
    exact hh
theorem OwnS.mono (h : OwnS s enc E w base v xs) (hb : base' ≤ base) : OwnS s enc E w base' v xs := own_mono h hb
theorem OwnS.lt (h : OwnS s enc E w base v xs) : ∀ k, v.ownBlock = some k → base ≤ k ∧ k < w.heap.size := World.ownsRow.lt h
theorem OwnS.blk_lt (h : OwnS s enc E w base v xs) : ∀ k ∈ blk v, k < w.heap.size := fun k hk => (h.lt k (mem_blk.1 hk)).2
theorem OwnS.blk_ge (h : OwnS s enc E w base v xs) : ∀ k ∈ blk v, base ≤ k := fun k hk => (h.lt k (mem_blk.1 hk)).1
theorem OwnS.alloc (h : OwnS s enc E w base v xs) (o : Obj) : OwnS s enc E (w.alloc o) base v xs := World.ownsRow.alloc h o
theorem OwnS.drewN (h : OwnS s enc E w base v xs) (k : Nat) : OwnS s enc E (w.drewN k) base v xs := h
theorem OwnS.drew (h : OwnS s enc E w base v xs) : OwnS s enc E w.drew base v xs := h
theorem OwnS.head (h : OwnS s enc E w base v xs) (hn : 0 < xs.length) : ∃ g c, v = .slice (some ⟨g, 0, none⟩) xs.length c ∧ base ≤ g ∧ g < w.heap.size ∧ xs.length ≤ c := by
  rcases h with ⟨_, ⟨rfl, h0⟩ | ⟨g, cap, cur, rfl, hg, hh, hc, _⟩⟩
  · omega
  · refine ⟨g, cap, rfl, hg, ?_, hc⟩
    rcases Nat.lt_or_ge g w.heap.size with hlt | hge
    · exact hlt
    · rw [Array.getElem?_eq_none hge] at hh; cases hh
/-- one element's cells -/
theorem OwnS.at_ (hs : ∀ x, (enc x).length = s) {g n c : Nat} (h : OwnS s enc E w base (.slice (some ⟨g, 0, none⟩) n c) xs) (i : Nat) (x : α) (hx : xs[i]? = some x) : w.rangeAt g (i * s) (enc x) ∧ w.there g (i * s) s := by
  rcases h with ⟨hl, ⟨hv, h0⟩ | ⟨g', cap, cur, hv, hg, hh, hc, _, hsz, ht⟩⟩
  · cases hv
  · injection hv with h1 h2 h3
    injection h1 with h1
    injection h1 with h1
    subst h1
    have hi : i < xs.length := (List.getElem?_eq_some_iff.1 hx).1
    have hcell : ∀ j v, (enc x)[j]? = some v → w.cell? ⟨g, i * s + j, none⟩ = some v := fun j v hv => by
      have h5 := flat_get hs xs i x hx j v hv
      rw [← ht, List.getElem?_take] at h5
      rw [cell_of_row w g (i * s + j) cur E (0, 0) hh]
      split at h5
      · simpa using h5
      · cases h5
    refine ⟨hcell, fun j hj => ⟨?_, ?_⟩⟩
    · have : (enc x)[j]? = some ((enc x)[j]'(by rw [hs]; exact hj)) := List.getElem?_eq_getElem _
      rw [hcell j _ this]
      rfl
    · simp [World.frozen?, hh]
/-- a store of one element -/
theorem OwnS.set_ (hs : ∀ x, (enc x).length = s) {g n c : Nat} (h : OwnS s enc E w base (.slice (some ⟨g, 0, none⟩) n c) xs) (i : Nat) (hi : i < xs.length) (x : α) : OwnS s enc E (w.setCells g (i * s) (enc x)) base (.slice (some ⟨g, 0, none⟩) n c) (xs.set i x) := by
  rcases h with ⟨hl, ⟨hv, h0⟩ | ⟨g', cap, cur, hv, hg, hh, hc, hm, hsz, ht⟩⟩
  · cases hv
  · injection hv with h1 h2 h3
    injection h1 with h1
    injection h1 with h1
    subst h1
    subst h3
    have hb : i * s + s ≤ xs.length * s := by rw [← Nat.succ_mul]; exact Nat.mul_le_mul_right _ hi
    have hb2 : xs.length * s ≤ c * s := Nat.mul_le_mul_right _ hc
    obtain ⟨cur', e1, e2, e3⟩ := setCells_block (enc x) (i * s) w cur hh (by rw [hs]; omega)
    refine ⟨by rw [flat_len hs], .inr ⟨g, c, cur', by rw [h2, List.length_set], hg, e1, by rw [List.length_set]; exact hc, hm, by rw [e2]; exact hsz, ?_⟩⟩
    apply List.ext_getElem?
    intro k
    rw [flat_set hs x xs i hi k, List.getElem?_take, List.length_set, Array.getElem?_toList, e3 k, hs, ← ht, List.getElem?_take, Array.getElem?_toList]
    by_cases hk : i * s ≤ k ∧ k < i * s + s
    · rw [if_pos hk, if_pos hk, if_pos (by omega)]
    · rw [if_neg hk, if_neg hk, Array.getElem?_toList]
theorem OwnS.rows (hs : ∀ x, (enc x).length = s) {A : Option Addr} {n c : Nat} (h : OwnS s enc E w base (.slice A n c) xs) : RowS s enc w w.heap.size A xs := fun hn => by
  obtain ⟨g, c', hv, _, hlt, _⟩ := h.head hn
  injection hv with h1 h2 h3
  subst h1
  subst h2
  refine ⟨g, 0, rfl, hlt, fun i x hx => ?_⟩
  rw [Nat.zero_add]
  exact (OwnS.at_ hs h i x hx).1
end
theorem toList_madeCells {α : Type} {s : Nat} {enc : α → List Value} (hs : ∀ x, (enc x).length = s) (h0 : 0 < s) (z : α) (zs : Array Value) (hz : zs.toList = enc z) (n : Nat) : (madeCells zs (n * s)).toList = (List.replicate n z).flatMap enc := by
  have hzs : zs.size = s := by rw [← hs z, ← hz, Array.length_toList]
  apply List.ext_getElem?
  intro k
  by_cases hk : k < n * s
  · have hd : k / s < n := Nat.div_lt_of_lt_mul (by rw [Nat.mul_comm]; exact hk)
    have hm : k % s < s := Nat.mod_lt _ h0
    have he : (enc z)[k % s]? = some ((enc z)[k % s]'(by rw [hs]; exact hm)) := List.getElem?_eq_getElem _
    have h1 := flat_get hs (List.replicate n z) (k / s) z (by rw [List.getElem?_replicate, if_pos hd]) (k % s) _ he
    rw [Nat.mul_comm, Nat.div_add_mod] at h1
    rw [h1, Array.getElem?_toList]
    unfold madeCells
    rw [Array.getElem?_map, Array.getElem?_range, if_pos hk]
    have h2 : zs[k % s]? = (enc z)[k % s]? := by rw [← hz, Array.getElem?_toList]
    rw [he] at h2
    simp only [Option.map_some, hzs]
    rw [getElem!_def, h2]
  · rw [List.getElem?_eq_none (by rw [Array.length_toList, size_madeCells]; omega), List.getElem?_eq_none (by rw [flat_len hs, List.length_replicate]; omega)]

section
variable {ops : Array Oper} {rest : List Oper} {o : Oper} {a : Act} {Q : Exit → Act → World → Prop} {P : Program}
/-- 'make([]T, n)' of elements with several cells -/
theorem wp_makeS {α : Type} {s : Nat} {enc : α → List Value} (hs : ∀ x, (enc x).length = s) (h0 : 0 < s) {T E : TypeId} {i : TypeInfo} (z : α) {zv : Value} {bytes : Nat} (hT : P.underlying T = some (.slice E)) (hi : P.info? E = some i) (hz0 : i.zero = some zv) (hz1 : i.size = s) (hz2 : i.bytes = bytes)
    (hzv : zv.cells.toList = enc z) (w : World) (hg : o.guard = none) (l c : Operand) (hop : o.op = Op.makeSlice T l c) (L C : Int) (n : Nat) (hl : a.eval l = .int .i64 L) (hc : a.eval c = .int .i64 C) (hL : L = (n : Int)) (hC : C = (n : Int)) (hn : bytes * n ≤ 281474976710656) (h63 : n ≤ maxLen)
    (h : ∀ w', OwnS s enc E w' w.heap.size (.slice (some ⟨w.heap.size, 0, none⟩) n n) (List.replicate n z) → Below w.heap.size w w' → w.heap.size < w'.heap.size → wpList P ops Q rest (a.put o.dst (.slice (some ⟨w.heap.size, 0, none⟩) n n)) w') :
    wpList P ops Q (o :: rest) a w :=
  wpList_make_full w hg l c T hop w.heap.size E i zv s hT hi hz0 hz1 .i64 .i64 L C n hl hc hL hC (by rw [hz2]; exact hn) h63 (Nat.le_refl _) fun w' hown hgr => by
    have h1 : OwnS s enc E w' w.heap.size (.slice (some ⟨w.heap.size, 0, none⟩) n n) (List.replicate n z) := by
      unfold OwnS
      rw [List.length_replicate]
      rw [toList_madeCells hs h0 z zv.cells hzv] at hown
      exact hown
    exact h w' h1 ((Below.refl _ _).grown hgr (Nat.le_refl _) (by simp)) (h1.lt w.heap.size rfl).2
/-- 'append(s, x)', x with several cells: it lies in a new block -/
theorem wp_appS {α : Type} {s : Nat} {enc : α → List Value} (hs : ∀ x, (enc x).length = s) (h0 : 0 < s) {T E : TypeId} {i : TypeInfo} {z : Value} {bytes : Nat} (hT : P.underlying T = some (.slice E)) (hi : P.info? E = some i) (hz0 : i.zero = some z) (hz1 : i.size = s) (hz2 : i.bytes = bytes)
    (hzc : z.cells.size = s) (hbytes : bytes ≤ 4096)
    (W : World) (hg : o.guard = none) (sl x : Operand) (hop : o.op = .call { callee := .builtin .append, args := #[sl, x], argTypes := #[T, T] })
    (base : Nat) (v : Value) (xs : List α) (e : α) (cs : Array Value) (hcs : cs.toList = enc e) (c : Nat) (hone : ∀ u ∈ enc e, u.oneCell' = true)
    (hown : OwnS s enc E W base v xs) (hbase : base ≤ W.heap.size) (hlen : xs.length ≤ 34359738366) {H : Nat} (hsv : a.eval sl = v) (hx : a.eval x = .slice (some ⟨H, 0, none⟩) 1 c) (hH : W.heap.size = H)
    (h : ∀ v' w', OwnS s enc E w' base v' (xs ++ [e]) → Below base W w' → W.heap.size < w'.heap.size → W.grownBy w' v.ownBlock → (∀ k, v'.ownBlock = some k → v.ownBlock = some k ∨ W.heap.size ≤ k) → wpList P ops Q rest (a.put o.dst v') w') :
    wpList P ops Q (o :: rest) a (W.alloc (.cells cs E)) :=
  wpList_plain hg fun K hK => by
    subst hH
    obtain ⟨v', w', hrun, hown', hgr, _, hat⟩ := run_append_own_at (P := P) (W.alloc (.cells cs E)) base T o.type E i z s bytes hT hi hz0 hz1 hz2 hzc h0 v xs.length (xs.flatMap enc) (World.ownsRow.alloc hown _)
      ⟨W.heap.size, 0, none⟩ 1 c (enc e) (by rw [hs, Nat.one_mul]) (fun j u hj => by
        rw [Addr.add_lit, World.cell?_alloc_at _ _ _ _ rfl, ← hj, ← hcs, Array.getElem?_toList]
        simp)
      hone
      (by unfold maxLen; omega) (by have : (xs.length + 1) * bytes ≤ 34359738367 * 4096 := Nat.mul_le_mul (by omega) hbytes; omega) (by simp; omega)
    unfold Oper.wp execOp
    simp only [hop, resolve, invoke, builtin, Sem.run_bind, Sem.run_pure, Result.andThen_ok, List.map_toArray, List.map_cons, List.map_nil, hsv, hx, hrun]
    have hb : Below base W w' := ((Below.refl _ _).alloc hbase _).grown hgr (by simp; omega) (fun k hk => (hown.lt k hk).1)
    have hs' : W.heap.size < w'.heap.size := by have := hgr.size; simp at this; omega
    refine hK _ _ (h v' w' ?_ hb hs' ⟨hgr.os, hgr.tape, hgr.output, by omega, fun k hk hne => ?_⟩ (fun k hk => ?_))
    · unfold OwnS
      simpa using hown'
    · rw [hgr.block k (by simp; omega) hne, Below.heap_alloc _ _ _ hk]
    · rcases hat with h | h
      · exact .inl (by rw [← h]; exact hk)
      · rw [h] at hk; injection hk with hk; simp at hk; right; omega
end
end Go.Proofs.YtnlhibhamechcaaDoor
