/- slices.Delete at one place of an owned row: the laws for its append and clear; the contract at []int. -/
import Derived.Test.YtfnhknbofllhcaaOwn
import Derived.Deep.RegionLaw
import Derived.Lib.SliceRun
namespace Go.Proofs.Ytfnhknbofllhcaa
open Go.RowKit
set_option linter.unusedSimpArgs false
set_option linter.unusedVariables false

/-- the whole row of an owned slice that is not nil -/
theorem OwnF.row {α : Type} {f : α → Value} {E : TypeId} {w : World} {base g n c : Nat} {xs : List α} (h : OwnF f E w base (.slice (some ⟨g, 0, none⟩) n c) xs) :
    ∃ cur, base ≤ g ∧ w.heap[g]? = some (.cells cur E (0, 0)) ∧ xs.length = n ∧ n ≤ c ∧ c ≤ maxLen ∧ cur.size = c ∧ cur.toList.take n = xs.map f := by
  rcases h with ⟨_, ⟨hv, _⟩ | ⟨g', cap, cur, hv, hg, hh, hc, hm, hs, ht⟩⟩
  · cases hv
  · injection hv with h1 h2 h3
    subst h2 h3
    injection h1 with h1
    injection h1 with h1 _ _
    subst h1
    exact ⟨cur, hg, hh, rfl, hc, hm, by simpa using hs, by simpa using ht⟩
theorem OwnF.ofRow {α : Type} {f : α → Value} {E : TypeId} {w : World} {base g n c : Nat} {xs : List α} (cur : Array Value) (hg : base ≤ g) (hh : w.heap[g]? = some (.cells cur E (0, 0))) (hl : xs.length = n) (hc : n ≤ c) (hm : c ≤ maxLen) (hs : cur.size = c) (ht : cur.toList.take n = xs.map f) :
    OwnF f E w base (.slice (some ⟨g, 0, none⟩) n c) xs := by
  unfold OwnF
  rw [hl]
  exact ⟨by rw [List.length_map]; omega, .inr ⟨g, c, cur, rfl, hg, hh, hc, hm, by omega, by rw [Nat.mul_one]; exact ht⟩⟩

theorem heap_setRow {w : World} {g : Nat} {cs cur : Array Value} {E : TypeId} (h : w.heap[g]? = some (.cells cur E (0, 0))) : (w.setRow g cs).heap[g]? = some (.cells cs E (0, 0)) := by
  simp [World.setRow, Array.getElem?_modify, h]
theorem heap_setRow_other {w : World} {g k : Nat} {cs : Array Value} (h : k ≠ g) : (w.setRow g cs).heap[k]? = w.heap[k]? := by
  simp only [World.setRow, Array.getElem?_modify]
  rw [if_neg (by omega)]
theorem setRow_size {w : World} {g : Nat} {cs : Array Value} : (w.setRow g cs).heap.size = w.heap.size := by simp [World.setRow]

theorem step_del {α : Type} {f : α → Value} {P : Program} {ops : Array Oper} {o : Oper} {a : Act} {w : World} {K : Act → World → Prop} {Q : Exit → Act → World → Prop} {X : Prop}
    {T E : TypeId} {i0 : TypeInfo} (hT : P.underlying T = some (.slice E)) (hi : P.info? E = some i0) (hz1 : i0.size = 1)
    (hg : o.guard = none) (s x : Operand) (hop : o.op = Op.call { callee := Callee.builtin Builtin.append, args := #[s, x], argTypes := #[T, T] })
    (base g n c i m : Nat) (zs : List α) (A : Addr) (cx : Nat) (hone : ∀ e, (f e).oneCell' = true)
    (hown : OwnF f E w base (.slice (some ⟨g, 0, none⟩) n c) zs) (hn : i + 1 + m = n) (hA : 0 < m → A = ⟨g, i + 1, none⟩)
    (hs : a.eval s = .slice (some ⟨g, 0, none⟩) i c) (hx : a.eval x = .slice (some A) m cx)
    (hK : ∀ w', OwnF f E w' base (.slice (some ⟨g, 0, none⟩) (i + m) c) (zs.eraseIdx i) → w.grownBy w' (some g) → w'.heap.size = w.heap.size → K (a.put o.dst (.slice (some ⟨g, 0, none⟩) (i + m) c)) w') :
    if Region.wanted o (yielded ops a.tmps) = true then Oper.wp P o a w K Q else X := by
  have hw : Region.wanted o (yielded ops a.tmps) = true := by simp [Region.wanted, hg]
  rw [if_pos hw]
  obtain ⟨cur, hbg, hh, hl, hnc, hcm, hcs, ht⟩ := hown.row
  have hlen : (cur.toList.take n).length = n := by rw [List.length_take, Array.length_toList]; omega
  have hnews : ∀ j u, ((zs.drop (i + 1)).map f)[j]? = some u → w.cell? (A.add j) = some u := by
    intro j u hu
    have hj : j < m := by
      rcases Nat.lt_or_ge j m with h | h
      · exact h
      · rw [List.getElem?_eq_none (by rw [List.length_map, List.length_drop]; omega)] at hu; cases hu
    rw [hA (by omega)]
    have hcell := (OwnF.at_ hown (i + 1 + j) (by omega)).1
    have hadd : (⟨g, i + 1, none⟩ : Addr).add j = ⟨g, i + 1 + j, none⟩ := by
      unfold Addr.add
      by_cases h0 : j = 0 <;> simp [h0]
    rw [hadd, hcell]
    rw [List.getElem?_map, List.getElem?_drop] at hu
    exact hu
  have hrun := run_append_room (P := P) (w := w) T o.type E i0 hT hi g i c cur hh A m cx ((zs.drop (i + 1)).map f) (by rw [List.length_map, List.length_drop, hz1]; omega) hnews
    (fun u hu => by obtain ⟨e, _, rfl⟩ := List.mem_map.1 hu; exact hone e) (by omega) (by rw [List.length_map, List.length_drop, hz1]; omega)
  unfold Oper.wp execOp
  simp only [hop, resolve, invoke, builtin, Sem.run_bind, Sem.run_pure, Result.andThen_ok, List.map_toArray, List.map_cons, List.map_nil, hs, hx, hrun]
  refine hK _ ?_ ⟨rfl, rfl, rfl, by rw [setRow_size]; exact Nat.le_refl _, fun k hk hne => heap_setRow_other (fun e => hne (by rw [e]))⟩ setRow_size
  refine OwnF.ofRow _ hbg (heap_setRow hh) (by rw [List.length_eraseIdx, if_pos (by omega)]; omega) (by omega) hcm ?_ ?_
  · rw [hz1, List.size_toArray]
    simp only [List.length_append, List.length_take, List.length_drop, List.length_map, Array.length_toList]
    omega
  · rw [hz1, Nat.mul_one]
    have e1 : cur.toList.take i = (zs.map f).take i := by rw [← ht, List.take_take, Nat.min_eq_left (by omega)]
    rw [e1, ← List.map_take, ← List.map_append, List.take_append_of_le_length (by simp only [List.length_map, List.length_append, List.length_take, List.length_drop]; omega),
      List.take_of_length_le (by simp only [List.length_map, List.length_append, List.length_take, List.length_drop]; omega), List.eraseIdx_eq_take_drop_succ]

/-- the cells behind the elements, up to the capacity -/
theorem OwnF.tail {α : Type} {f : α → Value} {E : TypeId} {w : World} {base g n c : Nat} {xs : List α} (h : OwnF f E w base (.slice (some ⟨g, 0, none⟩) n c) xs) (k : Nat) (hk : k < c) :
    (∃ u, w.cell? ⟨g, k, none⟩ = some u) ∧ w.frozen? ⟨g, k, none⟩ = false := by
  obtain ⟨cur, hbg, hh, hl, hnc, hcm, hcs, ht⟩ := h.row
  refine ⟨⟨cur[k]'(by omega), ?_⟩, by simp [World.frozen?, hh]⟩
  rw [cell_of_row w g k cur E (0, 0) hh]
  simp [hcs, hk]
theorem OwnF.set_tail {α : Type} {f : α → Value} {E : TypeId} {w : World} {base g n c : Nat} {xs : List α} (h : OwnF f E w base (.slice (some ⟨g, 0, none⟩) n c) xs) (k : Nat) (hk : n ≤ k) (u : Value) :
    OwnF f E (w.setCell ⟨g, k, none⟩ u) base (.slice (some ⟨g, 0, none⟩) n c) xs := by
  obtain ⟨cur, hbg, hh, hl, hnc, hcm, hcs, ht⟩ := h.row
  refine OwnF.ofRow (cur.setIfInBounds k u) hbg (heap_setCell_same w g k cur E u hh) hl hnc hcm (by simpa using hcs) ?_
  rw [Array.toList_setIfInBounds, List.take_set_of_le hk, ht]

/-- 'clear' of one cell -/
theorem wp_clear1 {ops : Array Oper} {rest : List Oper} {o : Oper} {a : Act} {Q : Exit → Act → World → Prop} {P : Program} {T E : TypeId} {z : Value}
    (hT : P.underlying T = some (.slice E)) (hv : ∀ w, (zeroValue E).run P w = .ok z w) (hz : z.cells = #[z]) (h1 : z.oneCell' = true) (w : World) (hg : o.guard = none) (hd : o.dst = none) (x : Operand)
    (hop : o.op = Op.call { callee := Callee.builtin Builtin.clear, args := #[x], argTypes := #[T] }) (g k m c : Nat) (hm : m = 1) (hc : ∃ u, w.cell? ⟨g, k, none⟩ = some u) (hf : w.frozen? ⟨g, k, none⟩ = false)
    (hx : a.eval x = .slice (some ⟨g, k, none⟩) m c) (h : wpList P ops Q rest a (w.setCell ⟨g, k, none⟩ z)) : wpList P ops Q (o :: rest) a w :=
  wpList_plain hg fun K hK => by
    subst hm
    have hrun := Lib.run_clear_slice (P := P) w T E o.type z hT hv hz h1 g k 1 c (by omega) (fun j hj => by
      obtain rfl : j = 0 := by omega
      obtain ⟨u, hu⟩ := hc
      rw [Nat.add_zero, hu]; rfl) (fun j hj => by
      obtain rfl : j = 0 := by omega
      rw [Nat.add_zero]; exact hf)
    unfold Oper.wp execOp
    simp only [hop, resolve, invoke, builtin, Sem.run_bind, Sem.run_pure, Result.andThen_ok, List.map_toArray, List.map_cons, List.map_nil, hx, hrun]
    rw [show w.setCells g k (List.replicate 1 z) = w.setCell ⟨g, k, none⟩ z from by simp [World.setCells, List.replicate]]
    simp only [Oper.upon, hd, Act.put]
    exact hK _ _ h

theorem zero_int (w : World) : (zeroValue 3).run Try.prog w = .ok (.int .i64 0) w := by kernel_rfl

set_option maxHeartbeats 400000 in
theorem delete_any (g n c : Nat) (q : Int) (base : Nat) (zs : List Int) (w : World) (hn : n ≤ 1000000) (hq0 : 0 ≤ q) (hq1 : q < n) (hown0 : OwnI w base (.slice (some ⟨g, 0, none⟩) n c) zs) :
    Calls Try.prog 31 #[.slice (some ⟨g, 0, none⟩) n c, .int .i64 q, .int .i64 (q + 1)] w fun e w' =>
      e = .returned (.slice (some ⟨g, 0, none⟩) (n - 1) c) ∧ OwnI w' base (.slice (some ⟨g, 0, none⟩) (n - 1) c) (zs.eraseIdx q.toNat) ∧ w.grownBy w' (some g) ∧ w'.heap.size = w.heap.size := by
  obtain ⟨i, rfl⟩ := Int.eq_ofNat_of_zero_le hq0
  rw [Int.toNat_natCast]
  have hin : i < n := by omega
  clear hq0 hq1
  obtain ⟨i0, hi, hz0, hz1, hz2⟩ := info_parts info_int
  obtain ⟨_, hbg, _, hl, hnc, hcm, _⟩ := hown0.row
  have hown := Lib.hid hown0
  have Hl := Lib.hid hl
  clear hown0 hl
  unfold maxLen at hcm
  obtain ⟨A, hA, hA2⟩ : ∃ A : Addr, (if c = i + 1 then some (⟨g, 0, none⟩ : Addr) else some ⟨g, i + 1, none⟩) = some A ∧ Hid (0 < n - (i + 1) → A = ⟨g, i + 1, none⟩) := by
    by_cases h : c = i + 1
    · exact ⟨_, by rw [if_pos h], Lib.hid (fun h0 => by omega)⟩
    · exact ⟨_, by rw [if_neg h], Lib.hid (fun h0 => rfl)⟩
  have hp2 : ((i : Int) + 1).toNat = i + 1 := by omega
  have hne : ((i : Int) == (i : Int) + 1) = false := by rw [beq_eq_false_iff_ne]; omega
  have hic : i ≤ c := by omega
  have hp0 : (0 : Int) ≤ (i : Int) + 1 := by omega
  have hp1 : (i : Int) + 1 ≤ (n : Int) := by omega
  have hnn : i + (n - (i + 1)) = n - 1 := by omega
  have Hnn := Lib.hid hnn
  clear hnn
  go_enter Try.func31, Try.ntmps31
  go_wp2_with fail
  go_region_law ((refine step_del (f := Value.int .i64) Try.underlying22 hi hz1 rfl (.tmp 22) (.tmp 25) rfl base g n c i (n - (i + 1)) zs A (c - (i + 1)) (fun _ => rfl) hown.out (by omega) hA2.out (by simp [Act.eval, Act.put]) (by simp [Act.eval, Act.put]) ?_); intro w1 hown1 hb1 hs1)
  rw [Hnn.out] at *
  have hn1 : n - 1 < c := by omega
  have htl := OwnF.tail hown1 (n - 1) hn1
  have HS := Lib.hid hs1
  clear hs1
  go_wp2_with (with_reducible refine wp_clear1 Try.underlying22 zero_int rfl rfl _ rfl rfl _ rfl g (n - 1) _ _ ?hm htl.1 htl.2 rfl ?_)
  case hm => omega
  go_ret
  refine ⟨rfl, OwnF.set_tail hown1 (n - 1) (Nat.le_refl _) _, ?_, ?_⟩
  · refine ⟨hb1.os, hb1.tape, hb1.output, by simpa [World.setCell] using hb1.size, fun k hk hne => ?_⟩
    rw [Below.heap_setCell _ _ _ _ (fun e => hne (by rw [e]))]
    exact hb1.block k hk hne
  · simp [World.setCell]
    exact HS.out
end Go.Proofs.Ytfnhknbofllhcaa
