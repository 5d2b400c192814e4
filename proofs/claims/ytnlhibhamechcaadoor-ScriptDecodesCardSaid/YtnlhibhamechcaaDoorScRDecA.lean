/- The document's Decode: the numbers of a step, an append inside a region. -/
import Derived.Test.YtnlhibhamechcaaDoorScDec
import Derived.Deep.AppendLies
import Derived.Deep.RegionLaw
import Derived.Deep.RegionHeld3
namespace Go.Proofs.YtnlhibhamechcaaDoor
open Go.RowKit Go.Sort
set_option linter.unusedSimpArgs false
set_option linter.unusedVariables false

theorem info_rstp : (Tryd.prog.info? 32).map (fun i => (i.zero, i.size, i.bytes)) = some (some (.agg Stp.nil.cells.toArray), 8, 48) := by kernel_rfl
/-- the eight numbers, so many of them taken -/
def xsAt (bs : List Nat) (a i : Nat) : List Int := (List.range 8).map fun j => if j < i then ((bs[a + j]?.getD 0 : Nat) : Int) else 0
theorem xsAt_len (bs : List Nat) (a i : Nat) : (xsAt bs a i).length = 8 := by simp [xsAt]
theorem xsAt_zero (bs : List Nat) (a : Nat) : xsAt bs a 0 = List.replicate 8 0 := by simp [xsAt]; rfl
theorem xsAt_step (bs : List Nat) (a i : Nat) : (xsAt bs a i).set i ((bs[a + i]?.getD 0 : Nat) : Int) = xsAt bs a (i + 1) := by
  apply List.ext_getElem?
  intro k
  rw [List.getElem?_set, xsAt_len]
  unfold xsAt
  simp only [List.getElem?_map]
  rcases Nat.lt_or_ge k 8 with hk | hk
  · rw [List.getElem?_range hk]
    by_cases h : i = k
    · subst h
      rw [if_pos rfl, if_pos hk]
      simp
    · rw [if_neg h]
      simp only [Option.map_some]
      congr 1
      by_cases h2 : k < i
      · rw [if_pos h2, if_pos (by omega)]
      · rw [if_neg h2, if_neg (by omega)]
  · have e0 : (List.range 8)[k]? = none := List.getElem?_eq_none (by simpa using hk)
    rw [e0]
    by_cases h : i = k
    · rw [if_pos h, if_neg (by omega)]; rfl
    · rw [if_neg h]; rfl
theorem xsAt_more (bs : List Nat) (a i : Nat) (h : bs.length ≤ a + i) : xsAt bs a i = xsAt bs a 8 := by
  unfold xsAt
  apply List.map_congr_left
  intro j hj
  have hj := List.mem_range.1 hj
  rw [if_pos hj]
  by_cases h2 : j < i
  · rw [if_pos h2]
  · rw [if_neg h2, List.getElem?_eq_none (by omega)]
    rfl
theorem xsAt_get (bs : List Nat) (a j : Nat) (h : j < 8) : (xsAt bs a 8)[j]? = some ((bs[a + j]?.getD 0 : Nat) : Int) := by
  unfold xsAt
  rw [List.getElem?_map, List.getElem?_range h]
  simp [h]
theorem step_drop (bs : List Nat) (a : Nat) : stepOf (bs.drop a) = step8 (bs[a]?.getD 0) (bs[a + 1]?.getD 0) (bs[a + 2]?.getD 0) (bs[a + 3]?.getD 0) (bs[a + 4]?.getD 0) (bs[a + 5]?.getD 0) (bs[a + 6]?.getD 0) (bs[a + 7]?.getD 0) := by
  unfold stepOf step8
  simp [List.getElem?_drop]
theorem stp_lits (X0 X1 X2 X3 X4 X5 X6 X7 : Nat) (h6 : X6 ≤ 255) (h7 : X7 ≤ 255) : ([.int .u8 (IntKind.u8.wrap ((X0 : Int).tmod 30)), .int .u8 (IntKind.u8.wrap ((X1 : Int).tmod 7)), .int .i64 ((X2 : Int).tmod 32), .int .i64 ((X3 : Int).tmod 32), .int .i64 ((X4 : Int).tmod 32), .int .i64 ((X5 : Int).tmod 24), .int .u16 (IntKind.u16.wrap (IntKind.i64.wrap ((X6 : Int) + IntKind.i64.wrap (256 * (X7 : Int))))), .bool ((X7 : Int).tmod 2 == 1)] : List Value) = (step8 X0 X1 X2 X3 X4 X5 X6 X7).cells := by
  have e0 : IntKind.u8.wrap ((X0 : Int).tmod 30) = ((X0 % 30 : Nat) : Int) := by rw [Int.tmod_eq_emod_of_nonneg (by omega)]; simp [IntKind.wrap, IntKind.signed, IntKind.bits]; omega
  have e1 : IntKind.u8.wrap ((X1 : Int).tmod 7) = ((X1 % 7 : Nat) : Int) := by rw [Int.tmod_eq_emod_of_nonneg (by omega)]; simp [IntKind.wrap, IntKind.signed, IntKind.bits]; omega
  have e2 : (X2 : Int).tmod 32 = ((X2 % 32 : Nat) : Int) := by rw [Int.tmod_eq_emod_of_nonneg (by omega)]; omega
  have e3 : (X3 : Int).tmod 32 = ((X3 % 32 : Nat) : Int) := by rw [Int.tmod_eq_emod_of_nonneg (by omega)]; omega
  have e4 : (X4 : Int).tmod 32 = ((X4 % 32 : Nat) : Int) := by rw [Int.tmod_eq_emod_of_nonneg (by omega)]; omega
  have e5 : (X5 : Int).tmod 24 = ((X5 % 24 : Nat) : Int) := by rw [Int.tmod_eq_emod_of_nonneg (by omega)]; omega
  have e6 : IntKind.i64.wrap (256 * (X7 : Int)) = ((256 * X7 : Nat) : Int) := by rw [IntWalk.i64_in _ (by omega)]; omega
  have e7 : IntKind.i64.wrap ((X6 : Int) + ((256 * X7 : Nat) : Int)) = ((X6 + 256 * X7 : Nat) : Int) := by rw [IntWalk.i64_in _ (by omega)]; omega
  have e8 : IntKind.u16.wrap ((X6 + 256 * X7 : Nat) : Int) = ((X6 + 256 * X7 : Nat) : Int) := wraps_u16 _ (by omega) (by omega)
  have e9 : ((X7 : Int).tmod 2 == 1) = (X7 % 2 == 1) := by
    rw [Int.tmod_eq_emod_of_nonneg (by omega)]
    rcases Nat.mod_two_eq_zero_or_one X7 with h | h
    · have : (X7 : Int) % 2 = 0 := by omega
      rw [h, this]; rfl
    · have : (X7 : Int) % 2 = 1 := by omega
      rw [h, this]; rfl
  rw [e0, e1, e2, e3, e4, e5, e6, e7, e8, e9]
  rfl
section
variable {ops : Array Oper} {o : Oper} {a : Act} {K : Act → World → Prop} {Q : Exit → Act → World → Prop} {E : Prop}
/-- one step is appended, inside a region that draws its order -/
theorem step_stp (W W1 : World) {v : Value} {done : List Stp} {base : Nat} (hown : OwnS 8 Stp.cells 32 W base v done) (s : Stp) (cs : Array Value) (hcs : cs.toList = s.cells) (hW1 : W1 = (W.alloc (.cells cs 32)).drew)
    (hbase : base ≤ W.heap.size) (hlen : done.length ≤ 1000000) (hgd : o.guard = none) (sl x : Operand) (hop : o.op = .call { callee := .builtin .append, args := #[sl, x], argTypes := #[26, 26] })
    (hs : a.eval sl = v) (hx : a.eval x = .slice (some ⟨W.heap.size, 0, none⟩) 1 1)
    (h : ∀ v' w', OwnS 8 Stp.cells 32 w' base v' (done ++ [s]) → Below base W w' → (∀ k, k < W.heap.size → some k ≠ v.ownBlock → w'.heap[k]? = W.heap[k]?) → K (a.put o.dst v') w') :
    if Region.wanted o (yielded ops a.tmps) = true then Oper.wp Tryd.prog o a W1 K Q else E := by
  obtain ⟨i0, hi, hz0, hz1, hz2⟩ := info_parts info_rstp
  subst hW1
  refine step_append_lies _ hgd sl x 26 hop base 32 i0 _ 8 48 Tryd.underlying26 hi hz0 hz1 hz2 rfl (by decide) v done.length (done.flatMap Stp.cells) hs (OwnS.drew (OwnS.alloc hown _)) ⟨W.heap.size, 0, none⟩ 1 1 cs.toList hx (by rw [hcs]; rfl) (World.news_of_block (w := (World.alloc W _).drew) (heap_alloc_new W _)) (by rw [hcs]; exact stp_one s) (by decide) (by unfold maxLen; omega) (by omega) (by simp [World.drew]; omega) _ rfl ?_
  intro g cap w' hown' hgr hat hlt
  refine h _ w' ?_ ?_ (fun k hk hne => (hgr.block k (by simp [World.drew]; omega) (fun e => hne e)).trans (Below.heap_alloc W _ k hk))
  · unfold OwnS
    rw [hcs] at hown'
    simpa using hown'
  · exact ((Below.refl _ _).alloc hbase _).drew.grown hgr (by simp [World.drew]; omega) (fun k hk => (hown.lt k hk).1)
end
end Go.Proofs.YtnlhibhamechcaaDoor
