/- Contracts: the text of a step, the program's and the document's. -/
import Derived.Test.YtnlhibhamechcaaGreatDoorScP
import Derived.Test.YtnlhibhamechcaaGreatDoorMa
namespace Go.Proofs.YtnlhibhamechcaaGreatDoor
open Go.RowKit Go.Sort
set_option linter.unusedSimpArgs false
set_option linter.unusedVariables false

theorem kind_cell (W : World) (T : TypeId) (i : Nat) (hi : i < 30) : (W.alloc (.cells (kindL.map fun l => Value.string ⟨l.toArray⟩).toArray T)).cell? ⟨W.heap.size, i, none⟩ = some (txt (nameOf (i : Nat))) := by
  rw [World.cell?_alloc_new]
  have h : i < kindL.length := by rw [kind_len]; exact hi
  unfold nameOf txt
  simp [h]
theorem kind_lits : (kindL.map fun l => Value.string ⟨l.toArray⟩).toArray = #[Value.string { data := #[99, 111, 110, 115, 116] }, Value.string { data := #[118, 97, 114] }, Value.string { data := #[99, 117, 98, 101] }, Value.string { data := #[111, 102] }, Value.string { data := #[101, 120, 112, 114] }, Value.string { data := #[99, 111, 112, 121] }, Value.string { data := #[99, 111, 110, 118, 101, 114, 116] }, Value.string { data := #[110, 111, 116] }, Value.string { data := #[97, 112, 112, 108, 121] }, Value.string { data := #[105, 116, 101] }, Value.string { data := #[119, 105, 116, 104] }, Value.string { data := #[99, 111, 109, 112, 111, 115, 101] }, Value.string { data := #[101, 120, 105, 115, 116, 115] }, Value.string { data := #[102, 111, 114, 97, 108, 108] }, Value.string { data := #[97, 110, 100, 101, 120, 105, 115, 116, 115] }, Value.string { data := #[99, 104, 97, 110, 103, 101] }, Value.string { data := #[102, 97, 109, 105, 108, 121] }, Value.string { data := #[100, 114, 111, 112] }, Value.string { data := #[115, 119, 97, 112] }, Value.string { data := #[112, 101, 114, 109, 117, 116, 101] }, Value.string { data := #[115, 105, 102, 116] }, Value.string { data := #[99, 111, 108, 108, 101, 99, 116] }, Value.string { data := #[102, 111, 114, 109] }, Value.string { data := #[99, 111, 117, 110, 116] }, Value.string { data := #[115, 105, 122, 101] }, Value.string { data := #[115, 117, 112, 112, 111, 114, 116] }, Value.string { data := #[104, 111, 108, 100, 115] }, Value.string { data := #[115, 97, 109, 101] }, Value.string { data := #[101, 113, 117, 97, 108] }, Value.string { data := #[114, 101, 110, 101, 119] }] := by kernel_rfl
theorem kind_get (i : Nat) (hi : i < 30) (h : i < ([Value.string { data := #[99, 111, 110, 115, 116] }, Value.string { data := #[118, 97, 114] }, Value.string { data := #[99, 117, 98, 101] }, Value.string { data := #[111, 102] }, Value.string { data := #[101, 120, 112, 114] }, Value.string { data := #[99, 111, 112, 121] }, Value.string { data := #[99, 111, 110, 118, 101, 114, 116] }, Value.string { data := #[110, 111, 116] }, Value.string { data := #[97, 112, 112, 108, 121] }, Value.string { data := #[105, 116, 101] }, Value.string { data := #[119, 105, 116, 104] }, Value.string { data := #[99, 111, 109, 112, 111, 115, 101] }, Value.string { data := #[101, 120, 105, 115, 116, 115] }, Value.string { data := #[102, 111, 114, 97, 108, 108] }, Value.string { data := #[97, 110, 100, 101, 120, 105, 115, 116, 115] }, Value.string { data := #[99, 104, 97, 110, 103, 101] }, Value.string { data := #[102, 97, 109, 105, 108, 121] }, Value.string { data := #[100, 114, 111, 112] }, Value.string { data := #[115, 119, 97, 112] }, Value.string { data := #[112, 101, 114, 109, 117, 116, 101] }, Value.string { data := #[115, 105, 102, 116] }, Value.string { data := #[99, 111, 108, 108, 101, 99, 116] }, Value.string { data := #[102, 111, 114, 109] }, Value.string { data := #[99, 111, 117, 110, 116] }, Value.string { data := #[115, 105, 122, 101] }, Value.string { data := #[115, 117, 112, 112, 111, 114, 116] }, Value.string { data := #[104, 111, 108, 100, 115] }, Value.string { data := #[115, 97, 109, 101] }, Value.string { data := #[101, 113, 117, 97, 108] }, Value.string { data := #[114, 101, 110, 101, 119] }] : List Value).length) : ([Value.string { data := #[99, 111, 110, 115, 116] }, Value.string { data := #[118, 97, 114] }, Value.string { data := #[99, 117, 98, 101] }, Value.string { data := #[111, 102] }, Value.string { data := #[101, 120, 112, 114] }, Value.string { data := #[99, 111, 112, 121] }, Value.string { data := #[99, 111, 110, 118, 101, 114, 116] }, Value.string { data := #[110, 111, 116] }, Value.string { data := #[97, 112, 112, 108, 121] }, Value.string { data := #[105, 116, 101] }, Value.string { data := #[119, 105, 116, 104] }, Value.string { data := #[99, 111, 109, 112, 111, 115, 101] }, Value.string { data := #[101, 120, 105, 115, 116, 115] }, Value.string { data := #[102, 111, 114, 97, 108, 108] }, Value.string { data := #[97, 110, 100, 101, 120, 105, 115, 116, 115] }, Value.string { data := #[99, 104, 97, 110, 103, 101] }, Value.string { data := #[102, 97, 109, 105, 108, 121] }, Value.string { data := #[100, 114, 111, 112] }, Value.string { data := #[115, 119, 97, 112] }, Value.string { data := #[112, 101, 114, 109, 117, 116, 101] }, Value.string { data := #[115, 105, 102, 116] }, Value.string { data := #[99, 111, 108, 108, 101, 99, 116] }, Value.string { data := #[102, 111, 114, 109] }, Value.string { data := #[99, 111, 117, 110, 116] }, Value.string { data := #[115, 105, 122, 101] }, Value.string { data := #[115, 117, 112, 112, 111, 114, 116] }, Value.string { data := #[104, 111, 108, 100, 115] }, Value.string { data := #[115, 97, 109, 101] }, Value.string { data := #[101, 113, 117, 97, 108] }, Value.string { data := #[114, 101, 110, 101, 119] }] : List Value)[i]'h = txt (nameOf (i : Nat)) := by
  have e : kindL.map (fun l => Value.string ⟨l.toArray⟩) = [Value.string { data := #[99, 111, 110, 115, 116] }, Value.string { data := #[118, 97, 114] }, Value.string { data := #[99, 117, 98, 101] }, Value.string { data := #[111, 102] }, Value.string { data := #[101, 120, 112, 114] }, Value.string { data := #[99, 111, 112, 121] }, Value.string { data := #[99, 111, 110, 118, 101, 114, 116] }, Value.string { data := #[110, 111, 116] }, Value.string { data := #[97, 112, 112, 108, 121] }, Value.string { data := #[105, 116, 101] }, Value.string { data := #[119, 105, 116, 104] }, Value.string { data := #[99, 111, 109, 112, 111, 115, 101] }, Value.string { data := #[101, 120, 105, 115, 116, 115] }, Value.string { data := #[102, 111, 114, 97, 108, 108] }, Value.string { data := #[97, 110, 100, 101, 120, 105, 115, 116, 115] }, Value.string { data := #[99, 104, 97, 110, 103, 101] }, Value.string { data := #[102, 97, 109, 105, 108, 121] }, Value.string { data := #[100, 114, 111, 112] }, Value.string { data := #[115, 119, 97, 112] }, Value.string { data := #[112, 101, 114, 109, 117, 116, 101] }, Value.string { data := #[115, 105, 102, 116] }, Value.string { data := #[99, 111, 108, 108, 101, 99, 116] }, Value.string { data := #[102, 111, 114, 109] }, Value.string { data := #[99, 111, 117, 110, 116] }, Value.string { data := #[115, 105, 122, 101] }, Value.string { data := #[115, 117, 112, 112, 111, 114, 116] }, Value.string { data := #[104, 111, 108, 100, 115] }, Value.string { data := #[115, 97, 109, 101] }, Value.string { data := #[101, 113, 117, 97, 108] }, Value.string { data := #[114, 101, 110, 101, 119] }] := by kernel_rfl
  have h2 : ([Value.string { data := #[99, 111, 110, 115, 116] }, Value.string { data := #[118, 97, 114] }, Value.string { data := #[99, 117, 98, 101] }, Value.string { data := #[111, 102] }, Value.string { data := #[101, 120, 112, 114] }, Value.string { data := #[99, 111, 112, 121] }, Value.string { data := #[99, 111, 110, 118, 101, 114, 116] }, Value.string { data := #[110, 111, 116] }, Value.string { data := #[97, 112, 112, 108, 121] }, Value.string { data := #[105, 116, 101] }, Value.string { data := #[119, 105, 116, 104] }, Value.string { data := #[99, 111, 109, 112, 111, 115, 101] }, Value.string { data := #[101, 120, 105, 115, 116, 115] }, Value.string { data := #[102, 111, 114, 97, 108, 108] }, Value.string { data := #[97, 110, 100, 101, 120, 105, 115, 116, 115] }, Value.string { data := #[99, 104, 97, 110, 103, 101] }, Value.string { data := #[102, 97, 109, 105, 108, 121] }, Value.string { data := #[100, 114, 111, 112] }, Value.string { data := #[115, 119, 97, 112] }, Value.string { data := #[112, 101, 114, 109, 117, 116, 101] }, Value.string { data := #[115, 105, 102, 116] }, Value.string { data := #[99, 111, 108, 108, 101, 99, 116] }, Value.string { data := #[102, 111, 114, 109] }, Value.string { data := #[99, 111, 117, 110, 116] }, Value.string { data := #[115, 105, 122, 101] }, Value.string { data := #[115, 117, 112, 112, 111, 114, 116] }, Value.string { data := #[104, 111, 108, 100, 115] }, Value.string { data := #[115, 97, 109, 101] }, Value.string { data := #[101, 113, 117, 97, 108] }, Value.string { data := #[114, 101, 110, 101, 119] }] : List Value)[i]? = some (txt (nameOf (i : Nat))) := by
    rw [← e]
    have h : i < kindL.length := by rw [kind_len]; exact hi
    unfold nameOf txt
    simp [h]
  rw [List.getElem?_eq_getElem h] at h2
  exact Option.some.inj h2
theorem name_len (i : Int) : (nameOf i).length ≤ 9 := by
  unfold nameOf
  rcases Nat.lt_or_ge i.toNat kindL.length with h | h
  · rw [List.getElem?_eq_getElem h, Option.getD_some]
    have h9 : ∀ l ∈ kindL, l.length ≤ 9 := by decide +kernel
    exact h9 _ (List.getElem_mem h)
  · rw [List.getElem?_eq_none h]
    decide
theorem name_none (i : Int) (h : 30 ≤ i) : nameOf i = [110, 111, 110, 101] := by
  unfold nameOf
  rw [List.getElem?_eq_none (by rw [kind_len]; omega)]
  rfl
theorem nine_wf (s : Stp) (h : s.Wf) : ∀ n ∈ s.nums, (Lit.int .i64 n).wf = true := by
  obtain ⟨h1, h2, h3, h4, h5, h6, h7⟩ := h
  intro n hn
  have sm : ∀ x : Int, 0 ≤ x ∧ x ≤ 65535 → (Lit.int .i64 x).wf = true := fun x hx => by
    simp [Lit.wf, IntKind.min, IntKind.max, IntKind.signed, IntKind.bits]
    omega
  simp only [Stp.nums, List.mem_cons, List.not_mem_nil, or_false] at hn
  rcases hn with rfl | rfl | rfl | rfl | rfl | rfl | rfl
  · exact sm _ ⟨h2.1, by omega⟩
  · exact h3
  · exact h4
  · exact h5
  · exact h6
  · exact sm _ h7
  · split <;> exact sm _ (by omega)
theorem rtext_bytes (n a b c d e f : List UInt8) (g : List UInt8) :
    ((⟨n.toArray⟩ : ByteArray) ++ ⟨#[32]⟩ ++ ⟨a.toArray⟩ ++ ⟨#[32]⟩ ++ ⟨b.toArray⟩ ++ ⟨#[32]⟩ ++ ⟨c.toArray⟩ ++ ⟨#[32]⟩ ++ ⟨d.toArray⟩ ++ ⟨#[32]⟩ ++ ⟨e.toArray⟩ ++ ⟨#[32]⟩ ++ ⟨f.toArray⟩ ++ ⟨g.toArray⟩) = ⟨(n ++ 32 :: (a ++ 32 :: (b ++ 32 :: (c ++ 32 :: (d ++ 32 :: (e ++ 32 :: (f ++ g))))))).toArray⟩ := by
  apply ByteArray.ext
  simp [ByteArray.data_append]
theorem text_eq (k f a b c v kk : Int) (one : Bool) : (⟨k, f, a, b, c, v, kk, one⟩ : Stp).text = nameOf k ++ 32 :: (Lib.itoa f ++ 32 :: (Lib.itoa a ++ 32 :: (Lib.itoa b ++ 32 :: (Lib.itoa c ++ 32 :: (Lib.itoa v ++ 32 :: (Lib.itoa kk ++ (if one then [32, 49] else [32, 48]))))))) := by
  have h1 : Lib.itoa 1 = [49] := by decide +kernel
  have h0 : Lib.itoa 0 = [48] := by decide +kernel
  cases one <;> simp [Stp.text, Stp.nums, tailOf, h0, h1]
set_option maxRecDepth 100000 in
set_option maxHeartbeats 8000000 in
theorem rtext_any (s : Stp) (hs : s.Wf) (w : World) :
    Calls Tryz.prog 11 #[.agg s.cells.toArray] w fun e w' => e = .returned (txt s.text) ∧ Below w.heap.size w w' := by
  obtain ⟨k, f, a, b, c, v, kk, one⟩ := s
  have hwf := nine_wf _ hs
  simp only [Stp.nums, List.mem_cons, List.not_mem_nil, or_false, forall_eq_or_imp, forall_eq] at hwf
  obtain ⟨q1, q2, q3, q4, q5, q6, -⟩ := hwf
  obtain ⟨hk, hf, ha, hb, hc, hv, hkk⟩ := hs
  simp only at hk hf ha hb hc hv hkk
  obtain ⟨kn, rfl⟩ := Int.eq_ofNat_of_zero_le hk.1
  rw [text_eq]
  simp only [Stp.cells]
  obtain ⟨W, hW⟩ : ∃ W, W = (w.alloc (.cells #[.int .u8 (kn : Nat), .int .u8 f, .int .i64 a, .int .i64 b, .int .i64 c, .int .i64 v, .int .u16 kk, .bool one] 24)).alloc (.cells #[Value.string { data := #[99, 111, 110, 115, 116] }, Value.string { data := #[118, 97, 114] }, Value.string { data := #[99, 117, 98, 101] }, Value.string { data := #[111, 102] }, Value.string { data := #[101, 120, 112, 114] }, Value.string { data := #[99, 111, 112, 121] }, Value.string { data := #[99, 111, 110, 118, 101, 114, 116] }, Value.string { data := #[110, 111, 116] }, Value.string { data := #[97, 112, 112, 108, 121] }, Value.string { data := #[105, 116, 101] }, Value.string { data := #[119, 105, 116, 104] }, Value.string { data := #[99, 111, 109, 112, 111, 115, 101] }, Value.string { data := #[101, 120, 105, 115, 116, 115] }, Value.string { data := #[102, 111, 114, 97, 108, 108] }, Value.string { data := #[97, 110, 100, 101, 120, 105, 115, 116, 115] }, Value.string { data := #[99, 104, 97, 110, 103, 101] }, Value.string { data := #[102, 97, 109, 105, 108, 121] }, Value.string { data := #[100, 114, 111, 112] }, Value.string { data := #[115, 119, 97, 112] }, Value.string { data := #[112, 101, 114, 109, 117, 116, 101] }, Value.string { data := #[115, 105, 102, 116] }, Value.string { data := #[99, 111, 108, 108, 101, 99, 116] }, Value.string { data := #[102, 111, 114, 109] }, Value.string { data := #[99, 111, 117, 110, 116] }, Value.string { data := #[115, 105, 122, 101] }, Value.string { data := #[115, 117, 112, 112, 111, 114, 116] }, Value.string { data := #[104, 111, 108, 100, 115] }, Value.string { data := #[115, 97, 109, 101] }, Value.string { data := #[101, 113, 117, 97, 108] }, Value.string { data := #[114, 101, 110, 101, 119] }] 9) := ⟨_, rfl⟩
  have hbW : Below w.heap.size w W := by rw [hW]; exact ((Below.refl _ _).alloc (Nat.le_refl _) _).alloc (by simp) _
  have hBW : Blk W w.heap.size 24 #[.int .u8 (kn : Nat), .int .u8 f, .int .i64 a, .int .i64 b, .int .i64 c, .int .i64 v, .int .u16 kk, .bool one] := by rw [hW]; exact (Blk.new w _ _).alloc _
  have hNM := kind_get kn
  have hnn := name_none (kn : Nat)
  have c1 := regrown_calls (W := W) (fun W' hW' => (snum_any f q1 W').mono fun _ _ ⟨he, hb⟩ => ⟨he, hW'.trans (hb.mono hW'.size)⟩)
  have c2 := regrown_calls (W := W) (fun W' hW' => (snum_any a q2 W').mono fun _ _ ⟨he, hb⟩ => ⟨he, hW'.trans (hb.mono hW'.size)⟩)
  have c3 := regrown_calls (W := W) (fun W' hW' => (snum_any b q3 W').mono fun _ _ ⟨he, hb⟩ => ⟨he, hW'.trans (hb.mono hW'.size)⟩)
  have c4 := regrown_calls (W := W) (fun W' hW' => (snum_any c q4 W').mono fun _ _ ⟨he, hb⟩ => ⟨he, hW'.trans (hb.mono hW'.size)⟩)
  have c5 := regrown_calls (W := W) (fun W' hW' => (snum_any v q5 W').mono fun _ _ ⟨he, hb⟩ => ⟨he, hW'.trans (hb.mono hW'.size)⟩)
  have c6 := regrown_calls (W := W) (fun W' hW' => (snum_any kk q6 W').mono fun _ _ ⟨he, hb⟩ => ⟨he, hW'.trans (hb.mono hW'.size)⟩)
  have l0 := name_len (kn : Nat)
  have l1 := itoa_len f q1
  have l2 := itoa_len a q2
  have l3 := itoa_len b q3
  have l4 := itoa_len c q4
  have l5 := itoa_len v q5
  have l6 := itoa_len kk q6
  generalize nameOf (kn : Nat) = x0 at *
  generalize Lib.itoa f = x1 at *
  generalize Lib.itoa a = x2 at *
  generalize Lib.itoa b = x3 at *
  generalize Lib.itoa c = x4 at *
  generalize Lib.itoa v = x5 at *
  generalize Lib.itoa kk = x6 at *
  unfold txt at c1 c2 c3 c4 c5 c6 hNM
  have HWW := Lib.hid hW
  have HbW := Lib.hid hbW
  have HBW := Lib.hid hBW
  have HNM := Lib.hid hNM
  have HNN := Lib.hid hnn
  have C := Lib.hid (And.intro c1 (And.intro c2 (And.intro c3 (And.intro c4 (And.intro c5 c6)))))
  clear c1 c2 c3 c4 c5 c6 q1 q2 q3 q4 q5 q6 hbW hBW hNM hnn ha hb hc hv
  by_cases hk30 : kn < 30
  all_goals
    go_enter Tryz.func11, Tryz.ntmps11
    go_wp2_with fail
  · simp only [HNM.out hk30]
    rw [← HWW.out]
    clear hW
    obtain ⟨c1, c2, c3, c4, c5, c6⟩ := C.out
    have j0 : ∀ d os, (grow (redrawn W d) os).cell? ⟨w.heap.size, 0, none⟩ = some (.int .u8 (kn : Nat)) := fun d os => cell_regrown (HBW.out.cell 0) d os
    have j1 : ∀ d os, (grow (redrawn W d) os).cell? ⟨w.heap.size, 1, none⟩ = some (.int .u8 f) := fun d os => cell_regrown (HBW.out.cell 1) d os
    have j2 : ∀ d os, (grow (redrawn W d) os).cell? ⟨w.heap.size, 2, none⟩ = some (.int .i64 a) := fun d os => cell_regrown (HBW.out.cell 2) d os
    have j3 : ∀ d os, (grow (redrawn W d) os).cell? ⟨w.heap.size, 3, none⟩ = some (.int .i64 b) := fun d os => cell_regrown (HBW.out.cell 3) d os
    have j4 : ∀ d os, (grow (redrawn W d) os).cell? ⟨w.heap.size, 4, none⟩ = some (.int .i64 c) := fun d os => cell_regrown (HBW.out.cell 4) d os
    have j5 : ∀ d os, (grow (redrawn W d) os).cell? ⟨w.heap.size, 5, none⟩ = some (.int .i64 v) := fun d os => cell_regrown (HBW.out.cell 5) d os
    have j6 : ∀ d os, (grow (redrawn W d) os).cell? ⟨w.heap.size, 6, none⟩ = some (.int .u16 kk) := fun d os => cell_regrown (HBW.out.cell 6) d os
    have j7 : ∀ d os, (grow (redrawn W d) os).cell? ⟨w.heap.size, 7, none⟩ = some (.bool one) := fun d os => cell_regrown (HBW.out.cell 7) d os
    refine wp_region_quiet_below (by kernel_rfl) (by kernel_rfl) ?_
    repeat (first | go_big_quiet_step (first | with_reducible exact c1 _ _ | with_reducible exact c2 _ _ | with_reducible exact c3 _ _ | with_reducible exact c4 _ _ | with_reducible exact c5 _ _ | with_reducible exact c6 _ _ | fail) | quiet_step (first | with_reducible exact c1 _ _ | with_reducible exact c2 _ _ | with_reducible exact c3 _ _ | with_reducible exact c4 _ _ | with_reducible exact c5 _ _ | with_reducible exact c6 _ _ | fail))
    refine wpQuiet_nil ?_
    intro w2 hw'
    have hbel2 : Below W.heap.size W w2 := regrown_below hw'
    have k7 := (HBW.out.onB hbel2).cell 7
    clear hw' j0 j1 j2 j3 j4 j5 j6 j7 c1 c2 c3 c4 c5 c6
    cases one
    · go_wp2_with fail
      go_ret
      refine ⟨?_, HbW.out.trans (hbel2.mono HbW.out.size)⟩
      exact congrArg (fun z => Ending.returned (.string z)) (rtext_bytes x0 x1 x2 x3 x4 x5 x6 [32, 48])
    · go_wp2_with fail
      go_ret
      refine ⟨?_, HbW.out.trans (hbel2.mono HbW.out.size)⟩
      exact congrArg (fun z => Ending.returned (.string z)) (rtext_bytes x0 x1 x2 x3 x4 x5 x6 [32, 49])
  · obtain rfl := HNN.out (by omega)
    rw [← HWW.out]
    clear hW
    obtain ⟨c1, c2, c3, c4, c5, c6⟩ := C.out
    have j0 : ∀ d os, (grow (redrawn W d) os).cell? ⟨w.heap.size, 0, none⟩ = some (.int .u8 (kn : Nat)) := fun d os => cell_regrown (HBW.out.cell 0) d os
    have j1 : ∀ d os, (grow (redrawn W d) os).cell? ⟨w.heap.size, 1, none⟩ = some (.int .u8 f) := fun d os => cell_regrown (HBW.out.cell 1) d os
    have j2 : ∀ d os, (grow (redrawn W d) os).cell? ⟨w.heap.size, 2, none⟩ = some (.int .i64 a) := fun d os => cell_regrown (HBW.out.cell 2) d os
    have j3 : ∀ d os, (grow (redrawn W d) os).cell? ⟨w.heap.size, 3, none⟩ = some (.int .i64 b) := fun d os => cell_regrown (HBW.out.cell 3) d os
    have j4 : ∀ d os, (grow (redrawn W d) os).cell? ⟨w.heap.size, 4, none⟩ = some (.int .i64 c) := fun d os => cell_regrown (HBW.out.cell 4) d os
    have j5 : ∀ d os, (grow (redrawn W d) os).cell? ⟨w.heap.size, 5, none⟩ = some (.int .i64 v) := fun d os => cell_regrown (HBW.out.cell 5) d os
    have j6 : ∀ d os, (grow (redrawn W d) os).cell? ⟨w.heap.size, 6, none⟩ = some (.int .u16 kk) := fun d os => cell_regrown (HBW.out.cell 6) d os
    have j7 : ∀ d os, (grow (redrawn W d) os).cell? ⟨w.heap.size, 7, none⟩ = some (.bool one) := fun d os => cell_regrown (HBW.out.cell 7) d os
    refine wp_region_quiet_below (by kernel_rfl) (by kernel_rfl) ?_
    repeat (first | go_big_quiet_step (first | with_reducible exact c1 _ _ | with_reducible exact c2 _ _ | with_reducible exact c3 _ _ | with_reducible exact c4 _ _ | with_reducible exact c5 _ _ | with_reducible exact c6 _ _ | fail) | quiet_step (first | with_reducible exact c1 _ _ | with_reducible exact c2 _ _ | with_reducible exact c3 _ _ | with_reducible exact c4 _ _ | with_reducible exact c5 _ _ | with_reducible exact c6 _ _ | fail))
    refine wpQuiet_nil ?_
    intro w2 hw'
    have hbel2 : Below W.heap.size W w2 := regrown_below hw'
    have k7 := (HBW.out.onB hbel2).cell 7
    clear hw' j0 j1 j2 j3 j4 j5 j6 j7 c1 c2 c3 c4 c5 c6
    cases one
    · go_wp2_with fail
      go_ret
      refine ⟨?_, HbW.out.trans (hbel2.mono HbW.out.size)⟩
      exact congrArg (fun z => Ending.returned (.string z)) (rtext_bytes [110, 111, 110, 101] x1 x2 x3 x4 x5 x6 [32, 48])
    · go_wp2_with fail
      go_ret
      refine ⟨?_, HbW.out.trans (hbel2.mono HbW.out.size)⟩
      exact congrArg (fun z => Ending.returned (.string z)) (rtext_bytes [110, 111, 110, 101] x1 x2 x3 x4 x5 x6 [32, 49])
end Go.Proofs.YtnlhibhamechcaaGreatDoor
