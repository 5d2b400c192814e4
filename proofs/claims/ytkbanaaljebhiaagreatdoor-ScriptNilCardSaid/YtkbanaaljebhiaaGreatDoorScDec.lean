/- Contract: script.Decode. -/
import Derived.Test.YtkbanaaljebhiaaGreatDoorScP
import Derived.Test.YtkbanaaljebhiaaGreatDoorMa
import Derived.Laws.CopyOwn
import Derived.Lib.EndianBits
namespace Go.Proofs.YtkbanaaljebhiaaGreatDoor
open Go.RowKit Go.Sort
set_option linter.unusedSimpArgs false
set_option linter.unusedVariables false

theorem info_stp : (Tryz.prog.info? 40).map (fun i => (i.zero, i.size, i.bytes)) = some (some (.agg Stp.nil.cells.toArray), 8, 48) := by kernel_rfl
theorem size_u8 : (Tryz.prog.info? 5).map (·.size) = some 1 := by kernel_rfl
theorem stp_one (s : Stp) : ∀ u ∈ s.cells, u.oneCell' = true := by
  intro u hu
  simp only [Stp.cells, List.mem_cons, List.not_mem_nil, or_false] at hu
  rcases hu with rfl | rfl | rfl | rfl | rfl | rfl | rfl | rfl <;> rfl
/-- a step of eight bytes, as the program computes it -/
def step8 (x0 x1 x2 x3 x4 x5 x6 x7 : Nat) : Stp := ⟨(x0 % 30 : Nat), (x1 % 7 : Nat), (x2 % 32 : Nat), (x3 % 32 : Nat), (x4 % 32 : Nat), (x5 % 24 : Nat), (x6 + 256 * x7 : Nat), x7 % 2 == 1⟩
theorem zeros_get (b : List Nat) (i : Nat) (hi : i < 8) : (splice (List.replicate 8 (Y 0)) 0 ((b.take 8).map Y))[i]? = some (Y (b.getD i 0)) := by
  unfold splice
  rw [List.take_zero, List.nil_append]
  rcases Nat.lt_or_ge i b.length with h | h
  · rw [List.getElem?_append_left (by simp; omega), List.getElem?_map, List.getElem?_take, if_pos hi, List.getElem?_eq_getElem h, List.getD_eq_getElem?_getD, List.getElem?_eq_getElem h]
    rfl
  · rw [List.getElem?_append_right (by simp; omega), List.getElem?_drop, List.getElem?_replicate, if_pos (by simp; omega), List.getD_eq_getElem?_getD, List.getElem?_eq_none h]
    rfl
set_option maxRecDepth 100000 in
set_option maxHeartbeats 8000000 in
theorem sdecode_any (A : Option Addr) (n c : Nat) (bs : List Nat) (w : World) (h : BytesArg w A n c bs) (hn : n ≤ 1000) :
    Calls Tryz.prog 11 #[.slice A n c] w fun e w' => ∃ v, e = .returned v ∧ OwnS 8 Stp.cells 40 w' w.heap.size v (decode bs) ∧ Below w.heap.size w w' := by
  obtain ⟨i0, hi, hz0, hz1, hz2⟩ := info_parts info_stp
  have HH := Lib.hid h
  obtain ⟨h1, h2, h3, h4, h5⟩ := h
  go_enter Tryz.func11, Tryz.ntmps11
  go_wp2_with fail
  go_loopw [0, 3] (fun b o wr => ∃ (A' : Option Addr) (n' c' : Nat) (rest : List Nat) (done : List Stp), b = .slice A' n' c' ∧ rest.length = n' ∧ n' ≤ c' ∧ c' ≤ maxLen ∧ RowF Y 0 w w.heap.size A' rest ∧ (∀ x ∈ rest, x ≤ 255) ∧ decode bs = done ++ decode rest ∧ done.length + n' ≤ n ∧ OwnS 8 Stp.cells 40 wr w.heap.size o done ∧ Below w.heap.size w wr) (fun b _ _ => lenOf b)
  case atStart => exact ⟨A, n, c, bs, [], rfl, h1, h2, h3, h4, h5, rfl, by simp, OwnS.nil_, Below.refl _ _⟩
  case round =>
    obtain ⟨A', n', c', rest, done, rfl, r1, r2, r3, r4, r5, r6, r7, r8, r9⟩ := hrel
    have H4 := Lib.hid r4
    have H5 := Lib.hid r5
    have H6 := Lib.hid r6
    have HO := Lib.hid r8
    have HB := Lib.hid r9
    clear r4 r5 r6 r8 r9 h4 h5 HH
    by_cases hz : n' = 0
    · subst hz
      have hr0 : rest = [] := List.eq_nil_of_length_eq_zero r1
      go_wp2_with fail
      go_ret
      refine ⟨_, rfl, ?_, HB.out⟩
      rw [H6.out, hr0, decode_nil, List.append_nil]
      exact HO.out
    · have hsz := HB.out.size
      obtain ⟨blk, off, hA, hblk, hcell⟩ := H4.out (by omega)
      have hne : rest ≠ [] := fun e => hz (by rw [← r1, e]; rfl)
      have hd := H6.out
      have hle := r7
      rw [decode_cons hne, step_take] at hd
      obtain ⟨X, hX⟩ : ∃ X, X = (rest.take 8).map Y := ⟨_, rfl⟩
      obtain ⟨m, hm⟩ : ∃ m, m = X.length := ⟨_, rfl⟩
      have hXl : m = Nat.min n' 8 := by rw [hm, hX]; simp [r1, Nat.min_comm]
      have hXe : X.length = Nat.min n' 8 := by rw [← hm]; exact hXl
      have hm8 : m ≤ 8 := by rw [hXl]; exact Nat.min_le_right _ _
      have hmn : m ≤ n' := by rw [hXl]; exact Nat.min_le_left _ _
      have hm0 : 0 < m := by rw [hXl]; exact Nat.lt_min.2 ⟨by omega, by omega⟩
      have hx1 : ∀ v ∈ X, v.oneCell' = true := fun v hv => by
        rw [hX] at hv
        obtain ⟨x, _, rfl⟩ := List.mem_map.1 hv
        rfl
      have hsrc : ∀ j v, X[j]? = some v → (wr.alloc (.cells (List.replicate 8 (Y 0)).toArray 54)).cell? ((⟨blk, off, none⟩ : Addr).add j) = some v := fun j v hv => by
        rw [hX, List.getElem?_map] at hv
        have hj : j < 8 ∧ j < rest.length := by
          rcases Nat.lt_or_ge j (rest.take 8).length with h | h
          · rw [List.length_take] at h; omega
          · rw [List.getElem?_eq_none h] at hv; cases hv
        rw [List.getElem?_take, if_pos hj.1, List.getElem?_eq_getElem hj.2] at hv
        injection hv with hv
        rw [Addr.add_lit, World.cell?_alloc_lt _ _ _ (by simp only; omega), HB.out.cell (p := ⟨blk, off + j, none⟩) hblk, hcell j hj.2, List.getElem?_eq_getElem hj.2]
        exact congrArg some hv
      obtain ⟨w4, hw4⟩ : ∃ w4, w4 = (wr.alloc (.cells (List.replicate 8 (Y 0)).toArray 54)).setRow wr.heap.size ((List.replicate 8 (Y 0)).take 0 ++ X ++ (List.replicate 8 (Y 0)).drop (0 + X.length)).toArray := ⟨_, rfl⟩
      have hrun : (Builtin.copy_ #[22, 22] 3 #[.slice (some ⟨wr.heap.size, 0, none⟩) 8 8, .slice A' n' c']).run Tryz.prog (wr.alloc (.cells #[.int .u8 0, .int .u8 0, .int .u8 0, .int .u8 0, .int .u8 0, .int .u8 0, .int .u8 0, .int .u8 0] 54)) = .ok (.int .i64 (m : Nat)) w4 := by
        rw [hA, hw4, hm]
        exact run_copy_row (P := Tryz.prog) _ 22 22 3 5 wr.heap.size 0 8 8 ⟨blk, off, none⟩ n' c' (List.replicate 8 (Y 0)).toArray 54 X Tryz.underlying22 size_u8 (heap_alloc_new wr _) hXe hsrc (by simp; omega) hx1
      have hrow : w4.heap[wr.heap.size]? = some (.cells (splice (List.replicate 8 (Y 0)) 0 X).toArray 54 (0, 0)) := by
        rw [hw4, setRow_heap _ _ (List.replicate 8 (Y 0)).toArray _ 54 (0, 0) (heap_alloc_new wr _)]
        simp [splice]
      have hb4 : Below wr.heap.size wr w4 := by
        rw [hw4]
        exact below_setRow ((Below.refl _ _).alloc (Nat.le_refl _) _) (Nat.le_refl _) _
      have hc4 : ∀ i, i < 8 → w4.cell? ⟨wr.heap.size, i, none⟩ = some (Y (rest.getD i 0)) := fun i h => by
        rw [Lib.cell_of_heap hrow, hX]
        have := zeros_get rest i h
        simpa using this
      have x0 := hc4 0 (by omega)
      have x1 := hc4 1 (by omega)
      have x2 := hc4 2 (by omega)
      have x3 := hc4 3 (by omega)
      have x4 := hc4 4 (by omega)
      have x5 := hc4 5 (by omega)
      have x6 := hc4 6 (by omega)
      have x7 := hc4 7 (by omega)
      have y0 := getD_le H5.out 0
      have y1 := getD_le H5.out 1
      have y2 := getD_le H5.out 2
      have y3 := getD_le H5.out 3
      have y4 := getD_le H5.out 4
      have y5 := getD_le H5.out 5
      have y6 := getD_le H5.out 6
      have y7 := getD_le H5.out 7
      have HST : Hid (stepOf rest = step8 (rest.getD 0 0) (rest.getD 1 0) (rest.getD 2 0) (rest.getD 3 0) (rest.getD 4 0) (rest.getD 5 0) (rest.getD 6 0) (rest.getD 7 0)) := Lib.hid rfl
      obtain ⟨X0, hX0⟩ : ∃ X0, X0 = rest.getD 0 0 := ⟨_, rfl⟩
      obtain ⟨X1, hX1⟩ : ∃ X1, X1 = rest.getD 1 0 := ⟨_, rfl⟩
      obtain ⟨X2, hX2⟩ : ∃ X2, X2 = rest.getD 2 0 := ⟨_, rfl⟩
      obtain ⟨X3, hX3⟩ : ∃ X3, X3 = rest.getD 3 0 := ⟨_, rfl⟩
      obtain ⟨X4, hX4⟩ : ∃ X4, X4 = rest.getD 4 0 := ⟨_, rfl⟩
      obtain ⟨X5, hX5⟩ : ∃ X5, X5 = rest.getD 5 0 := ⟨_, rfl⟩
      obtain ⟨X6, hX6⟩ : ∃ X6, X6 = rest.getD 6 0 := ⟨_, rfl⟩
      obtain ⟨X7, hX7⟩ : ∃ X7, X7 = rest.getD 7 0 := ⟨_, rfl⟩
      rw [← hX0, ← hX1, ← hX2, ← hX3, ← hX4, ← hX5, ← hX6, ← hX7] at HST
      rw [← hX0] at x0 y0
      rw [← hX1] at x1 y1
      rw [← hX2] at x2 y2
      rw [← hX3] at x3 y3
      rw [← hX4] at x4 y4
      rw [← hX5] at x5 y5
      rw [← hX6] at x6 y6
      rw [← hX7] at x7 y7
      clear hX0 hX1 hX2 hX3 hX4 hX5 hX6 hX7
      unfold Y at x0 x1 x2 x3 x4 x5 x6 x7
      have HB4 := Lib.hid hb4
      have HRUN := Lib.hid hrun
      have HD := Lib.hid hd
      have HR1 := Lib.hid r1
      have HLE := Lib.hid hle
      have HM := Lib.hid hXl
      have HA := Lib.hid hA
      have HC := Lib.hid hcell
      have HBL := Lib.hid hblk
      clear hX hXl hXe hx1 hsrc hw4 hrun hrow hb4 hc4 hd hA hcell hne r1 hle r7 H6 hm hblk
      have hor : bits BinOp.or IntKind.u16 (X6 : Int) ((X7 : Int) * 256) = (X6 : Int) + (X7 : Int) * 256 := u16_or8 (x := (X7 : Int) * 256) (y := (X6 : Int)) (by omega) (by omega) (by omega) (by omega) (by omega)
      have HO4 : Hid (OwnS 8 Stp.cells 40 w4 w.heap.size u3 done) := Lib.hid (HO.out.chg (F := []) (chg_of_below HB4.out) (by simp))
      have HS4 : Hid (w.heap.size ≤ w4.heap.size) := Lib.hid (Nat.le_trans hsz HB4.out.size)
      have HLN : Hid (done.length ≤ 34359738366) := Lib.hid (by have := HLE.out; omega)
      have HB7 : Hid (((X7 : Int) % 2 == 1) = (X7 % 2 == 1)) := Lib.hid (by
        rcases Nat.mod_two_eq_zero_or_one X7 with h | h
        · have : (X7 : Int) % 2 = 0 := by omega
          rw [h, this]; rfl
        · have : (X7 : Int) % 2 = 1 := by omega
          rw [h, this]; rfl)
      go_wp2_with fail
      rw [HRUN.out]
      simp only [Result.andThen]
      rw [Oper.upon_value]
      go_wp2_with (at_builtin; (refine wp_appS Stp.cells_len (by decide) Tryz.underlying36 hi hz0 hz1 hz2 rfl (by decide) w4 rfl _ _ rfl w.heap.size _ done (step8 X0 X1 X2 X3 X4 X5 X6 X7) _ (by simp [Stp.cells, step8, HB7.out]; omega) 1 (stp_one _) HO4.out HS4.out HLN.out rfl rfl (by first | rfl | simp [World.setCell]) ?_); intro v1 w5 hown1 hb1 hs1 hg1 hv1)
      have hm2 := HM.out
      have hl := HR1.out
      have hmin : n' - m = n' - 8 := by
        rw [hm2]
        rcases Nat.le_total n' 8 with h | h
        · rw [show Nat.min n' 8 = n' from Nat.min_eq_left h]; omega
        · rw [show Nat.min n' 8 = 8 from Nat.min_eq_right h]
      have hle := HLE.out
      refine ⟨⟨_, _, _, rest.drop 8, done ++ [stepOf rest], rfl, by rw [List.length_drop, hl, hmin], by omega, by omega, fun hn0 => ?_, fun x hx => H5.out x (List.mem_of_mem_drop hx), by rw [HD.out]; simp, by simp; omega, by rw [HST.out]; exact hown1, (HB.out.trans (HB4.out.mono hsz)).trans hb1⟩, by simp [lenOf]; omega⟩
      rw [List.length_drop, hl] at hn0
      have hm88 : m = 8 := by rw [hm2]; exact Nat.min_eq_right (by omega)
      refine ⟨blk, off + 8, by rw [if_neg (by omega), HA.out, hm88]; rfl, HBL.out, fun j hj => ?_⟩
      rw [List.length_drop] at hj
      rw [Nat.add_assoc, HC.out _ (by omega), List.getElem?_drop]
end Go.Proofs.YtkbanaaljebhiaaGreatDoor
