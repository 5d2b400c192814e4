/- The library's sort of uint32: what it leaves is a permutation (2): the heap, reversing. -/
import Derived.Test.YtciokbngjfeihaaGreatSrtA
namespace Go.Proofs.YtciokbngjfeihaaGreat
open Go Go.RowKit
set_option linter.unusedSimpArgs false
set_option linter.unusedVariables false

/-- in a second region that draws -/
theorem q_sameA {P : Program} {f : FuncId} {args : Array Value} {w : World} {n a : Nat} {v : Value}
    (h : Calls P f args (w.drewN (a + n)) fun e w' => e = .returned v ∧ w.drewN (a + n) = w') : Calls P f args (w.drewN (a + n)) fun e w'' => e = .returned v ∧ ∃ m, w'' = w.drewN (a + m) :=
  h.mono fun _ _ ⟨he, hm⟩ => ⟨he, n, hm.symm⟩
theorem wrapN (k : Int) (h0 : -4000000000 ≤ k) (h1 : k ≤ 4000000000000) : IntKind.i64.wrap k = k := IntWalk.i64_in _ ⟨by omega, by omega⟩
set_option maxRecDepth 100000 in
set_option maxHeartbeats 8000000 in
theorem rev_any (g n c a b : Nat) (xs : List Int) (w : World) (h : U32At w g n c xs) (hab : a ≤ b) (hb : b ≤ n) (hn : n ≤ 1000000000) :
    Calls Tryz.prog 101 #[.slice (some ⟨g, 0, none⟩) n c, .int .i64 (a : Nat), .int .i64 (b : Nat)] w fun e w' => e = .returned (.tuple #[]) ∧ Srt w g n c xs w' := by
  have H := Lib.hid h
  clear h
  go_enter Tryz.func101, Tryz.ntmps101
  go_wp2_with fail
  go_loopw [6, 7] (fun vi vj wr => ∃ (i : Nat) (j : Int), a ≤ i ∧ i ≤ b ∧ -1 ≤ j ∧ j < (b : Int) ∧ vi = .int .i64 (i : Nat) ∧ vj = .int .i64 j ∧ Srt w g n c xs wr) (fun vi _ _ => b + 1 - (intOf vi).toNat)
  case atStart => exact ⟨a, (b : Int) - 1, by omega, by omega, by omega, by omega, rfl, rfl, Srt.refl H.out⟩
  case round =>
    obtain ⟨i, j, hi1, hi2, hj1, hj2, rfl, rfl, ys, hp, hu, hc⟩ := hrel
    have HP := Lib.hid (And.intro hp (And.intro hu hc))
    clear hp hc
    by_cases hij : (i : Int) < j
    · obtain ⟨m, rfl⟩ : ∃ m : Nat, j = (m : Int) := ⟨j.toNat, by omega⟩
      have e1 : (m : Int) < (n : Int) := by omega
      have e2 : (i : Int) < (n : Int) := by omega
      have e3 : m < n := by omega
      have e4 : i < n := by omega
      obtain ⟨c0, f0⟩ := hu.cell (k := i) (by omega)
      obtain ⟨c1, f1⟩ := hu.cell (k := m) (by omega)
      have SW := Lib.hid (hu.swap (i := i) (j := m) (by omega) (by omega))
      have hne : ¬ i = m := by omega
      have hne2 : ¬ m = i := by omega
      generalize ys[i]?.getD 0 = x at *
      generalize ys[m]?.getD 0 = y at *
      clear hu
      go_wp2_with fail
      go_region
      all_goals
        go_wp2_with fail
        go_roundw
        case rel => exact ⟨i + 1, (m : Int) - 1, by omega, by omega, by omega, by omega, by go_num, rfl, Srt.trans HP.out.1 HP.out.2.2 (by first | exact SW.out.drewN 1 | exact SW.out)⟩
        case measure => simp [intOf]; omega
    · have e1 : ¬ (i : Int) < j := hij
      clear hu
      go_wp2_with fail
      go_end0
      exact ⟨rfl, ys, HP.out.1, HP.out.2.1, HP.out.2.2⟩
set_option maxRecDepth 100000 in
set_option maxHeartbeats 8000000 in
theorem sift_any (g n c lo hi first : Nat) (xs : List Int) (w : World) (h : U32At w g n c xs) (hlo : lo ≤ hi) (hhi : first + hi ≤ n) (hn : n ≤ 1000000000) :
    Calls Tryz.prog 108 #[.slice (some ⟨g, 0, none⟩) n c, .int .i64 (lo : Nat), .int .i64 (hi : Nat), .int .i64 (first : Nat)] w fun e w' => e = .returned (.tuple #[]) ∧ Srt w g n c xs w' := by
  have H := Lib.hid h
  clear h
  go_enter Tryz.func108, Tryz.ntmps108
  go_wp2_with fail
  go_loopw [8] (fun vr wr => ∃ r : Nat, r ≤ hi ∧ vr = .int .i64 (r : Nat) ∧ Srt w g n c xs wr) (fun vr _ => hi - (intOf vr).toNat)
  case atStart => exact ⟨lo, hlo, rfl, Srt.refl H.out⟩
  case round =>
    obtain ⟨r, hr, rfl, ys, hp, hu, hc⟩ := hrel
    have HP := Lib.hid (And.intro hp (And.intro hu hc))
    clear hp hc
    have v3 := wrapN (2 * (r : Int)) (by omega) (by omega)
    have v4 := wrapN (2 * (r : Int) + 1) (by omega) (by omega)
    have v5 := wrapN (2 * (r : Int) + 1 + 1) (by omega) (by omega)
    by_cases hch : 2 * r + 1 < hi
    · have e0 : ¬ (hi : Int) ≤ 2 * (r : Int) + 1 := by omega
      have b1 : (first : Int) + (r : Int) < (n : Int) := by omega
      have b3 : (0 : Int) ≤ (first : Int) + (r : Int) := by omega
      have b5 : ((first : Int) + (r : Int)).toNat = first + r := by omega
      have v1 := wrapN ((first : Int) + (r : Int)) (by omega) (by omega)
      have v6 := wrapN ((first : Int) + (2 * (r : Int) + 1)) (by omega) (by omega)
      have b7 : (0 : Int) ≤ (first : Int) + (2 * (r : Int) + 1) := by omega
      have b8 : (first : Int) + (2 * (r : Int) + 1) < (n : Int) := by omega
      have b9 : ((first : Int) + (2 * (r : Int) + 1)).toNat = first + (2 * r + 1) := by omega
      obtain ⟨c0, f0⟩ := hu.cell (k := first + r) (by omega)
      obtain ⟨c1, f1⟩ := hu.cell (k := first + (2 * r + 1)) (by omega)
      have SW1 := Lib.hid (hu.swap (i := first + r) (j := first + (2 * r + 1)) (by omega) (by omega))
      have n1 : ¬ first + r = first + (2 * r + 1) := by omega
      have n2 : ¬ first + (2 * r + 1) = first + r := by omega
      generalize hx0 : ys[first + r]?.getD 0 = x at *
      generalize hx1 : ys[first + (2 * r + 1)]?.getD 0 = y at *
      have HX0 := Lib.hid hx0
      clear hx0 hx1
      obtain ⟨q2, hq2⟩ := less_some x y
      have HQ2 := Lib.hid hq2
      clear hq2
      by_cases hc2 : 2 * r + 2 < hi
      · have e2 : 2 * (r : Int) + 1 + 1 < (hi : Int) := by omega
        have u6 := wrapN ((first : Int) + (2 * (r : Int) + 1) + 1) (by omega) (by omega)
        have u7 : (0 : Int) ≤ (first : Int) + (2 * (r : Int) + 1) + 1 := by omega
        have u8 : (first : Int) + (2 * (r : Int) + 1) + 1 < (n : Int) := by omega
        have u9 : ((first : Int) + (2 * (r : Int) + 1) + 1).toNat = first + (2 * r + 2) := by omega
        have t6 := wrapN ((first : Int) + (2 * (r : Int) + 1 + 1)) (by omega) (by omega)
        have t7 : (0 : Int) ≤ (first : Int) + (2 * (r : Int) + 1 + 1) := by omega
        have t8 : (first : Int) + (2 * (r : Int) + 1 + 1) < (n : Int) := by omega
        have t9 : ((first : Int) + (2 * (r : Int) + 1 + 1)).toNat = first + (2 * r + 2) := by omega
        obtain ⟨c2, f2⟩ := hu.cell (k := first + (2 * r + 2)) (by omega)
        have SW2 := Lib.hid (hu.swap (i := first + r) (j := first + (2 * r + 2)) (by omega) (by omega))
        rw [HX0.out] at SW2
        have n3 : ¬ first + r = first + (2 * r + 2) := by omega
        have n4 : ¬ first + (2 * r + 2) = first + r := by omega
        generalize ys[first + (2 * r + 2)]?.getD 0 = z at *
        obtain ⟨q1, hq1⟩ := less_some y z
        obtain ⟨q3, hq3⟩ := less_some x z
        have HQ1 := Lib.hid hq1
        have HQ3 := Lib.hid hq3
        clear hu hq1 hq3
        cases q1 with
        | true =>
          go_wp2_with fail
          go_quiet ((go_at_call 103; exact q_same (HQ1.out _)))
          go_wp2_with fail
          cases q3 with
          | true =>
            go_quiet ((go_at_call 103; first | exact q_sameA (HQ3.out _) | exact q_same (HQ3.out _)))
            go_wp2_with fail
            go_region
            all_goals
              go_wp2_with fail
              go_roundw
              case rel => exact ⟨2 * r + 2, by omega, by go_num, Srt.trans HP.out.1 HP.out.2.2 (SW2.out.drewN _)⟩
              case measure => simp [intOf]; omega
          | false =>
            go_quiet ((go_at_call 103; first | exact q_sameA (HQ3.out _) | exact q_same (HQ3.out _)))
            go_wp2_with fail
            exact bodyPost_ret (results_none rfl _ _ _) rfl ⟨rfl, (Srt.drewN (Srt.drewN ⟨ys, HP.out.1, HP.out.2.1, HP.out.2.2⟩ _) _)⟩
        | false =>
          go_wp2_with fail
          go_quiet ((go_at_call 103; exact q_same (HQ1.out _)))
          go_wp2_with fail
          cases q2 with
          | true =>
            go_quiet ((go_at_call 103; first | exact q_sameA (HQ2.out _) | exact q_same (HQ2.out _)))
            go_wp2_with fail
            go_region
            all_goals
              go_wp2_with fail
              go_roundw
              case rel => exact ⟨2 * r + 1, by omega, by go_num, Srt.trans HP.out.1 HP.out.2.2 (SW1.out.drewN _)⟩
              case measure => simp [intOf]; omega
          | false =>
            go_quiet ((go_at_call 103; first | exact q_sameA (HQ2.out _) | exact q_same (HQ2.out _)))
            go_wp2_with fail
            exact bodyPost_ret (results_none rfl _ _ _) rfl ⟨rfl, (Srt.drewN (Srt.drewN ⟨ys, HP.out.1, HP.out.2.1, HP.out.2.2⟩ _) _)⟩
      · have e2 : decide (2 * (r : Int) + 1 + 1 < (hi : Int)) = false := by simp; omega
        clear hu
        go_wp2_with fail
        go_quiet (fail)
        go_wp2_with fail
        cases q2 with
        | true =>
          go_quiet ((go_at_call 103; first | exact q_sameA (HQ2.out _) | exact q_same (HQ2.out _)))
          go_wp2_with fail
          go_region
          all_goals
            go_wp2_with fail
            go_roundw
            case rel => exact ⟨2 * r + 1, by omega, by go_num, Srt.trans HP.out.1 HP.out.2.2 (SW1.out.drewN _)⟩
            case measure => simp [intOf]; omega
        | false =>
          go_quiet ((go_at_call 103; first | exact q_sameA (HQ2.out _) | exact q_same (HQ2.out _)))
          go_wp2_with fail
          exact bodyPost_ret (results_none rfl _ _ _) rfl ⟨rfl, (Srt.drewN (Srt.drewN ⟨ys, HP.out.1, HP.out.2.1, HP.out.2.2⟩ _) _)⟩
    · have e0 : (hi : Int) ≤ 2 * (r : Int) + 1 := by omega
      clear hu
      go_wp2_with fail
      go_end0
      exact ⟨rfl, ys, HP.out.1, HP.out.2.1, HP.out.2.2⟩
set_option maxRecDepth 100000 in
set_option maxHeartbeats 8000000 in
theorem heap_any (g n c a b : Nat) (xs : List Int) (w : World) (h : U32At w g n c xs) (hab : a ≤ b) (hb : b ≤ n) (hn : n ≤ 1000000000) :
    Calls Tryz.prog 98 #[.slice (some ⟨g, 0, none⟩) n c, .int .i64 (a : Nat), .int .i64 (b : Nat)] w fun e w' => e = .returned (.tuple #[]) ∧ Srt w g n c xs w' := by
  have H := Lib.hid h
  clear h
  obtain ⟨m, hm⟩ : ∃ m, b = a + m := ⟨b - a, by omega⟩
  have d1 : (b : Int) - (a : Int) = (m : Int) := by omega
  have hbm : a + m ≤ b := by omega
  clear hm
  have d3 := wrapN ((m : Int) - 1) (by omega) (by omega)
  obtain ⟨k, hk⟩ : ∃ k : Nat, ((m : Int) - 1).tdiv 2 = (k : Int) ∧ k ≤ m := by
    by_cases h0 : m = 0
    · exact ⟨0, by subst h0; rfl, by omega⟩
    · refine ⟨(m - 1) / 2, ?_, by omega⟩
      rw [show ((m : Int) - 1) = ((m - 1 : Nat) : Int) by omega]
      rfl
  have HK := Lib.hid hk
  have hk1 := hk.1
  have hk2 := hk.2
  clear hk
  go_enter Tryz.func98, Tryz.ntmps98
  have HSF := Lib.hid (fun (lo hi : Nat) (ys : List Int) W (h : U32At W g n c ys) (h1 : lo ≤ hi) (h2 : hi ≤ m) => sift_any g n c lo hi a ys W h h1 (by omega) hn)
  go_wp2_with fail
  go_loopw [9] (fun vi wr => ∃ i : Int, -1 ≤ i ∧ i ≤ (m : Int) ∧ vi = .int .i64 i ∧ Srt w g n c xs wr) (fun vi _ => (intOf vi + 1).toNat)
  case atStart => exact ⟨k, by omega, by omega, rfl, Srt.refl H.out⟩
  case round =>
    obtain ⟨i, hi1, hi2, rfl, ys, hp, hu, hc⟩ := hrel
    have HP := Lib.hid (And.intro hp (And.intro hu hc))
    clear hp hc
    by_cases h0 : 0 ≤ i
    · obtain ⟨t, rfl⟩ : ∃ t : Nat, i = (t : Int) := ⟨i.toNat, by omega⟩
      have HC := Lib.hid (HSF.out t m ys wr hu (by omega) (Nat.le_refl _))
      clear hu
      go_wp2_with fail
      refine HC.out.mono ?_
      rintro e w1 ⟨rfl, h1⟩
      have HS1 := Lib.hid (Srt.trans HP.out.1 HP.out.2.2 h1)
      clear h1
      go_wp2_with fail
      go_roundw
      case rel => exact ⟨(t : Int) - 1, by omega, by omega, rfl, HS1.out⟩
      case measure => simp [intOf] <;> omega
    · have h0' : ¬ (0 ≤ i) := h0
      clear hu
      go_wp2_with fail
      obtain ⟨wo, hwo⟩ : ∃ wo : World, wo = wr := ⟨_, rfl⟩
      rw [← hwo] at HP
      subst hwo
      go_loopw [10] (fun vi wq => ∃ i : Int, -1 ≤ i ∧ i < (m : Int) ∧ vi = .int .i64 i ∧ Srt w g n c xs wq) (fun vi _ => (intOf vi + 1).toNat)
      case atStart => exact ⟨(m : Int) - 1, by omega, by omega, rfl, ys, HP.out.1, HP.out.2.1, HP.out.2.2⟩
      case round =>
        obtain ⟨i, hi1, hi2, rfl, zs, hp, hu, hc⟩ := hrel
        have HP2 := Lib.hid (And.intro hp (And.intro hu hc))
        clear hp hc
        by_cases h0 : 0 ≤ i
        · obtain ⟨t, rfl⟩ : ∃ t : Nat, i = (t : Int) := ⟨i.toNat, by omega⟩
          have b1 : (a : Int) + (t : Int) < (n : Int) := by omega
          have b2 : (0 : Int) ≤ (a : Int) + (t : Int) := by omega
          have b3 : ((a : Int) + (t : Int)).toNat = a + t := by omega
          have b4 : (a : Int) < (n : Int) := by omega
          have b5 := wrapN ((a : Int) + (t : Int)) (by omega) (by omega)
          obtain ⟨c0, f0⟩ := hu.cell (k := a) (by omega)
          obtain ⟨c1, f1⟩ := hu.cell (k := a + t) (by omega)
          have SW := Lib.hid (hu.swap (i := a) (j := a + t) (by omega) (by omega))
          obtain ⟨x, hx⟩ : ∃ x, x = zs[a]?.getD 0 := ⟨_, rfl⟩
          obtain ⟨y, hy⟩ : ∃ y, y = zs[a + t]?.getD 0 := ⟨_, rfl⟩
          rw [← hx] at c0 SW
          rw [← hy] at c1 SW
          obtain ⟨z, hz⟩ := cell?_setCell_some (w := wr) (p := ⟨g, a, none⟩) (x := .int .u32 y) (q := ⟨g, a + t, none⟩) (v := .int .u32 y) c1
          clear hu hx hy
          go_wp2_with fail
          go_region
          all_goals
            have hsw := Srt.trans HP2.out.1 HP2.out.2.2 (SW.out.drewN 1)
            obtain ⟨vs, hp3, hu3, hc3⟩ := hsw
            have HP3 := Lib.hid (And.intro hp3 (And.intro hu3 hc3))
            have HC := Lib.hid (HSF.out 0 t vs _ hu3 (by omega) (by omega))
            clear hp3 hu3 hc3
            go_wp2_with fail
            refine HC.out.mono ?_
            rintro e w1 ⟨rfl, h1⟩
            have HS1 := Lib.hid (Srt.trans HP3.out.1 HP3.out.2.2 h1)
            clear h1
            go_wp2_with fail
            go_roundw
            case rel => exact ⟨(t : Int) - 1, by omega, by omega, rfl, HS1.out⟩
            case measure => simp [intOf] <;> omega
        · have h0' : ¬ (0 ≤ i) := h0
          clear hu
          go_wp2_with fail
          go_end0
          exact ⟨rfl, zs, HP2.out.1, HP2.out.2.1, HP2.out.2.2⟩
end Go.Proofs.YtciokbngjfeihaaGreat
