/- The library's sort of uint32: what it leaves is a permutation (3): the partitions. -/
import Derived.Test.YtciokbngjfeihaaGreatSrtB
import Derived.Deep.DeepCutAuto
import Derived.Deep.CutBlock
namespace Go.Proofs.YtciokbngjfeihaaGreat
open Go Go.RowKit
set_option linter.unusedSimpArgs false
set_option linter.unusedVariables false

set_option maxRecDepth 100000 in
set_option maxHeartbeats 16000000 in
theorem part_any (g n c a b p : Nat) (xs : List Int) (w : World) (h : U32At w g n c xs) (hap : a ≤ p) (hpb : p < b) (hb : b ≤ n) (hn : n ≤ 1000000000) :
    Calls Tryz.prog 105 #[.slice (some ⟨g, 0, none⟩) n c, .int .i64 (a : Nat), .int .i64 (b : Nat), .int .i64 (p : Nat)] w fun e w' => (∃ (m : Nat) (q : Bool), e = .returned (.tuple #[.int .i64 (m : Nat), .bool q]) ∧ a ≤ m ∧ m < b) ∧ Srt w g n c xs w' := by
  obtain ⟨j0, rfl⟩ : ∃ j0, b = j0 + 1 := ⟨b - 1, by omega⟩
  have jj : ((j0 + 1 : Nat) : Int) - 1 = (j0 : Int) := by omega
  have jj2 : (j0 : Int) + 1 - 1 = (j0 : Int) := by omega
  obtain ⟨ys, hp, hu, hc⟩ := Srt.refl h
  have HP := Lib.hid (And.intro hp (And.intro hu hc))
  clear hp hc h
  have s1 : (a : Int) < (n : Int) := by omega
  have s2 : (p : Int) < (n : Int) := by omega
  have s3 : a < n := by omega
  have s4 : p < n := by omega
  obtain ⟨c0, f0⟩ := hu.cell (k := a) (by omega)
  obtain ⟨c1, f1⟩ := hu.cell (k := p) (by omega)
  have SW := Lib.hid (hu.swap (i := a) (j := p) (by omega) (by omega))
  obtain ⟨x, hx⟩ : ∃ x, x = ys[a]?.getD 0 := ⟨_, rfl⟩
  obtain ⟨y, hy⟩ : ∃ y, y = ys[p]?.getD 0 := ⟨_, rfl⟩
  rw [← hx] at c0 SW
  rw [← hy] at c1 SW
  obtain ⟨z, hz⟩ := cell?_setCell_some (w := w) (p := ⟨g, a, none⟩) (x := .int .u32 y) (q := ⟨g, p, none⟩) (v := .int .u32 y) c1
  clear hu hx hy
  go_enter Tryz.func105, Tryz.ntmps105
  go_wp2_with fail
  go_region
  all_goals
    have HS := Lib.hid (Srt.trans HP.out.1 HP.out.2.2 (SW.out.drewN 1))
    clear c0 c1 f0 f1 hz s1 s2 s3 s4
    clear SW HP
    obtain ⟨i, hi⟩ : ∃ i, i = a + 1 := ⟨_, rfl⟩
    have hii : ((a : Int) + 1) = (i : Int) := by omega
    obtain ⟨j, hj⟩ : ∃ j, j = j0 := ⟨_, rfl⟩
    subst hj
    have b1 : a + 1 ≤ i := by omega
    have b2 : i ≤ j + 1 := by omega
    clear hi
    go_upto_block 0 with fail
    go_cut [10] (fun v wr => ∃ t : Nat, i ≤ t ∧ t ≤ j + 2 ∧ v = .int .i64 (t : Nat) ∧ Srt w g n c xs wr)
    case first =>
      go_wp2_with fail
      go_loopw [10] (fun v wr => ∃ t : Nat, i ≤ t ∧ t ≤ j + 2 ∧ v = .int .i64 (t : Nat) ∧ Srt w g n c xs wr) (fun v _ => (j + 2 - (intOf v).toNat))
      case atStart => exact ⟨i, by omega, by omega, rfl, HS.out⟩
      case round =>
        obtain ⟨t, k1, k2, rfl, ys, hp, hu, hc⟩ := hrel
        have HP := Lib.hid (And.intro hp (And.intro hu hc))
        clear hp hc
        by_cases hg : t ≤ j
        · have g0 : (t : Int) ≤ (j : Int) := by omega
          have g1 : (t : Int) < (n : Int) := by omega
          have g2 : t < n := by omega
          have g3 : (a : Int) < (n : Int) := by omega
          have g4 : a < n := by omega
          obtain ⟨c0, _⟩ := hu.cell (k := t) (by omega)
          obtain ⟨c1, _⟩ := hu.cell (k := a) (by omega)
          generalize hx0 : ys[t]?.getD 0 = x at *
          generalize hx1 : ys[a]?.getD 0 = y at *
          obtain ⟨q, hq⟩ := less_some x y
          have HQ := Lib.hid hq
          clear hu hq hx0 hx1
          cases q with
          | true =>
            go_wp2_with fail
            go_quiet ((go_at_call 103; exact q_same (HQ.out _)))
            go_wp2_with fail
            go_roundw
            case rel => exact ⟨t + 1, by omega, by omega, by go_num, Srt.drewN ⟨ys, HP.out.1, HP.out.2.1, HP.out.2.2⟩ _⟩
            case measure => simp [intOf] <;> omega
          | false =>
            go_wp2_with fail
            go_quiet ((go_at_call 103; exact q_same (HQ.out _)))
            go_wp2_with fail
            go_meet
            exact ⟨t, k1, k2, rfl, Srt.drewN ⟨ys, HP.out.1, HP.out.2.1, HP.out.2.2⟩ _⟩
        · have g0 : ¬ (t : Int) ≤ (j : Int) := by omega
          have g1 : decide (t ≤ j) = false := by simpa using hg
          clear hu
          go_wp2_with fail
          go_quiet (fail)
          go_wp2_with fail
          go_meet
          exact ⟨t, k1, k2, rfl, Srt.drewN ⟨ys, HP.out.1, HP.out.2.1, HP.out.2.2⟩ _⟩
    obtain ⟨t, k1, k2, rfl, hs⟩ := hcut
    have HS := Lib.hid hs
    clear hs
    obtain ⟨i2, hi2⟩ : ∃ i2, i2 = t := ⟨_, rfl⟩
    subst hi2
    clear hii jj jj2
    obtain ⟨jb, hjb⟩ : ∃ jb, jb = j := ⟨_, rfl⟩
    go_upto_block 2 with fail
    go_cut [11] (fun v wr => ∃ t : Nat, a ≤ t ∧ t ≤ j ∧ v = .int .i64 (t : Nat) ∧ Srt w g n c xs wr)
    case first =>
      go_wp2_with fail
      go_loopw [11] (fun v wr => ∃ t : Nat, a ≤ t ∧ t ≤ j ∧ v = .int .i64 (t : Nat) ∧ Srt w g n c xs wr) (fun v _ => (intOf v).toNat)
      case atStart => exact ⟨j, by omega, by omega, rfl, HS.out⟩
      case round =>
        obtain ⟨t, k1, k2, rfl, ys, hp, hu, hc⟩ := hrel
        have HP := Lib.hid (And.intro hp (And.intro hu hc))
        clear hp hc
        by_cases hg : i2 ≤ t
        · have g0 : (i2 : Int) ≤ (t : Int) := by omega
          have g1 : (t : Int) < (n : Int) := by omega
          have g2 : t < n := by omega
          have g3 : (a : Int) < (n : Int) := by omega
          have g4 : a < n := by omega
          obtain ⟨c0, _⟩ := hu.cell (k := t) (by omega)
          obtain ⟨c1, _⟩ := hu.cell (k := a) (by omega)
          generalize hx0 : ys[t]?.getD 0 = x at *
          generalize hx1 : ys[a]?.getD 0 = y at *
          obtain ⟨q, hq⟩ := less_some x y
          have HQ := Lib.hid hq
          clear hu hq hx0 hx1
          cases q with
          | false =>
            go_wp2_with fail
            go_quiet ((go_at_call 103; exact q_same (HQ.out _)))
            go_wp2_with fail
            go_roundw
            case rel => exact ⟨t - 1, by omega, by omega, by go_num, Srt.drewN ⟨ys, HP.out.1, HP.out.2.1, HP.out.2.2⟩ _⟩
            case measure => simp [intOf] <;> omega
          | true =>
            go_wp2_with fail
            go_quiet ((go_at_call 103; exact q_same (HQ.out _)))
            go_wp2_with fail
            go_meet
            exact ⟨t, k1, k2, rfl, Srt.drewN ⟨ys, HP.out.1, HP.out.2.1, HP.out.2.2⟩ _⟩
        · have g0 : ¬ (i2 : Int) ≤ (t : Int) := by omega
          have g1 : decide (i2 ≤ t) = false := by simpa using hg
          clear hu
          go_wp2_with fail
          go_quiet (fail)
          go_wp2_with fail
          go_meet
          exact ⟨t, k1, k2, rfl, Srt.drewN ⟨ys, HP.out.1, HP.out.2.1, HP.out.2.2⟩ _⟩
    obtain ⟨t, k1, k2, rfl, hs⟩ := hcut
    have HS := Lib.hid hs
    clear hs
    obtain ⟨j2, hj2⟩ : ∃ j2, j2 = t := ⟨_, rfl⟩
    subst hj2
    obtain ⟨ys, hp, hu, hc⟩ := HS.out
    have HP := Lib.hid (And.intro hp (And.intro hu hc))
    clear hp hc HS
    by_cases hij : j2 < i2
    · have t1 : (j2 : Int) < (i2 : Int) := by omega
      have s1 : (j2 : Int) < (n : Int) := by omega
      have s2 : (a : Int) < (n : Int) := by omega
      have s3 : j2 < n := by omega
      have s4 : a < n := by omega
      obtain ⟨c0, f0⟩ := hu.cell (k := j2) (by omega)
      obtain ⟨c1, f1⟩ := hu.cell (k := a) (by omega)
      have SW := Lib.hid (hu.swap (i := j2) (j := a) (by omega) (by omega))
      obtain ⟨x, hx⟩ : ∃ x, x = ys[j2]?.getD 0 := ⟨_, rfl⟩
      obtain ⟨y, hy⟩ : ∃ y, y = ys[a]?.getD 0 := ⟨_, rfl⟩
      rw [← hx] at c0 SW
      rw [← hy] at c1 SW
      obtain ⟨z, hz⟩ := cell?_setCell_some (w := wc) (p := ⟨g, j2, none⟩) (x := .int .u32 y) (q := ⟨g, a, none⟩) (v := .int .u32 y) c1
      clear hu hx hy
      go_wp2_with fail
      go_region
      all_goals
        have HS := Lib.hid (Srt.trans HP.out.1 HP.out.2.2 (SW.out.drewN 1))
        clear c0 c1 f0 f1 hz s1 s2 s3 s4 SW HP
        go_wp2_with fail
        exact bodyPost_ret (v := .tuple #[.int .i64 (j2 : Nat), .bool true]) (by simp [results, Tryz.results105, go_sem, *]) rfl ⟨⟨j2, _, rfl, by omega, by omega⟩, HS.out⟩
    · have t1 : ¬ (j2 : Int) < (i2 : Int) := by omega
      have s1 : (i2 : Int) < (n : Int) := by omega
      have s2 : (j2 : Int) < (n : Int) := by omega
      have s3 : i2 < n := by omega
      have s4 : j2 < n := by omega
      obtain ⟨c0, f0⟩ := hu.cell (k := i2) (by omega)
      obtain ⟨c1, f1⟩ := hu.cell (k := j2) (by omega)
      have SW := Lib.hid (hu.swap (i := i2) (j := j2) (by omega) (by omega))
      obtain ⟨x, hx⟩ : ∃ x, x = ys[i2]?.getD 0 := ⟨_, rfl⟩
      obtain ⟨y, hy⟩ : ∃ y, y = ys[j2]?.getD 0 := ⟨_, rfl⟩
      rw [← hx] at c0 SW
      rw [← hy] at c1 SW
      obtain ⟨z, hz⟩ := cell?_setCell_some (w := wc) (p := ⟨g, i2, none⟩) (x := .int .u32 y) (q := ⟨g, j2, none⟩) (v := .int .u32 y) c1
      clear hu hx hy
      go_wp2_with fail
      go_region
      all_goals
        have HS := Lib.hid (Srt.trans HP.out.1 HP.out.2.2 (SW.out.drewN 1))
        clear c0 c1 f0 f1 hz s1 s2 s3 s4 SW HP
        go_wp2_with fail
        go_loopw [10, 11] (fun vi vj wr => ∃ i j : Nat, a + 1 ≤ i ∧ i ≤ j + 2 ∧ a ≤ j ∧ j < jb + 1 ∧ vi = .int .i64 (i : Nat) ∧ vj = .int .i64 (j : Nat) ∧ Srt w g n c xs wr) (fun _ vj _ => (intOf vj).toNat)
        case atStart => exact ⟨i2 + 1, j2 - 1, by omega, by omega, by omega, by omega, by go_num, by go_num, HS.out⟩
        case round =>
          obtain ⟨i, j, r1, r2, r3, r4, rfl, rfl, hs⟩ := hrel
          have HS := Lib.hid hs
          clear hs
          go_upto_block 6 with fail
          go_cut [10] (fun v wr => ∃ t : Nat, i ≤ t ∧ t ≤ j + 2 ∧ v = .int .i64 (t : Nat) ∧ Srt w g n c xs wr)
          case first =>
            go_wp2_with fail
            go_loopw [10] (fun v wr => ∃ t : Nat, i ≤ t ∧ t ≤ j + 2 ∧ v = .int .i64 (t : Nat) ∧ Srt w g n c xs wr) (fun v _ => (j + 2 - (intOf v).toNat))
            case atStart => exact ⟨i, by omega, by omega, rfl, HS.out⟩
            case round =>
              obtain ⟨t, k1, k2, rfl, ys, hp, hu, hc⟩ := hrel
              have HP := Lib.hid (And.intro hp (And.intro hu hc))
              clear hp hc
              by_cases hg : t ≤ j
              · have g0 : (t : Int) ≤ (j : Int) := by omega
                have g1 : (t : Int) < (n : Int) := by omega
                have g2 : t < n := by omega
                have g3 : (a : Int) < (n : Int) := by omega
                have g4 : a < n := by omega
                obtain ⟨c0, _⟩ := hu.cell (k := t) (by omega)
                obtain ⟨c1, _⟩ := hu.cell (k := a) (by omega)
                generalize hx0 : ys[t]?.getD 0 = x at *
                generalize hx1 : ys[a]?.getD 0 = y at *
                obtain ⟨q, hq⟩ := less_some x y
                have HQ := Lib.hid hq
                clear hu hq hx0 hx1
                cases q with
                | true =>
                  go_wp2_with fail
                  go_quiet ((go_at_call 103; exact q_same (HQ.out _)))
                  go_wp2_with fail
                  go_roundw
                  case rel => exact ⟨t + 1, by omega, by omega, by go_num, Srt.drewN ⟨ys, HP.out.1, HP.out.2.1, HP.out.2.2⟩ _⟩
                  case measure => simp [intOf] <;> omega
                | false =>
                  go_wp2_with fail
                  go_quiet ((go_at_call 103; exact q_same (HQ.out _)))
                  go_wp2_with fail
                  go_meet
                  exact ⟨t, k1, k2, rfl, Srt.drewN ⟨ys, HP.out.1, HP.out.2.1, HP.out.2.2⟩ _⟩
              · have g0 : ¬ (t : Int) ≤ (j : Int) := by omega
                have g1 : decide (t ≤ j) = false := by simpa using hg
                clear hu
                go_wp2_with fail
                go_quiet (fail)
                go_wp2_with fail
                go_meet
                exact ⟨t, k1, k2, rfl, Srt.drewN ⟨ys, HP.out.1, HP.out.2.1, HP.out.2.2⟩ _⟩
          obtain ⟨t, k1, k2, rfl, hs⟩ := hcut
          have HS := Lib.hid hs
          clear hs
          obtain ⟨i3, hi3⟩ : ∃ i3, i3 = t := ⟨_, rfl⟩
          subst hi3
          go_upto_block 8 with fail
          go_cut [11] (fun v wr => ∃ t : Nat, a ≤ t ∧ t ≤ j ∧ v = .int .i64 (t : Nat) ∧ Srt w g n c xs wr)
          case first =>
            go_wp2_with fail
            go_loopw [11] (fun v wr => ∃ t : Nat, a ≤ t ∧ t ≤ j ∧ v = .int .i64 (t : Nat) ∧ Srt w g n c xs wr) (fun v _ => (intOf v).toNat)
            case atStart => exact ⟨j, by omega, by omega, rfl, HS.out⟩
            case round =>
              obtain ⟨t, k1, k2, rfl, ys, hp, hu, hc⟩ := hrel
              have HP := Lib.hid (And.intro hp (And.intro hu hc))
              clear hp hc
              by_cases hg : i3 ≤ t
              · have g0 : (i3 : Int) ≤ (t : Int) := by omega
                have g1 : (t : Int) < (n : Int) := by omega
                have g2 : t < n := by omega
                have g3 : (a : Int) < (n : Int) := by omega
                have g4 : a < n := by omega
                obtain ⟨c0, _⟩ := hu.cell (k := t) (by omega)
                obtain ⟨c1, _⟩ := hu.cell (k := a) (by omega)
                generalize hx0 : ys[t]?.getD 0 = x at *
                generalize hx1 : ys[a]?.getD 0 = y at *
                obtain ⟨q, hq⟩ := less_some x y
                have HQ := Lib.hid hq
                clear hu hq hx0 hx1
                cases q with
                | false =>
                  go_wp2_with fail
                  go_quiet ((go_at_call 103; exact q_same (HQ.out _)))
                  go_wp2_with fail
                  go_roundw
                  case rel => exact ⟨t - 1, by omega, by omega, by go_num, Srt.drewN ⟨ys, HP.out.1, HP.out.2.1, HP.out.2.2⟩ _⟩
                  case measure => simp [intOf] <;> omega
                | true =>
                  go_wp2_with fail
                  go_quiet ((go_at_call 103; exact q_same (HQ.out _)))
                  go_wp2_with fail
                  go_meet
                  exact ⟨t, k1, k2, rfl, Srt.drewN ⟨ys, HP.out.1, HP.out.2.1, HP.out.2.2⟩ _⟩
              · have g0 : ¬ (i3 : Int) ≤ (t : Int) := by omega
                have g1 : decide (i3 ≤ t) = false := by simpa using hg
                clear hu
                go_wp2_with fail
                go_quiet (fail)
                go_wp2_with fail
                go_meet
                exact ⟨t, k1, k2, rfl, Srt.drewN ⟨ys, HP.out.1, HP.out.2.1, HP.out.2.2⟩ _⟩
          obtain ⟨t, k1, k2, rfl, hs⟩ := hcut
          have HS := Lib.hid hs
          clear hs
          obtain ⟨j3, hj3⟩ : ∃ j3, j3 = t := ⟨_, rfl⟩
          subst hj3
          obtain ⟨ys, hp, hu, hc⟩ := HS.out
          have HP := Lib.hid (And.intro hp (And.intro hu hc))
          clear hp hc HS
          by_cases hij3 : j3 < i3
          · have t2 : (j3 : Int) < (i3 : Int) := by omega
            have s1 : (j3 : Int) < (n : Int) := by omega
            have s2 : (a : Int) < (n : Int) := by omega
            have s3 : j3 < n := by omega
            have s4 : a < n := by omega
            obtain ⟨c0, f0⟩ := hu.cell (k := j3) (by omega)
            obtain ⟨c1, f1⟩ := hu.cell (k := a) (by omega)
            have SW := Lib.hid (hu.swap (i := j3) (j := a) (by omega) (by omega))
            obtain ⟨x, hx⟩ : ∃ x, x = ys[j3]?.getD 0 := ⟨_, rfl⟩
            obtain ⟨y, hy⟩ : ∃ y, y = ys[a]?.getD 0 := ⟨_, rfl⟩
            rw [← hx] at c0 SW
            rw [← hy] at c1 SW
            obtain ⟨z, hz⟩ := cell?_setCell_some (w := wc) (p := ⟨g, j3, none⟩) (x := .int .u32 y) (q := ⟨g, a, none⟩) (v := .int .u32 y) c1
            clear hu hx hy
            go_wp2_with fail
            go_region
            all_goals
              have HS := Lib.hid (Srt.trans HP.out.1 HP.out.2.2 (SW.out.drewN 1))
              clear c0 c1 f0 f1 hz s1 s2 s3 s4 SW HP
              go_wp2_with fail
              exact bodyPost_ret (v := .tuple #[.int .i64 (j3 : Nat), .bool false]) (by simp [results, Tryz.results105, go_sem, *]) rfl ⟨⟨j3, _, rfl, by omega, by omega⟩, HS.out⟩
          · have t2 : ¬ (j3 : Int) < (i3 : Int) := by omega
            have s1 : (i3 : Int) < (n : Int) := by omega
            have s2 : (j3 : Int) < (n : Int) := by omega
            have s3 : i3 < n := by omega
            have s4 : j3 < n := by omega
            obtain ⟨c0, f0⟩ := hu.cell (k := i3) (by omega)
            obtain ⟨c1, f1⟩ := hu.cell (k := j3) (by omega)
            have SW := Lib.hid (hu.swap (i := i3) (j := j3) (by omega) (by omega))
            obtain ⟨x, hx⟩ : ∃ x, x = ys[i3]?.getD 0 := ⟨_, rfl⟩
            obtain ⟨y, hy⟩ : ∃ y, y = ys[j3]?.getD 0 := ⟨_, rfl⟩
            rw [← hx] at c0 SW
            rw [← hy] at c1 SW
            obtain ⟨z, hz⟩ := cell?_setCell_some (w := wc) (p := ⟨g, i3, none⟩) (x := .int .u32 y) (q := ⟨g, j3, none⟩) (v := .int .u32 y) c1
            clear hu hx hy
            go_wp2_with fail
            go_region
            all_goals
              have HS := Lib.hid (Srt.trans HP.out.1 HP.out.2.2 (SW.out.drewN 1))
              clear c0 c1 f0 f1 hz s1 s2 s3 s4 SW HP
              go_wp2_with fail
              go_roundw
              case rel => exact ⟨i3 + 1, j3 - 1, by omega, by omega, by omega, by omega, by go_num, by go_num, HS.out⟩
              case measure => simp [intOf] <;> omega

set_option maxRecDepth 100000 in
set_option maxHeartbeats 16000000 in
theorem parteq_any (g n c a b p : Nat) (xs : List Int) (w : World) (h : U32At w g n c xs) (hap : a ≤ p) (hpb : p < b) (hb : b ≤ n) (hn : n ≤ 1000000000) :
    Calls Tryz.prog 104 #[.slice (some ⟨g, 0, none⟩) n c, .int .i64 (a : Nat), .int .i64 (b : Nat), .int .i64 (p : Nat)] w fun e w' => (∃ (m : Nat), e = .returned (.int .i64 (m : Nat)) ∧ a < m ∧ m ≤ b) ∧ Srt w g n c xs w' := by
  obtain ⟨j0, hj0⟩ : ∃ j0, b = j0 + 1 := ⟨b - 1, by omega⟩
  have jj : (b : Int) - 1 = (j0 : Int) := by omega
  have bj1 : j0 + 1 ≤ b := by omega
  have bj2 : b ≤ j0 + 1 := by omega
  clear hj0
  obtain ⟨ys, hp, hu, hc⟩ := Srt.refl h
  have HP := Lib.hid (And.intro hp (And.intro hu hc))
  clear hp hc h
  have s1 : (a : Int) < (n : Int) := by omega
  have s2 : (p : Int) < (n : Int) := by omega
  have s3 : a < n := by omega
  have s4 : p < n := by omega
  obtain ⟨c0, f0⟩ := hu.cell (k := a) (by omega)
  obtain ⟨c1, f1⟩ := hu.cell (k := p) (by omega)
  have SW := Lib.hid (hu.swap (i := a) (j := p) (by omega) (by omega))
  obtain ⟨x, hx⟩ : ∃ x, x = ys[a]?.getD 0 := ⟨_, rfl⟩
  obtain ⟨y, hy⟩ : ∃ y, y = ys[p]?.getD 0 := ⟨_, rfl⟩
  rw [← hx] at c0 SW
  rw [← hy] at c1 SW
  obtain ⟨z, hz⟩ := cell?_setCell_some (w := w) (p := ⟨g, a, none⟩) (x := .int .u32 y) (q := ⟨g, p, none⟩) (v := .int .u32 y) c1
  clear hu hx hy
  go_enter Tryz.func104, Tryz.ntmps104
  go_wp2_with fail
  go_region
  all_goals
    have HS := Lib.hid (Srt.trans HP.out.1 HP.out.2.2 (SW.out.drewN 1))
    clear c0 c1 f0 f1 hz s1 s2 s3 s4
    clear SW HP
    go_wp2_with fail
    go_loopw [9, 10] (fun vi vj wr => ∃ i j : Nat, a + 1 ≤ i ∧ i ≤ j0 + 1 ∧ a ≤ j ∧ j < j0 + 1 ∧ vi = .int .i64 (i : Nat) ∧ vj = .int .i64 (j : Nat) ∧ Srt w g n c xs wr) (fun _ vj _ => (intOf vj).toNat)
    case atStart => exact ⟨a + 1, j0, by omega, by omega, by omega, by omega, by go_num, by go_num, HS.out⟩
    case round =>
      obtain ⟨i, j, r1, r2, r3, r4, rfl, rfl, hs⟩ := hrel
      have HS := Lib.hid hs
      clear hs
      go_upto_block 2 with fail
      go_cut [9] (fun v wr => ∃ t : Nat, i ≤ t ∧ t ≤ j0 + 1 ∧ v = .int .i64 (t : Nat) ∧ Srt w g n c xs wr)
      case first =>
        go_wp2_with fail
        go_loopw [9] (fun v wr => ∃ t : Nat, i ≤ t ∧ t ≤ j0 + 1 ∧ v = .int .i64 (t : Nat) ∧ Srt w g n c xs wr) (fun v _ => (j0 + 1 - (intOf v).toNat))
        case atStart => exact ⟨i, by omega, by omega, rfl, HS.out⟩
        case round =>
          obtain ⟨t, k1, k2, rfl, ys, hp, hu, hc⟩ := hrel
          have HP := Lib.hid (And.intro hp (And.intro hu hc))
          clear hp hc
          by_cases hg : t ≤ j
          · have g0 : (t : Int) ≤ (j : Int) := by omega
            have g1 : (t : Int) < (n : Int) := by omega
            have g2 : t < n := by omega
            have g3 : (a : Int) < (n : Int) := by omega
            have g4 : a < n := by omega
            obtain ⟨c0, _⟩ := hu.cell (k := t) (by omega)
            obtain ⟨c1, _⟩ := hu.cell (k := a) (by omega)
            generalize hx0 : ys[t]?.getD 0 = x at *
            generalize hx1 : ys[a]?.getD 0 = y at *
            obtain ⟨q, hq⟩ := less_some y x
            have HQ := Lib.hid hq
            clear hu hq hx0 hx1
            cases q with
            | false =>
              go_wp2_with fail
              go_quiet ((go_at_call 103; exact q_same (HQ.out _)))
              go_wp2_with fail
              go_roundw
              case rel => exact ⟨t + 1, by omega, by omega, by go_num, Srt.drewN ⟨ys, HP.out.1, HP.out.2.1, HP.out.2.2⟩ _⟩
              case measure => simp [intOf] <;> omega
            | true =>
              go_wp2_with fail
              go_quiet ((go_at_call 103; exact q_same (HQ.out _)))
              go_wp2_with fail
              go_meet
              exact ⟨t, k1, k2, rfl, Srt.drewN ⟨ys, HP.out.1, HP.out.2.1, HP.out.2.2⟩ _⟩
          · have g0 : ¬ (t : Int) ≤ (j : Int) := by omega
            have g1 : decide (t ≤ j) = false := by simpa using hg
            clear hu
            go_wp2_with fail
            go_quiet (fail)
            go_wp2_with fail
            go_meet
            exact ⟨t, k1, k2, rfl, Srt.drewN ⟨ys, HP.out.1, HP.out.2.1, HP.out.2.2⟩ _⟩
      obtain ⟨t, k1, k2, rfl, hs⟩ := hcut
      have HS := Lib.hid hs
      clear hs
      obtain ⟨i3, hi3⟩ : ∃ i3, i3 = t := ⟨_, rfl⟩
      subst hi3
      go_upto_block 4 with fail
      go_cut [10] (fun v wr => ∃ t : Nat, a ≤ t ∧ t ≤ j ∧ v = .int .i64 (t : Nat) ∧ Srt w g n c xs wr)
      case first =>
        go_wp2_with fail
        go_loopw [10] (fun v wr => ∃ t : Nat, a ≤ t ∧ t ≤ j ∧ v = .int .i64 (t : Nat) ∧ Srt w g n c xs wr) (fun v _ => (intOf v).toNat)
        case atStart => exact ⟨j, by omega, by omega, rfl, HS.out⟩
        case round =>
          obtain ⟨t, k1, k2, rfl, ys, hp, hu, hc⟩ := hrel
          have HP := Lib.hid (And.intro hp (And.intro hu hc))
          clear hp hc
          by_cases hg : i3 ≤ t
          · have g0 : (i3 : Int) ≤ (t : Int) := by omega
            have g1 : (t : Int) < (n : Int) := by omega
            have g2 : t < n := by omega
            have g3 : (a : Int) < (n : Int) := by omega
            have g4 : a < n := by omega
            obtain ⟨c0, _⟩ := hu.cell (k := t) (by omega)
            obtain ⟨c1, _⟩ := hu.cell (k := a) (by omega)
            generalize hx0 : ys[t]?.getD 0 = x at *
            generalize hx1 : ys[a]?.getD 0 = y at *
            obtain ⟨q, hq⟩ := less_some y x
            have HQ := Lib.hid hq
            clear hu hq hx0 hx1
            cases q with
            | true =>
              go_wp2_with fail
              go_quiet ((go_at_call 103; exact q_same (HQ.out _)))
              go_wp2_with fail
              go_roundw
              case rel => exact ⟨t - 1, by omega, by omega, by go_num, Srt.drewN ⟨ys, HP.out.1, HP.out.2.1, HP.out.2.2⟩ _⟩
              case measure => simp [intOf] <;> omega
            | false =>
              go_wp2_with fail
              go_quiet ((go_at_call 103; exact q_same (HQ.out _)))
              go_wp2_with fail
              go_meet
              exact ⟨t, k1, k2, rfl, Srt.drewN ⟨ys, HP.out.1, HP.out.2.1, HP.out.2.2⟩ _⟩
          · have g0 : ¬ (i3 : Int) ≤ (t : Int) := by omega
            have g1 : decide (i3 ≤ t) = false := by simpa using hg
            clear hu
            go_wp2_with fail
            go_quiet (fail)
            go_wp2_with fail
            go_meet
            exact ⟨t, k1, k2, rfl, Srt.drewN ⟨ys, HP.out.1, HP.out.2.1, HP.out.2.2⟩ _⟩
      obtain ⟨t, k1, k2, rfl, hs⟩ := hcut
      have HS := Lib.hid hs
      clear hs
      obtain ⟨j3, hj3⟩ : ∃ j3, j3 = t := ⟨_, rfl⟩
      subst hj3
      by_cases hij3 : j3 < i3
      · have t2 : (j3 : Int) < (i3 : Int) := by omega
        go_wp2_with fail
        exact bodyPost_ret (v := .int .i64 (i3 : Nat)) (by simp [results, Tryz.results104, go_sem, *]) rfl ⟨⟨i3, rfl, by omega, by omega⟩, HS.out⟩
      · have t2 : ¬ (j3 : Int) < (i3 : Int) := by omega
        obtain ⟨ys, hp, hu, hc⟩ := HS.out
        have HP := Lib.hid (And.intro hp (And.intro hu hc))
        clear hp hc HS
        have s1 : (i3 : Int) < (n : Int) := by omega
        have s2 : (j3 : Int) < (n : Int) := by omega
        have s3 : i3 < n := by omega
        have s4 : j3 < n := by omega
        obtain ⟨c0, f0⟩ := hu.cell (k := i3) (by omega)
        obtain ⟨c1, f1⟩ := hu.cell (k := j3) (by omega)
        have SW := Lib.hid (hu.swap (i := i3) (j := j3) (by omega) (by omega))
        obtain ⟨x, hx⟩ : ∃ x, x = ys[i3]?.getD 0 := ⟨_, rfl⟩
        obtain ⟨y, hy⟩ : ∃ y, y = ys[j3]?.getD 0 := ⟨_, rfl⟩
        rw [← hx] at c0 SW
        rw [← hy] at c1 SW
        obtain ⟨z, hz⟩ := cell?_setCell_some (w := wc) (p := ⟨g, i3, none⟩) (x := .int .u32 y) (q := ⟨g, j3, none⟩) (v := .int .u32 y) c1
        clear hu hx hy
        go_wp2_with fail
        go_region
        all_goals
          have HS := Lib.hid (Srt.trans HP.out.1 HP.out.2.2 (SW.out.drewN 1))
          clear c0 c1 f0 f1 hz s1 s2 s3 s4 SW HP
          go_wp2_with fail
          go_roundw
          case rel => exact ⟨i3 + 1, j3 - 1, by omega, by omega, by omega, by omega, by go_num, by go_num, HS.out⟩
          case measure => simp [intOf] <;> omega
end Go.Proofs.YtciokbngjfeihaaGreat

