/- The library's sort of uint32: what it leaves is a permutation (4): insertion in part. -/
import Derived.Test.YtciokbngjfeihaaGreatSrtB
import Derived.Deep.DeepCutAuto
import Derived.Deep.CutBlock
namespace Go.Proofs.YtciokbngjfeihaaGreat
open Go Go.RowKit
set_option linter.unusedSimpArgs false
set_option linter.unusedVariables false

/-- a truth is told -/
def SomeB (e : Ending) : Prop := ∃ q : Bool, e = .returned (.bool q)
set_option maxRecDepth 100000 in
set_option maxHeartbeats 16000000 in
theorem partial_any (g n c a b : Nat) (xs : List Int) (w : World) (h : U32At w g n c xs) (hab : a < b) (hb : b ≤ n) (hn : n ≤ 1000000000) :
    Calls Tryz.prog 102 #[.slice (some ⟨g, 0, none⟩) n c, .int .i64 (a : Nat), .int .i64 (b : Nat)] w fun e w' => SomeB e ∧ Srt w g n c xs w' := by
  have HS := Lib.hid (Srt.refl h)
  clear h
  go_enter Tryz.func102, Tryz.ntmps102
  go_wp2_with fail
  go_loopw [7, 8] (fun vi vk wr => ∃ i k : Nat, a + 1 ≤ i ∧ i ≤ b ∧ k ≤ 5 ∧ vi = .int .i64 (i : Nat) ∧ vk = .int .i64 (k : Nat) ∧ Srt w g n c xs wr) (fun _ vk _ => 5 - (intOf vk).toNat)
  case atStart => exact ⟨a + 1, 0, by omega, by omega, by omega, by go_num, rfl, HS.out⟩
  case round =>
    obtain ⟨i, k, r1, r2, r3, rfl, rfl, hs⟩ := hrel
    have HS := Lib.hid hs
    clear hs
    by_cases hk : k < 5
    · have hki : (k : Int) < 5 := by omega
      go_upto_block 2 with fail
      go_cut [7] (fun v wr => ∃ t : Nat, i ≤ t ∧ t ≤ b ∧ v = .int .i64 (t : Nat) ∧ Srt w g n c xs wr)
      case first =>
        go_wp2_with fail
        go_loopw [7] (fun v wr => ∃ t : Nat, i ≤ t ∧ t ≤ b ∧ v = .int .i64 (t : Nat) ∧ Srt w g n c xs wr) (fun v _ => b - (intOf v).toNat)
        case atStart => exact ⟨i, Nat.le_refl _, r2, rfl, HS.out⟩
        case round =>
          obtain ⟨t, k1, k2, rfl, ys, hp, hu, hc⟩ := hrel
          have HP := Lib.hid (And.intro hp (And.intro hu hc))
          clear hp hc
          by_cases hg : t < b
          · have g0 : (t : Int) < (b : Int) := by omega
            have g1 : (t : Int) < (n : Int) := by omega
            have g2 : t < n := by omega
            have p1 : ((t : Int) - 1).toNat = t - 1 := by omega
            have p2 : (0 : Int) ≤ (t : Int) - 1 := by omega
            have p3 : (t : Int) - 1 < (n : Int) := by omega
            have p4 := wrapN ((t : Int) - 1) (by omega) (by omega)
            have g3 : t - 1 < n := by omega
            obtain ⟨c0, _⟩ := hu.cell (k := t) (by omega)
            obtain ⟨c1, _⟩ := hu.cell (k := t - 1) (by omega)
            generalize hx0 : ys[t]?.getD 0 = x at *
            generalize hx1 : ys[t - 1]?.getD 0 = y at *
            obtain ⟨q, hq⟩ := less_some x y
            have HQ := Lib.hid hq
            clear hu hq hx0 hx1
            cases q with
            | false =>
              go_wp2_with fail
              go_quiet ((go_at_call 103; exact q_same (HQ.out _)))
              go_wp2_with fail
              go_roundw
              case rel => exact ⟨t + 1, by omega, by omega, by go_num, Srt.drewN ⟨ys, HP.out.1, HP.out.2.1, HP.out.2.2⟩ _⟩
              case measure => simp [intOf] <;> omega
            | true =>
              go_wp2_with fail
              go_quiet ((go_at_call 103; exact q_same (HQ.out _)))
              go_wp2_with fail
              go_meet
              exact ⟨t, k1, k2, rfl, Srt.drewN ⟨ys, HP.out.1, HP.out.2.1, HP.out.2.2⟩ _⟩
          · have g0 : ¬ (t : Int) < (b : Int) := by omega
            have g1 : decide (t < b) = false := by simpa using hg
            clear hu
            go_wp2_with fail
            go_quiet (fail)
            go_wp2_with fail
            go_meet
            exact ⟨t, k1, k2, rfl, Srt.drewN ⟨ys, HP.out.1, HP.out.2.1, HP.out.2.2⟩ _⟩
      obtain ⟨t, k1, k2, rfl, hs⟩ := hcut
      have HS := Lib.hid hs
      clear hs
      by_cases htb : t = b
      · subst htb
        go_wp2_with fail
        exact bodyPost_ret (v := .bool true) (by simp [results, Tryz.results102, go_sem, *]) rfl ⟨⟨_, rfl⟩, HS.out⟩
      · have htb2 : (t == b) = false := by simpa using htb
        have htb3 : ((t : Int) == (b : Int)) = false := by simp; omega
        have htlt : t < b := by omega
        clear htb
        by_cases h50 : (b : Int) - (a : Int) < 50
        · go_wp2_with fail
          exact bodyPost_ret (v := .bool false) (by simp [results, Tryz.results102, go_sem, *]) rfl ⟨⟨_, rfl⟩, HS.out⟩
        · obtain ⟨ys, hp, hu, hc⟩ := HS.out
          have HP := Lib.hid (And.intro hp (And.intro hu hc))
          clear hp hc HS
          have p1 : ((t : Int) - 1).toNat = t - 1 := by omega
          have p2 : (0 : Int) ≤ (t : Int) - 1 := by omega
          have p3 : (t : Int) - 1 < (n : Int) := by omega
          have p4 := wrapN ((t : Int) - 1) (by omega) (by omega)
          have s1 : (t : Int) < (n : Int) := by omega
          have s2 : (t - 1 : Int) < (n : Int) := by omega
          have s3 : t < n := by omega
          have s4 : t - 1 < n := by omega
          obtain ⟨c0, f0⟩ := hu.cell (k := t) (by omega)
          obtain ⟨c1, f1⟩ := hu.cell (k := t - 1) (by omega)
          have SW := Lib.hid (hu.swap (i := t) (j := t - 1) (by omega) (by omega))
          obtain ⟨x, hx⟩ : ∃ x, x = ys[t]?.getD 0 := ⟨_, rfl⟩
          obtain ⟨y, hy⟩ : ∃ y, y = ys[t - 1]?.getD 0 := ⟨_, rfl⟩
          rw [← hx] at c0 SW
          rw [← hy] at c1 SW
          obtain ⟨z, hz⟩ := cell?_setCell_some (w := wc) (p := ⟨g, t, none⟩) (x := .int .u32 y) (q := ⟨g, t - 1, none⟩) (v := .int .u32 y) c1
          clear hu hx hy
          go_wp2_with fail
          go_region
          all_goals
            have HS := Lib.hid (Srt.trans HP.out.1 HP.out.2.2 (SW.out.drewN 1))
            clear c0 c1 f0 f1 hz SW HP s1 s2 s3 s4
            go_upto_if 61 with fail
            go_cut [7] (fun v wr => v = .int .i64 (t : Nat) ∧ Srt w g n c xs wr)
            case first =>
              by_cases h2 : 2 ≤ (t : Int) - (a : Int)
              · go_wp2_with fail
                go_loopw [9] (fun v wr => ∃ j : Nat, j + 1 ≤ t ∧ v = .int .i64 (j : Nat) ∧ Srt w g n c xs wr) (fun v _ => (intOf v).toNat)
                case atStart => exact ⟨t - 1, by omega, by go_num, HS.out⟩
                case round =>
                  obtain ⟨j, j1, rfl, ys, hp, hu, hc⟩ := hrel
                  have HP := Lib.hid (And.intro hp (And.intro hu hc))
                  clear hp hc
                  by_cases hj : 1 ≤ j
                  · have hji : (1 : Int) ≤ (j : Int) := by omega
                    have p1 : ((j : Int) - 1).toNat = j - 1 := by omega
                    have p2 : (0 : Int) ≤ (j : Int) - 1 := by omega
                    have p3 : (j : Int) - 1 < (n : Int) := by omega
                    have p4 := wrapN ((j : Int) - 1) (by omega) (by omega)
                    have s1 : (j : Int) < (n : Int) := by omega
                    have s2 : (j - 1 : Int) < (n : Int) := by omega
                    have s3 : j < n := by omega
                    have s4 : j - 1 < n := by omega
                    obtain ⟨c0, f0⟩ := hu.cell (k := j) (by omega)
                    obtain ⟨c1, f1⟩ := hu.cell (k := j - 1) (by omega)
                    have SW := Lib.hid (hu.swap (i := j) (j := j - 1) (by omega) (by omega))
                    obtain ⟨x, hx⟩ : ∃ x, x = ys[j]?.getD 0 := ⟨_, rfl⟩
                    obtain ⟨y, hy⟩ : ∃ y, y = ys[j - 1]?.getD 0 := ⟨_, rfl⟩
                    rw [← hx] at c0 SW
                    rw [← hy] at c1 SW
                    obtain ⟨z, hz⟩ := cell?_setCell_some (w := wr) (p := ⟨g, j, none⟩) (x := .int .u32 y) (q := ⟨g, j - 1, none⟩) (v := .int .u32 y) c1
                    obtain ⟨q, hq⟩ := less_some x y
                    have HQ := Lib.hid hq
                    clear hu hq hx hy
                    cases q with
                    | true =>
                      go_wp2_with fail
                      go_quiet ((go_at_call 103; exact q_same (HQ.out _)))
                      go_wp2_with fail
                      go_region
                      all_goals
                        go_wp2_with fail
                        go_roundw
                        case rel => exact ⟨j - 1, by omega, by go_num, Srt.trans HP.out.1 HP.out.2.2 (SW.out.drewN _)⟩
                        case measure => simp [intOf] <;> omega
                    | false =>
                      go_wp2_with fail
                      go_quiet ((go_at_call 103; exact q_same (HQ.out _)))
                      go_wp2_with fail
                      go_meet
                      exact ⟨rfl, (Srt.drewN ⟨ys, HP.out.1, HP.out.2.1, HP.out.2.2⟩ _)⟩
                  · have hji : ¬ (1 : Int) ≤ (j : Int) := by omega
                    clear hu
                    go_wp2_with fail
                    go_meet
                    exact ⟨rfl, ys, HP.out.1, HP.out.2.1, HP.out.2.2⟩
              · go_wp2_with fail
                go_meet
                exact ⟨rfl, HS.out⟩
            obtain ⟨rfl, hs⟩ := hcut
            have HS := Lib.hid hs
            clear hs
            by_cases h2 : 2 ≤ (b : Int) - (t : Int)
            · go_wp2_with fail
              obtain ⟨wo, hwo⟩ : ∃ wo : World, wo = wc := ⟨_, rfl⟩
              rw [← hwo] at HS
              subst hwo
              go_loopw [10] (fun v wr => ∃ j : Nat, t + 1 ≤ j ∧ j ≤ b ∧ v = .int .i64 (j : Nat) ∧ Srt w g n c xs wr) (fun v _ => b - (intOf v).toNat)
              case atStart => exact ⟨t + 1, by omega, by omega, by go_num, HS.out⟩
              case round =>
                obtain ⟨j, j1, j2, rfl, ys, hp, hu, hc⟩ := hrel
                have HP := Lib.hid (And.intro hp (And.intro hu hc))
                clear hp hc
                by_cases hj : j < b
                · have hji : (j : Int) < (b : Int) := by omega
                  have p1 : ((j : Int) - 1).toNat = j - 1 := by omega
                  have p2 : (0 : Int) ≤ (j : Int) - 1 := by omega
                  have p3 : (j : Int) - 1 < (n : Int) := by omega
                  have p4 := wrapN ((j : Int) - 1) (by omega) (by omega)
                  have s1 : (j : Int) < (n : Int) := by omega
                  have s2 : (j - 1 : Int) < (n : Int) := by omega
                  have s3 : j < n := by omega
                  have s4 : j - 1 < n := by omega
                  obtain ⟨c0, f0⟩ := hu.cell (k := j) (by omega)
                  obtain ⟨c1, f1⟩ := hu.cell (k := j - 1) (by omega)
                  have SW := Lib.hid (hu.swap (i := j) (j := j - 1) (by omega) (by omega))
                  obtain ⟨x, hx⟩ : ∃ x, x = ys[j]?.getD 0 := ⟨_, rfl⟩
                  obtain ⟨y, hy⟩ : ∃ y, y = ys[j - 1]?.getD 0 := ⟨_, rfl⟩
                  rw [← hx] at c0 SW
                  rw [← hy] at c1 SW
                  obtain ⟨z, hz⟩ := cell?_setCell_some (w := wr) (p := ⟨g, j, none⟩) (x := .int .u32 y) (q := ⟨g, j - 1, none⟩) (v := .int .u32 y) c1
                  obtain ⟨q, hq⟩ := less_some x y
                  have HQ := Lib.hid hq
                  clear hu hq hx hy
                  cases q with
                  | true =>
                    go_wp2_with fail
                    go_quiet ((go_at_call 103; exact q_same (HQ.out _)))
                    go_wp2_with fail
                    go_region
                    all_goals
                      go_wp2_with fail
                      go_roundw
                      case rel => exact ⟨j + 1, by omega, by omega, by go_num, Srt.trans HP.out.1 HP.out.2.2 (SW.out.drewN _)⟩
                      case measure => simp [intOf] <;> omega
                  | false =>
                    go_wp2_with fail
                    go_quiet ((go_at_call 103; exact q_same (HQ.out _)))
                    go_wp2_with fail
                    go_roundw
                    case rel => exact ⟨t, k + 1, by omega, by omega, by omega, rfl, by go_num, (Srt.drewN ⟨ys, HP.out.1, HP.out.2.1, HP.out.2.2⟩ _)⟩
                    case measure => simp [intOf] <;> omega
                · have hji : ¬ (j : Int) < (b : Int) := by omega
                  clear hu
                  go_wp2_with fail
                  go_roundw
                  case rel => exact ⟨t, k + 1, by omega, by omega, by omega, rfl, by go_num, ys, HP.out.1, HP.out.2.1, HP.out.2.2⟩
                  case measure => simp [intOf] <;> omega
            · go_wp2_with fail
              go_roundw
              case rel => exact ⟨t, k + 1, by omega, by omega, by omega, rfl, by go_num, HS.out⟩
              case measure => simp [intOf] <;> omega
    · have hki : ¬ (k : Int) < 5 := by omega
      go_wp2_with fail
      exact bodyPost_ret (v := .bool false) (by simp [results, Tryz.results102, go_sem, *]) rfl ⟨⟨_, rfl⟩, HS.out⟩
end Go.Proofs.YtciokbngjfeihaaGreat

