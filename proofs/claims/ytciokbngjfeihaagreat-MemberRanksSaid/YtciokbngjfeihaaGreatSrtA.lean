/- The library's sort of uint32: what it leaves is a permutation (1): comparing, insertion. -/
import Derived.Test.YtciokbngjfeihaaGreatMa
import Derived.RegionTactic
import Derived.BigRegion
import Derived.Deep.QuietTactic
import Derived.BigQuiet
import Derived.IntWalk
namespace Go.Proofs.YtciokbngjfeihaaGreat
open Go Go.RowKit
set_option linter.unusedSimpArgs false
set_option linter.unusedVariables false

/-- a row of numbers at block g: n of them, in c places -/
def U32At (w : World) (g n c : Nat) (xs : List Int) : Prop := OwnF (Value.int .u32) 24 w 0 (.slice (some ⟨g, 0, none⟩) n c) xs
theorem U32At.len {w : World} {g n c : Nat} {xs : List Int} (h : U32At w g n c xs) : xs.length = n := by
  obtain ⟨A, n', c', e, e1, _⟩ := OwnF.form h
  injection e with _ e2 _
  omega
theorem U32At.drewN {w : World} {g n c : Nat} {xs : List Int} (h : U32At w g n c xs) (k : Nat) : U32At (w.drewN k) g n c xs := OwnF.drewN h k
/-- what a function of the sort leaves: the numbers in some order; nothing else has turned -/
def Srt (w : World) (g n c : Nat) (xs : List Int) (w' : World) : Prop := ∃ ys : List Int, ys.Perm xs ∧ U32At w' g n c ys ∧ Chg [g] w w'
theorem Srt.refl {w : World} {g n c : Nat} {xs : List Int} (h : U32At w g n c xs) : Srt w g n c xs w := ⟨xs, .refl _, h, Chg.refl _ _⟩
theorem Srt.drewN {w w' : World} {g n c : Nat} {xs : List Int} (h : Srt w g n c xs w') (k : Nat) : Srt w g n c xs (w'.drewN k) := by
  obtain ⟨ys, h1, h2, h3⟩ := h
  exact ⟨ys, h1, h2.drewN k, h3.drewN k⟩
theorem Srt.trans {w w1 w2 : World} {g n c : Nat} {xs ys : List Int} (h1 : ys.Perm xs) (h2 : Chg [g] w w1) (h : Srt w1 g n c ys w2) : Srt w g n c xs w2 := by
  obtain ⟨zs, k1, k2, k3⟩ := h
  exact ⟨zs, k1.trans h1, k2, h2.trans k3 (fun x hx => .inl hx)⟩
/-- two places exchanged -/
theorem swap_perm : ∀ (xs : List Int) (i j : Nat), i < xs.length → j < xs.length → ((xs.set i (xs[j]?.getD 0)).set j (xs[i]?.getD 0)).Perm xs := by
  intro xs i j hi hj
  rw [List.getElem?_eq_getElem hi, List.getElem?_eq_getElem hj]
  simp only [Option.getD_some]
  exact List.set_set_perm hi hj
theorem U32At.cell {w : World} {g n c : Nat} {xs : List Int} (h : U32At w g n c xs) {k : Nat} (hk : k < n) : w.cell? ⟨g, k, none⟩ = some (.int .u32 (xs[k]?.getD 0)) ∧ w.frozen? ⟨g, k, none⟩ = false := by
  have hl := h.len
  obtain ⟨h1, h2⟩ := OwnF.at_ h k (by omega)
  refine ⟨?_, h2⟩
  rw [h1, List.getElem?_eq_getElem (by omega)]
  rfl
theorem U32At.swap {w : World} {g n c : Nat} {xs : List Int} (h : U32At w g n c xs) {i j : Nat} (hi : i < n) (hj : j < n) : Srt w g n c xs ((w.setCell ⟨g, i, none⟩ (.int .u32 (xs[j]?.getD 0))).setCell ⟨g, j, none⟩ (.int .u32 (xs[i]?.getD 0))) := by
  have hl := h.len
  refine ⟨(xs.set i (xs[j]?.getD 0)).set j (xs[i]?.getD 0), swap_perm xs i j (by omega) (by omega), ?_, ((Chg.refl [g] w).setCell (p := ⟨g, i, none⟩) (.inl (by simp)) _).setCell (p := ⟨g, j, none⟩) (.inl (by simp)) _⟩
  exact OwnF.set_ (OwnF.set_ h i (xs[j]?.getD 0)) j (xs[i]?.getD 0)
set_option maxHeartbeats 1000000 in
theorem nan_any (x : Int) (w : World) : Calls Tryz.prog 113 #[.int .u32 x] w fun e w' => e = .returned (.bool false) ∧ w = w' := by
  go_enter Tryz.func113, Tryz.ntmps113
  go_wp2_with fail
  go_ret
  exact ⟨by simp, rfl⟩
set_option maxHeartbeats 1000000 in
theorem less_yes (x y : Int) (h : x < y) (w : World) : Calls Tryz.prog 103 #[.int .u32 x, .int .u32 y] w fun e w' => e = .returned (.bool true) ∧ w = w' := by
  have HN := Lib.hid (fun x W => nan_any x W)
  have hd : decide (x < y) = true := by simpa using h
  go_enter Tryz.func103, Tryz.ntmps103
  go_wp2_with fail
  refine (HN.out _ _).mono ?_
  rintro e w1 ⟨rfl, rfl⟩
  go_wp2_with fail
  go_ret
  exact ⟨rfl, rfl⟩
set_option maxHeartbeats 1000000 in
theorem less_no (x y : Int) (h : ¬ x < y) (w : World) : Calls Tryz.prog 103 #[.int .u32 x, .int .u32 y] w fun e w' => e = .returned (.bool false) ∧ w = w' := by
  have HN := Lib.hid (fun x W => nan_any x W)
  have hd : decide (x < y) = false := by simpa using h
  go_enter Tryz.func103, Tryz.ntmps103
  go_wp2_with fail
  refine (HN.out _ _).mono ?_
  rintro e w1 ⟨rfl, rfl⟩
  go_wp2_with fail
  go_ret
  exact ⟨rfl, rfl⟩
/-- what a comparison tells -/
theorem less_some (x y : Int) : ∃ q : Bool, ∀ w, Calls Tryz.prog 103 #[.int .u32 x, .int .u32 y] w fun e w' => e = .returned (.bool q) ∧ w = w' := by
  by_cases h : x < y
  · exact ⟨true, fun w => less_yes x y h w⟩
  · exact ⟨false, fun w => less_no x y h w⟩
set_option maxRecDepth 100000 in
set_option maxHeartbeats 8000000 in
theorem ins_any (g n c a b : Nat) (xs : List Int) (w : World) (h : U32At w g n c xs) (hab : a ≤ b) (hb : b ≤ n) (hn : n ≤ 1000000000) :
    Calls Tryz.prog 97 #[.slice (some ⟨g, 0, none⟩) n c, .int .i64 (a : Nat), .int .i64 (b : Nat)] w fun e w' => e = .returned (.tuple #[]) ∧ Srt w g n c xs w' := by
  have H := Lib.hid h
  clear h
  go_enter Tryz.func97, Tryz.ntmps97
  go_wp2_with fail
  go_loopw [6] (fun vi wr => ∃ i : Nat, a + 1 ≤ i ∧ i ≤ b + 1 ∧ vi = .int .i64 (i : Nat) ∧ Srt w g n c xs wr) (fun vi _ => b + 1 - (intOf vi).toNat)
  case atStart => exact ⟨a + 1, by omega, by omega, by go_num, Srt.refl H.out⟩
  case round =>
    obtain ⟨i, hi1, hi2, rfl, hs⟩ := hrel
    have HS := Lib.hid hs
    clear hs
    by_cases hib : i < b
    · have e1 : (i : Int) < (b : Int) := by omega
      go_wp2_with fail
      obtain ⟨wo, hwo⟩ : ∃ wo : World, wo = wr := ⟨_, rfl⟩
      rw [← hwo] at HS
      subst hwo
      go_loopw [7] (fun vj wq => ∃ j : Nat, a ≤ j ∧ j ≤ i ∧ vj = .int .i64 (j : Nat) ∧ Srt w g n c xs wq) (fun vj _ => (intOf vj).toNat)
      case atStart => exact ⟨i, by omega, by omega, rfl, HS.out⟩
      case round =>
        obtain ⟨j, hj1, hj2, rfl, ys, hp, hu, hc⟩ := hrel
        have HP := Lib.hid (And.intro hp (And.intro hu hc))
        clear hp hc
        by_cases hja : a < j
        · have e2 : (a : Int) < (j : Int) := by omega
          have e3 : (0 : Int) ≤ (j : Int) - 1 := by omega
          have e4 : (j : Int) - 1 < (n : Int) := by omega
          have e5 : ((j : Int) - 1).toNat = j - 1 := by omega
          have e6 : IntKind.i64.wrap ((j : Int) - 1) = (j : Int) - 1 := IntWalk.i64_in _ ⟨by omega, by omega⟩
          have e7 : (j : Int) < (n : Int) := by omega
          have e8 : j < n := by omega
          have e9 : j - 1 < n := by omega
          obtain ⟨c0, f0⟩ := hu.cell (k := j) (by omega)
          obtain ⟨c1, f1⟩ := hu.cell (k := j - 1) (by omega)
          have SW := Lib.hid (hu.swap (i := j) (j := j - 1) (by omega) (by omega))
          have hne : ¬ j = j - 1 := by omega
          have hne2 : ¬ j - 1 = j := by omega
          generalize ys[j]?.getD 0 = x at *
          generalize ys[j - 1]?.getD 0 = y at *
          obtain ⟨q, hq⟩ := less_some x y
          have HQ := Lib.hid hq
          clear hu hq
          cases q with
          | true =>
            go_wp2_with fail
            go_quiet ((go_at_call 103; exact q_same (HQ.out _)))
            go_wp2_with fail
            go_region
            all_goals
              go_wp2_with fail
              go_roundw
              case rel => exact ⟨j - 1, by omega, by omega, by go_num, Srt.trans HP.out.1 HP.out.2.2 (SW.out.drewN _)⟩
              case measure => simp [intOf]; omega
          | false =>
            go_wp2_with fail
            go_quiet ((go_at_call 103; exact q_same (HQ.out _)))
            go_wp2_with fail
            go_roundw
            case rel => exact ⟨i + 1, by omega, by omega, by go_num, Srt.drewN ⟨ys, HP.out.1, HP.out.2.1, HP.out.2.2⟩ _⟩
            case measure => simp [intOf]; omega
        · have e2 : ¬ (a : Int) < (j : Int) := by omega
          have e3 : decide (a < j) = false := by simpa using hja
          clear hu
          go_wp2_with fail
          go_quiet (fail)
          go_wp2_with fail
          go_roundw
          case rel => exact ⟨i + 1, by omega, by omega, by go_num, Srt.drewN ⟨ys, HP.out.1, HP.out.2.1, HP.out.2.2⟩ _⟩
          case measure => simp [intOf]; omega
    · have e1 : ¬ (i : Int) < (b : Int) := by omega
      go_wp2_with fail
      go_end0
      exact ⟨rfl, HS.out⟩
end Go.Proofs.YtciokbngjfeihaaGreat
