/- SetMakes: the walk, all cases. -/
import Derived.Test.YtfcklfpgjadfmaaDoorSetMk2
import Derived.Test.YtfcklfpgjadfmaaDoorSetMk3
import Derived.Test.YtfcklfpgjadfmaaDoorSetMk4
namespace Go.Proofs.YtfcklfpgjadfmaaDoor
open Go.RowKit Go.Sort
set_option linter.unusedSimpArgs false
set_option linter.unusedVariables false

set_option maxRecDepth 100000 in
theorem smakes_great (n v : Int) (A : Option Addr) (len c : Nat) (w : World) (h : (8 < n ∧ n ≤ 16) ∨ 50 < len) :
    Calls Tryd.prog 6 #[.int .i64 n, .int .i64 v, .slice A len c] w fun e w' => e = .returned (.bool true) ∧ Below w.heap.size w w' := by
  have HAV := Lib.hid (fun W => alive5_any W)
  by_cases h1 : 8 < n
  · by_cases h2 : n ≤ 16
    · clear h
      go_enter Tryd.func6, Tryd.ntmps6
      go_wp2_with fail
      refine (HAV.out _).mono ?_
      rintro e w1 ⟨rfl, hb1⟩
      go_wp2_with fail
      go_ret
      exact ⟨rfl, hb1⟩
    · have h3 : (50 : Int) < (len : Int) := by omega
      clear h
      go_enter Tryd.func6, Tryd.ntmps6
      go_wp2_with fail
      refine (HAV.out _).mono ?_
      rintro e w1 ⟨rfl, hb1⟩
      go_wp2_with fail
      go_ret
      exact ⟨rfl, hb1⟩
  · have h3 : (50 : Int) < (len : Int) := by omega
    clear h
    go_enter Tryd.func6, Tryd.ntmps6
    go_wp2_with fail
    refine (HAV.out _).mono ?_
    rintro e w1 ⟨rfl, hb1⟩
    go_wp2_with fail
    go_ret
    exact ⟨rfl, hb1⟩
theorem smakes_walk (n v : Int) (A : Option Addr) (len c : Nat) (l : List Int) (w : World) (h : IntsArg w A len c l) :
    Calls Tryd.prog 6 #[.int .i64 n, .int .i64 v, .slice A len c] w fun e w' => e = .returned (.bool true) ∧ Below w.heap.size w w' := by
  by_cases hg : (8 < n ∧ n ≤ 16) ∨ 50 < len
  · exact smakes_great n v A len c w hg
  · by_cases hn : n < 0 ∨ 16 < n
    · exact smakes_no n v A len c l w h hn (by omega)
    · obtain ⟨m, rfl⟩ := Int.eq_ofNat_of_zero_le (show 0 ≤ n by omega)
      by_cases h0 : v < 0
      · exact smakes_low m (by omega) v h0 A len c l w h (by omega)
      · by_cases h1 : v < m
        · obtain ⟨u, rfl⟩ := Int.eq_ofNat_of_zero_le (show 0 ≤ v by omega)
          exact smakes_in m (by omega) u (by omega) A len c l w h (by omega)
        · exact smakes_high m (by omega) v h0 (by omega) A len c l w h (by omega)
end Go.Proofs.YtfcklfpgjadfmaaDoor
