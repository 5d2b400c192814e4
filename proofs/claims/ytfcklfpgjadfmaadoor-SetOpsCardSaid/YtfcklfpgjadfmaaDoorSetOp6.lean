/- SetOps: the walk, all cases. -/
import Derived.Test.YtfcklfpgjadfmaaDoorSetOp1
import Derived.Test.YtfcklfpgjadfmaaDoorSetOp2
import Derived.Test.YtfcklfpgjadfmaaDoorSetOp3
import Derived.Test.YtfcklfpgjadfmaaDoorSetOp4
import Derived.Test.YtfcklfpgjadfmaaDoorSetOp5
namespace Go.Proofs.YtfcklfpgjadfmaaDoor
open Go.RowKit Go.Sort
set_option linter.unusedSimpArgs false
set_option linter.unusedVariables false

theorem sops_walk (o m1 : Int) (A1 : Option Addr) (l1 c1 : Nat) (ws1 : List Nat) (m2 : Int) (A2 : Option Addr) (l2 c2 : Nat) (ws2 : List Nat) (m3 : Int) (A3 : Option Addr) (l3 c3 : Nat) (ws3 : List Nat) (w : World) (h1 : SetArg w m1 A1 l1 c1 ws1) (h2 : SetArg w m2 A2 l2 c2 ws2) (h3 : SetArg w m3 A3 l3 c3 ws3) :
    Calls Tryd.prog 7 #[.int .i64 o, .agg #[.int .i64 m1, .slice A1 l1 c1], .agg #[.int .i64 m2, .slice A2 l2 c2], .agg #[.int .i64 m3, .slice A3 l3 c3]] w fun e w' => e = .returned (.bool true) ∧ Below w.heap.size w w' := by
  cases hg1 : greatB m1 l1
  case true => exact sops_great1 o m1 m2 m3 A1 A2 A3 l1 l2 l3 c1 c2 c3 ws1 ws2 ws3 w h1 h2 h3 hg1
  cases hg2 : greatB m2 l2
  case true => exact sops_great2 o m1 m2 m3 A1 A2 A3 l1 l2 l3 c1 c2 c3 ws1 ws2 ws3 w h1 h2 h3 hg1 hg2
  cases hg3 : greatB m3 l3
  case true => exact sops_great3 o m1 m2 m3 A1 A2 A3 l1 l2 l3 c1 c2 c3 ws1 ws2 ws3 w h1 h2 h3 hg1 hg2 hg3
  cases hp : pairB m1 m2 ws1 ws2
  case false => exact sops_no o m1 m2 m3 A1 A2 A3 l1 l2 l3 c1 c2 c3 ws1 ws2 ws3 w h1 h2 h3 hg1 hg2 hg3 hp
  obtain ⟨n, rfl, rfl, ok1, ok2⟩ := pair_yes h1.lt h2.lt hp
  by_cases hc : srightB m3 ws3 = true ∧ m3 = (n : Nat)
  · obtain ⟨hc, rfl⟩ := hc
    obtain ⟨_, ok3⟩ := (sright_iff h3.lt).1 hc
    rw [Int.toNat_natCast] at ok3
    by_cases ho : 0 ≤ o ∧ o ≤ 15
    · obtain ⟨q, rfl⟩ := Int.eq_ofNat_of_zero_le ho.1
      exact sops_oc q (by omega) n A1 A2 A3 l1 l2 l3 c1 c2 c3 ws1 ws2 ws3 w h1 h2 h3 hg1 hg2 hg3 ok1 ok2 ok3
    · exact sops_xc o (by omega) n A1 A2 A3 l1 l2 l3 c1 c2 c3 ws1 ws2 ws3 w h1 h2 h3 hg1 hg2 hg3 ok1 ok2 ok3
  · have hno : srightB m3 ws3 = false ∨ (srightB m3 ws3 = true ∧ m3 ≠ (n : Nat)) := by
      cases h : srightB m3 ws3
      · exact .inl rfl
      · exact .inr ⟨rfl, fun e => hc ⟨h, e⟩⟩
    by_cases ho : 0 ≤ o ∧ o ≤ 15
    · obtain ⟨q, rfl⟩ := Int.eq_ofNat_of_zero_le ho.1
      exact sops_ox q (by omega) n m3 A1 A2 A3 l1 l2 l3 c1 c2 c3 ws1 ws2 ws3 w h1 h2 h3 hg1 hg2 hg3 ok1 ok2 hno
    · exact sops_xx o (by omega) n m3 A1 A2 A3 l1 l2 l3 c1 c2 c3 ws1 ws2 ws3 w h1 h2 h3 hg1 hg2 hg3 ok1 ok2 hno
end Go.Proofs.YtfcklfpgjadfmaaDoor
