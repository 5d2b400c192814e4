/- The line of a step, the document's: any step. -/
import Derived.Test.YtnlhibhamechcaaGreatDoorRTa
import Derived.Test.YtnlhibhamechcaaGreatDoorRTb
import Derived.Test.YtnlhibhamechcaaGreatDoorRTc
import Derived.Test.YtnlhibhamechcaaGreatDoorRTd
import Derived.Test.YtnlhibhamechcaaGreatDoorRTu
import Derived.Test.YtnlhibhamechcaaGreatDoorRTe
namespace Go.Proofs.YtnlhibhamechcaaGreatDoor
open Go Go.RowKit
set_option linter.unusedSimpArgs false
set_option linter.unusedVariables false

theorem rtold_any (kn e : Nat) (sf sa sb sc sv skk : Int) (so : Bool) (h n : Int) (bits : Nat) (yes : Bool) (hs : (⟨kn, sf, sa, sb, sc, sv, skk, so⟩ : Stp).Wf) (hh : (Lit.int .i64 h).wf = true) (hn : (Lit.int .i64 n).wf = true) (hbits : bits ≤ 65535) (w : World) :
    Calls Tryz.prog 6 #[.agg #[.int .u8 (kn : Nat), .int .u8 sf, .int .i64 sa, .int .i64 sb, .int .i64 sc, .int .i64 sv, .int .u16 skk, .bool so], .agg #[.int .i64 (e : Nat), .int .i64 h, .int .i64 n, .int .i64 (bits : Nat), .bool yes]] w fun x w' => x = .returned (txt (toldT (⟨kn, sf, sa, sb, sc, sv, skk, so⟩ : Stp).text kn e h n bits yes)) ∧ Below w.heap.size w w' := by
  rcases Nat.lt_or_ge e 13 with h13 | h13
  · rcases (show e = 0 ∨ e = 1 ∨ e = 2 ∨ e = 3 ∨ e = 4 ∨ e = 5 ∨ e = 6 ∨ e = 7 ∨ e = 8 ∨ e = 9 ∨ e = 10 ∨ e = 11 ∨ e = 12 by omega) with rfl | rfl | rfl | rfl | rfl | rfl | rfl | rfl | rfl | rfl | rfl | rfl | rfl
    · rcases (show kn ≤ 16 ∨ kn = 17 ∨ kn = 18 ∨ kn = 19 ∨ kn = 20 ∨ kn = 21 ∨ kn = 22 ∨ kn = 23 ∨ kn = 24 ∨ kn = 25 ∨ kn = 26 ∨ kn = 27 ∨ kn = 28 ∨ kn = 29 ∨ 30 ≤ kn by omega) with hq | rfl | rfl | rfl | rfl | rfl | rfl | rfl | rfl | rfl | rfl | rfl | rfl | rfl | hq
      · exact rtold_A kn 0 sf sa sb sc sv skk so h n bits yes hs hh hn hbits hq w
      · exact rtold_17 17 0 sf sa sb sc sv skk so h n bits yes hs hh hn hbits w
      · exact rtold_18 18 0 sf sa sb sc sv skk so h n bits yes hs hh hn hbits w
      · exact rtold_19 19 0 sf sa sb sc sv skk so h n bits yes hs hh hn hbits w
      · exact rtold_20 20 0 sf sa sb sc sv skk so h n bits yes hs hh hn hbits w
      · exact rtold_21 21 0 sf sa sb sc sv skk so h n bits yes hs hh hn hbits w
      · exact rtold_22 22 0 sf sa sb sc sv skk so h n bits yes hs hh hn hbits w
      · exact rtold_23 23 0 sf sa sb sc sv skk so h n bits yes hs hh hn hbits w
      · exact rtold_24 24 0 sf sa sb sc sv skk so h n bits yes hs hh hn hbits w
      · exact rtold_25 25 0 sf sa sb sc sv skk so h n bits yes hs hh hn hbits w
      · exact rtold_26 26 0 sf sa sb sc sv skk so h n bits yes hs hh hn hbits w
      · exact rtold_27 27 0 sf sa sb sc sv skk so h n bits yes hs hh hn hbits w
      · exact rtold_28 28 0 sf sa sb sc sv skk so h n bits yes hs hh hn hbits w
      · exact rtold_29 29 0 sf sa sb sc sv skk so h n bits yes hs hh hn hbits w
      · exact rtold_C kn 0 sf sa sb sc sv skk so h n bits yes hs hh hn hbits hq w
    · exact rtold_e1 kn 1 sf sa sb sc sv skk so h n bits yes hs hh hn hbits w
    · exact rtold_e2 kn 2 sf sa sb sc sv skk so h n bits yes hs hh hn hbits w
    · exact rtold_e3 kn 3 sf sa sb sc sv skk so h n bits yes hs hh hn hbits w
    · exact rtold_e4 kn 4 sf sa sb sc sv skk so h n bits yes hs hh hn hbits w
    · exact rtold_e5 kn 5 sf sa sb sc sv skk so h n bits yes hs hh hn hbits w
    · exact rtold_e6 kn 6 sf sa sb sc sv skk so h n bits yes hs hh hn hbits w
    · exact rtold_e7 kn 7 sf sa sb sc sv skk so h n bits yes hs hh hn hbits w
    · exact rtold_e8 kn 8 sf sa sb sc sv skk so h n bits yes hs hh hn hbits w
    · exact rtold_e9 kn 9 sf sa sb sc sv skk so h n bits yes hs hh hn hbits w
    · exact rtold_e10 kn 10 sf sa sb sc sv skk so h n bits yes hs hh hn hbits w
    · exact rtold_e11 kn 11 sf sa sb sc sv skk so h n bits yes hs hh hn hbits w
    · exact rtold_e12 kn 12 sf sa sb sc sv skk so h n bits yes hs hh hn hbits w
  · exact rtold_U kn e sf sa sb sc sv skk so h n bits yes hs hh hn hbits h13 w
end Go.Proofs.YtnlhibhamechcaaGreatDoor
