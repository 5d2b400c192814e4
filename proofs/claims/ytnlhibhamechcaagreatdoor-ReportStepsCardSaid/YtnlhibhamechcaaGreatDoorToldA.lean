/- Contracts: names of errors; the line of a step, the program's. -/
import Derived.Test.YtnlhibhamechcaaGreatDoorRepA
namespace Go.Proofs.YtnlhibhamechcaaGreatDoor
open Go Go.RowKit
set_option linter.unusedSimpArgs false
set_option linter.unusedVariables false

def errL : List (List UInt8) := [[111, 107], [97, 114, 103], [110, 105, 108], [118, 97, 114], [115, 104, 97, 112, 101], [104, 97, 110, 100, 108, 101], [102, 117, 108, 108], [98, 121, 116, 101, 115], [111, 114, 100, 101, 114], [114, 111, 111, 109], [116, 101, 120, 116], [110, 111, 110, 101], [108, 97, 114, 103, 101]]
/-- the name of an error -/
def errName (e : Nat) : List UInt8 := (errL[e]?).getD [117, 110, 107, 110, 111, 119, 110]
theorem err_len (e : Nat) : (errName e).length ≤ 10 := by
  unfold errName
  rcases Nat.lt_or_ge e errL.length with h | h
  · rw [List.getElem?_eq_getElem h, Option.getD_some]
    have h9 : ∀ l ∈ errL, l.length ≤ 10 := by decide
    exact h9 _ (List.getElem_mem h)
  · rw [List.getElem?_eq_none h]
    decide
theorem err_index (e : Nat) (h : e < 13) (W : World) : (Instr.index 129 (.agg #[.string { data := #[111, 107] }, .string { data := #[97, 114, 103] }, .string { data := #[110, 105, 108] }, .string { data := #[118, 97, 114] }, .string { data := #[115, 104, 97, 112, 101] }, .string { data := #[104, 97, 110, 100, 108, 101] }, .string { data := #[102, 117, 108, 108] }, .string { data := #[98, 121, 116, 101, 115] }, .string { data := #[111, 114, 100, 101, 114] }, .string { data := #[114, 111, 111, 109] }, .string { data := #[116, 101, 120, 116] }, .string { data := #[110, 111, 110, 101] }, .string { data := #[108, 97, 114, 103, 101] }]) (.int .u8 (e : Int))).run Tryz.prog W = .ok (txt (errName e)) W := by
  rcases (show e = 0 ∨ e = 1 ∨ e = 2 ∨ e = 3 ∨ e = 4 ∨ e = 5 ∨ e = 6 ∨ e = 7 ∨ e = 8 ∨ e = 9 ∨ e = 10 ∨ e = 11 ∨ e = 12 by omega) with rfl | rfl | rfl | rfl | rfl | rfl | rfl | rfl | rfl | rfl | rfl | rfl | rfl
  all_goals kernel_rfl
set_option maxRecDepth 100000 in
set_option maxHeartbeats 4000000 in
theorem errStr_any (e : Nat) (he : e ≤ 255) (w : World) : Calls Tryz.prog 21 #[.int .u8 (e : Nat)] w fun x w' => x = .returned (txt (errName e)) ∧ w' = w := by
  rcases Nat.lt_or_ge e 13 with h | h
  · have hix := fun W => err_index e h W
    generalize errName e = x at *
    unfold txt at *
    have h2 : (e : Int) < 13 := by omega
    clear he
    go_enter Tryz.func21, Tryz.ntmps21
    go_wp2_with fail
    go_ret
    exact ⟨rfl, rfl⟩
  · have e0 : errName e = [117, 110, 107, 110, 111, 119, 110] := by unfold errName; rw [List.getElem?_eq_none (by exact h)]; rfl
    rw [e0]
    clear e0
    go_enter Tryz.func21, Tryz.ntmps21
    go_wp2_with fail
    go_ret
    exact ⟨rfl, rfl⟩
theorem Blk.oth {w w' : World} {b g : Nat} {T : TypeId} {cs : Array Value} (h : Blk w g T cs) (ho : Oth b w w') (hg : g ≠ b) (hT : T ≠ 5) : Blk w' g T cs :=
  ho g _ h (fun e => by injection e with e; exact hg e) (fun c fz e => by injection e with _ e _; exact hT e)
theorem bits_wf {bits : Nat} (h : bits ≤ 65535) : (Lit.int .i64 (bits : Int)).wf = true := by
  simp [Lit.wf, IntKind.min, IntKind.max, IntKind.signed, IntKind.bits]
  omega
theorem text_len (s : Stp) (hs : s.Wf) : s.text.length ≤ 200 := by
  unfold Stp.text
  have h1 := name_len s.kind
  have h2 := tail_len s.nums (nine_wf s hs)
  have h3 : s.nums.length = 7 := rfl
  rw [List.length_append]
  omega
end Go.Proofs.YtnlhibhamechcaaGreatDoor
