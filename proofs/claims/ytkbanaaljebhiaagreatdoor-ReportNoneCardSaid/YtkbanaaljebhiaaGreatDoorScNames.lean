/- Contract: script.names. -/
import Derived.Test.YtkbanaaljebhiaaGreatDoorScNum
import Derived.Test.YtkbanaaljebhiaaGreatDoorMa
import Derived.Lib.Fields
namespace Go.Proofs.YtkbanaaljebhiaaGreatDoor
open Go.RowKit Go.Sort
set_option linter.unusedSimpArgs false
set_option linter.unusedVariables false

/-- the table of spaces stands -/
def Asc (w : World) : Prop := Lib.TabIs Tryz.prog w "strings.asciiSpace" .u8 Lib.asciiSpaceTab
/-- the kinds' names -/
def kindL : List (List UInt8) :=
  ["const", "var", "cube", "of", "expr", "copy", "convert", "not", "apply", "ite", "with", "compose", "exists", "forall", "andexists", "change", "family", "drop", "swap", "permute", "sift", "collect", "form", "count", "size", "support", "holds", "same", "equal", "renew"].map fun s => s.toUTF8.data.toList
theorem kind_len : kindL.length = 30 := by decide +kernel
theorem snames_any (w : World) (hA : Asc w) : Calls Tryz.prog 19 #[] w fun e w' => e = .returned (.slice (some ⟨w.heap.size, 0, none⟩) 30 30) ∧ w' = w.alloc (.cells (kindL.map fun l => Value.string ⟨l.toArray⟩).toArray 9) := by
  go_enter Tryz.func19, Tryz.ntmps19
  go_wp2_with fail
  refine (Tryz.strings_Fields _ w (by decide +kernel) ?_ hA).mono ?_
  · intro j b hj
    have hm := List.mem_of_getElem? hj
    clear hj
    revert b
    decide +kernel
  · rintro e w' ⟨rfl, rfl⟩
    generalize hF : Lib.fields _ = fl
    have e : fl = kindL := by rw [← hF]; decide +kernel
    clear hF
    subst e
    rw [kind_len]
    generalize hcs : (kindL.map fun l => Value.string ⟨l.toArray⟩).toArray = cs
    have HC := Lib.hid hcs
    clear hcs
    go_wp2_with fail
    go_ret
    rw [HC.out]
    exact ⟨rfl, rfl⟩
end Go.Proofs.YtkbanaaljebhiaaGreatDoor
