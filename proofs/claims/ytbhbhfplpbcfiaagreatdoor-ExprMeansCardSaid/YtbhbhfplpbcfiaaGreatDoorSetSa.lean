/- Contracts: slices.Equal of words, set.Same. -/
import Derived.Test.YtbhbhfplpbcfiaaGreatDoorMh
import Derived.BigQuiet
import Derived.Deep.QuietTactic
namespace Go.Proofs.YtbhbhfplpbcfiaaGreatDoor
open Go.RowKit Go.Sort
set_option linter.unusedSimpArgs false
set_option linter.unusedVariables false

end Go.Proofs.YtbhbhfplpbcfiaaGreatDoor
