/- Contracts: slices.Equal of words, set.Same. -/
import Derived.Test.YtbmhinbomailmaaGreatDoorMh
import Derived.BigQuiet
import Derived.Deep.QuietTactic
namespace Go.Proofs.YtbmhinbomailmaaGreatDoor
open Go.RowKit Go.Sort
set_option linter.unusedSimpArgs false
set_option linter.unusedVariables false

end Go.Proofs.YtbmhinbomailmaaGreatDoor
