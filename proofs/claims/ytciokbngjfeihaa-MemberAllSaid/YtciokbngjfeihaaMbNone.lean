/- Contract: the law's none. -/
import Derived.Test.YtciokbngjfeihaaMbAllN
namespace Go.Proofs.Ytciokbngjfeihaa
open Go Go.RowKit Go.Shelf
set_option linter.unusedSimpArgs false
set_option linter.unusedVariables false

end Go.Proofs.Ytciokbngjfeihaa
