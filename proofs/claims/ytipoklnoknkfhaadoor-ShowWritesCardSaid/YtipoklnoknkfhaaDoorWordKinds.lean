/- The walks of the laws WordKinds and WordTotal: awake, number. -/
import Derived.Test.YtipoklnoknkfhaaDoorWordLib
namespace Go.Proofs.YtipoklnoknkfhaaDoor
open Go Go.RowKit
set_option linter.unusedSimpArgs false
set_option linter.unusedVariables false

end Go.Proofs.YtipoklnoknkfhaaDoor
