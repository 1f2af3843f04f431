/- The reference: step. -/
import Derived.Test.YtoanmoddppmffaaDoorURh
import Derived.Test.YtoanmoddppmffaaDoorUQl
import Derived.Deep.QuietTactic
namespace Go.Proofs.YtoanmoddppmffaaDoor.T
open Go.RowKit Go.Shelf Go.Proofs.YtoanmoddppmffaaDoorW.PrintWords
set_option linter.unusedVariables false
set_option linter.unusedSimpArgs false
end Go.Proofs.YtoanmoddppmffaaDoor.T
