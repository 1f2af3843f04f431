/- The reference's Parse. -/
import Derived.Test.YtoanmoddppmffaaDoorMRi
import Derived.Test.YtoanmoddppmffaaDoorMRk
import Derived.Test.YtoanmoddppmffaaDoorMQn
namespace Go.Proofs.YtoanmoddppmffaaDoor.T
open Go.RowKit Go.Shelf Go.Proofs.YtoanmoddppmffaaDoorW.PrintWords
set_option linter.unusedVariables false
set_option linter.unusedSimpArgs false
end Go.Proofs.YtoanmoddppmffaaDoor.T
