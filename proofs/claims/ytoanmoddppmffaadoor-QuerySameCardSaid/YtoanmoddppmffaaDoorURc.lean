/- The reference: what its functions leave; rows of 'or' and of 'and'. -/
import Derived.Test.YtoanmoddppmffaaDoorURb
import Derived.Test.YtoanmoddppmffaaDoorUQi
namespace Go.Proofs.YtoanmoddppmffaaDoor.T
open Go.RowKit Go.Shelf Go.Proofs.YtoanmoddppmffaaDoorW.PrintWords
set_option linter.unusedVariables false
set_option linter.unusedSimpArgs false
end Go.Proofs.YtoanmoddppmffaaDoor.T
