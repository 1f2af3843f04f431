/- There is enough fuel: the grammar answers. -/
import Derived.Test.YtoanmoddppmffaaDoorUQg
namespace Go.Proofs.YtoanmoddppmffaaDoor.T
set_option linter.unusedVariables false
end Go.Proofs.YtoanmoddppmffaaDoor.T
