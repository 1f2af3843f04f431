/- A bad sign behind the others: no parse. -/
import Derived.Test.YtoanmoddppmffaaDoorURj
namespace Go.Proofs.YtoanmoddppmffaaDoor.T
set_option linter.unusedVariables false
end Go.Proofs.YtoanmoddppmffaaDoor.T
