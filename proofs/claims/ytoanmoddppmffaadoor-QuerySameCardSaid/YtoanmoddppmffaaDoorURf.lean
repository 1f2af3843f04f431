/- The reference: term. -/
import Derived.Test.YtoanmoddppmffaaDoorURe
namespace Go.Proofs.YtoanmoddppmffaaDoor.T
open Go.RowKit Go.Shelf Go.Proofs.YtoanmoddppmffaaDoorW.PrintWords
set_option linter.unusedVariables false
set_option linter.unusedSimpArgs false
end Go.Proofs.YtoanmoddppmffaaDoor.T
