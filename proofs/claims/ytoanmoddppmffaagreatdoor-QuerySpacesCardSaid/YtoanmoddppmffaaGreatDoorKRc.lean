/- The reference: what its functions leave; rows of 'or' and of 'and'. -/
import Derived.Test.YtoanmoddppmffaaGreatDoorKRb
import Derived.Test.YtoanmoddppmffaaGreatDoorKQi
namespace Go.Proofs.YtoanmoddppmffaaGreatDoor.T
open Go.RowKit Go.Shelf Go.Proofs.YtoanmoddppmffaaGreatDoorW.PrintWords
set_option linter.unusedVariables false
set_option linter.unusedSimpArgs false
end Go.Proofs.YtoanmoddppmffaaGreatDoor.T
