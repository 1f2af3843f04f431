/- The reference: pred. -/
import Derived.Test.YtoanmoddppmffaaGreatDoorKRf
import Derived.Test.YtoanmoddppmffaaGreatDoorKQm
namespace Go.Proofs.YtoanmoddppmffaaGreatDoor.T
open Go.RowKit Go.Shelf Go.Proofs.YtoanmoddppmffaaGreatDoorW.PrintWords
set_option linter.unusedVariables false
set_option linter.unusedSimpArgs false
end Go.Proofs.YtoanmoddppmffaaGreatDoor.T
