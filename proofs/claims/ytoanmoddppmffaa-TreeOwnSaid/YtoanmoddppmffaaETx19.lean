/- What each function of the program comes to, and its walk: laid by a program. -/
import Derived.Test.YtoanmoddppmffaaETx0
import Derived.Test.YtoanmoddppmffaaETx1
import Derived.Test.YtoanmoddppmffaaETx14
import Derived.Test.YtoanmoddppmffaaETx16
import Derived.Test.YtoanmoddppmffaaETx17
namespace Go.Proofs.Ytoanmoddppmffaa.T
open Go.RowKit Go.Proofs.YtoanmoddppmffaaW.PrintWords Go.Proofs.YtoanmoddppmffaaW.PrintLast Go.Proofs.YtoanmoddppmffaaW.PrintMore
set_option linter.unusedVariables false
set_option linter.unusedSimpArgs false
end Go.Proofs.Ytoanmoddppmffaa.T
