/- What each function of the program comes to, and its walk: laid by a program. -/
import Derived.Test.YtoanmoddppmffaaBTx0
import Derived.Test.YtoanmoddppmffaaBTx1
import Derived.Test.YtoanmoddppmffaaBTx2
import Derived.Test.YtoanmoddppmffaaBTx3
import Derived.Test.YtoanmoddppmffaaBTx4
import Derived.Test.YtoanmoddppmffaaBTx5
import Derived.Test.YtoanmoddppmffaaBTx6
import Derived.Test.YtoanmoddppmffaaBTx7
import Derived.Test.YtoanmoddppmffaaBTx8
import Derived.Test.YtoanmoddppmffaaBTx9
import Derived.Test.YtoanmoddppmffaaBTx10
import Derived.Test.YtoanmoddppmffaaBTx11
import Derived.Test.YtoanmoddppmffaaBTx12
import Derived.Test.YtoanmoddppmffaaBTx13
import Derived.Test.YtoanmoddppmffaaBTx14
import Derived.Test.YtoanmoddppmffaaBTx15
import Derived.Test.YtoanmoddppmffaaBTx16
import Derived.Test.YtoanmoddppmffaaBTx17
import Derived.Test.YtoanmoddppmffaaBTx18
import Derived.Test.YtoanmoddppmffaaBTx19
import Derived.Test.YtoanmoddppmffaaBTx20
import Derived.Test.YtoanmoddppmffaaBTx21
namespace Go.Proofs.Ytoanmoddppmffaa.T
open Go.RowKit Go.Proofs.YtoanmoddppmffaaW.PrintWords Go.Proofs.YtoanmoddppmffaaW.PrintLast Go.Proofs.YtoanmoddppmffaaW.PrintMore
set_option linter.unusedVariables false
set_option linter.unusedSimpArgs false
end Go.Proofs.Ytoanmoddppmffaa.T
