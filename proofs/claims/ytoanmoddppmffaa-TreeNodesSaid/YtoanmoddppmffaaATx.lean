/- What each function of the program comes to, and its walk: laid by a program. -/
import Derived.Test.YtoanmoddppmffaaATx0
import Derived.Test.YtoanmoddppmffaaATx1
import Derived.Test.YtoanmoddppmffaaATx2
import Derived.Test.YtoanmoddppmffaaATx3
import Derived.Test.YtoanmoddppmffaaATx4
import Derived.Test.YtoanmoddppmffaaATx5
import Derived.Test.YtoanmoddppmffaaATx6
import Derived.Test.YtoanmoddppmffaaATx7
import Derived.Test.YtoanmoddppmffaaATx8
import Derived.Test.YtoanmoddppmffaaATx9
import Derived.Test.YtoanmoddppmffaaATx10
import Derived.Test.YtoanmoddppmffaaATx11
import Derived.Test.YtoanmoddppmffaaATx12
import Derived.Test.YtoanmoddppmffaaATx13
import Derived.Test.YtoanmoddppmffaaATx14
import Derived.Test.YtoanmoddppmffaaATx15
import Derived.Test.YtoanmoddppmffaaATx16
import Derived.Test.YtoanmoddppmffaaATx17
import Derived.Test.YtoanmoddppmffaaATx18
import Derived.Test.YtoanmoddppmffaaATx19
import Derived.Test.YtoanmoddppmffaaATx20
import Derived.Test.YtoanmoddppmffaaATx21
namespace Go.Proofs.Ytoanmoddppmffaa.T
open Go.RowKit Go.Proofs.YtoanmoddppmffaaW.PrintWords Go.Proofs.YtoanmoddppmffaaW.PrintLast Go.Proofs.YtoanmoddppmffaaW.PrintMore
set_option linter.unusedVariables false
set_option linter.unusedSimpArgs false
end Go.Proofs.Ytoanmoddppmffaa.T
