/- Read trees, in order: what is in a node stands side by side. -/
import Derived.Test.YtoanmoddppmffaaGPm
import Derived.Test.YtoanmoddppmffaaGPd
namespace Go.Proofs.Ytoanmoddppmffaa.T
open Go.RowKit Go.Proofs.YtoanmoddppmffaaW.PrintWords Go.Proofs.YtoanmoddppmffaaW.PrintLast Go.Proofs.YtoanmoddppmffaaW.PrintMore
set_option linter.unusedVariables false
set_option linter.unusedSimpArgs false
section
variable {names : List ByteArray} {l1 : List S52}
end
end Go.Proofs.Ytoanmoddppmffaa.T
