/- Words of the print tool, as far as this proof needs them. -/
import Derived.Test.YtoanmoddppmffaaJWInv
import Derived.Test.YtoanmoddppmffaaJWFootNe
namespace Go.Proofs.YtoanmoddppmffaaW.PrintWords
open Go.RowKit
end Go.Proofs.YtoanmoddppmffaaW.PrintWords
namespace Go.Proofs.YtoanmoddppmffaaW.PrintLast
section
variable {ops : Array Oper} {a : Act} {o og : Oper} {g : Nat} {t : Tmp} {u : Bool}
end
end Go.Proofs.YtoanmoddppmffaaW.PrintLast
