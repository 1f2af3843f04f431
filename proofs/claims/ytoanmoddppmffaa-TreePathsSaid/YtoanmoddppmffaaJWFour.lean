/- Words of the print tool, as far as this proof needs them. -/
import Derived.Test.YtoanmoddppmffaaJWTab
namespace Go.Proofs.YtoanmoddppmffaaW.PrintLast
section
variable {P : Program} {ops : Array Oper} {Q : Exit → Act → World → Prop} {md : Region.Mode} {S : World → Prop} {ds : List Nat} {T : Bool × List (List Nat × List Nat)}
end
end Go.Proofs.YtoanmoddppmffaaW.PrintLast
