/- Words of the print tool, as far as this proof needs them. -/
import Derived.Test.YtoanmoddppmffaaJWWords
import Derived.Laws.StructEq
namespace Go.Proofs.YtoanmoddppmffaaW.PrintWords
open Go.RowKit
section
variable {P : Program} {d : Nat} {xs ys : Array Value} {f : Field} {fs : List Field} {a b : Value} {r s : Bool} {w : World}
end
end Go.Proofs.YtoanmoddppmffaaW.PrintWords
