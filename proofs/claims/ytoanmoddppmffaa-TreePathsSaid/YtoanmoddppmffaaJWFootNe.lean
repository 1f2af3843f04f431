/- Words of the print tool, as far as this proof needs them. -/
import Derived.Test.YtoanmoddppmffaaJWN
namespace Go.Proofs.YtoanmoddppmffaaW.PrintWords
open Go.RowKit
namespace Kd
section
variable {α : Type} {d : Kd α} {W : World} {g n : Nat} {S ok : Nat → Prop} {A : Option Addr} {ad : Addr} {xs : List α}
end
end Kd
end Go.Proofs.YtoanmoddppmffaaW.PrintWords
