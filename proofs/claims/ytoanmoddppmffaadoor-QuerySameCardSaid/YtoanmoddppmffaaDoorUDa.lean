/- QueryReads: both readings are one. -/
import Derived.Test.YtoanmoddppmffaaDoorUCa
import Derived.Test.YtoanmoddppmffaaDoorURl
import Derived.Test.YtoanmoddppmffaaDoorUSb
namespace Go.Proofs.YtoanmoddppmffaaDoor.T
open Go.RowKit Go.Shelf Go.Proofs.YtoanmoddppmffaaDoorW.PrintWords
set_option linter.unusedVariables false
set_option linter.unusedSimpArgs false
theorem StepsR.below {ok : Nat → Prop} {w w' : World} {v : Value} {xs : List Step} (h : StepsR ok w v xs) (hb : Below w.heap.size w w') : StepsR (fun k => ok k ∧ k < w.heap.size) w' v xs :=
  h.bound.imp_ (fun k hk => hb.block k hk.2) (fun k hk => hk)
end Go.Proofs.YtoanmoddppmffaaDoor.T
