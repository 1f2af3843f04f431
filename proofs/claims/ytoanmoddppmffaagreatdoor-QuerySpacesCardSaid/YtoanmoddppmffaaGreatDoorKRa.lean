/- The reference: spaces, names, the sign at a place. -/
import Derived.Test.YtoanmoddppmffaaGreatDoorKQc
import Derived.LoopN
namespace Go.Proofs.YtoanmoddppmffaaGreatDoor.T
open Go.RowKit Go.Shelf Go.Proofs.YtoanmoddppmffaaGreatDoorW.PrintWords
set_option linter.unusedVariables false
set_option linter.unusedSimpArgs false
def TokR (w : World) (A : Option Addr) (l : List Tok) : Prop := ∀ k (h : k < l.length), ∃ g, A = some ⟨g, 0, none⟩ ∧ w.cell? ⟨g, k, none⟩ = some (.string l[k])
theorem TokR.below {w w' : World} {A : Option Addr} {l : List Tok} (h : TokR w A l) (hb : Below w.heap.size w w') : TokR w' A l := fun k hk => by
  obtain ⟨g, rfl, hc⟩ := h k hk
  exact ⟨g, rfl, pw_cell_below hb hc⟩
end Go.Proofs.YtoanmoddppmffaaGreatDoor.T
