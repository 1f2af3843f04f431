/- The reference: spaces, names, the sign at a place. -/
import Derived.Test.YtoanmoddppmffaaGreatDoorBQc
import Derived.LoopN
import Derived.Deep.Cut
import Derived.Deep.CutBlock
import Derived.Deep.DeepCutAuto
import Derived.Test.YtoanmoddppmffaaGreatDoorBQi
import Derived.Test.YtoanmoddppmffaaGreatDoorBQm
import Derived.Test.YtoanmoddppmffaaGreatDoorBQk
namespace Go.Proofs.YtoanmoddppmffaaGreatDoor.T
open Go.RowKit Go.Shelf Go.Proofs.YtoanmoddppmffaaGreatDoorW.PrintWords
set_option linter.unusedVariables false
set_option linter.unusedSimpArgs false
def TokR (w : World) (A : Option Addr) (l : List Tok) : Prop := ∀ k (h : k < l.length), ∃ g, A = some ⟨g, 0, none⟩ ∧ w.cell? ⟨g, k, none⟩ = some (.string l[k])
theorem TokR.below {w w' : World} {A : Option Addr} {l : List Tok} (h : TokR w A l) (hb : Below w.heap.size w w') : TokR w' A l := fun k hk => by
  obtain ⟨g, rfl, hc⟩ := h k hk
  exact ⟨g, rfl, pw_cell_below hb hc⟩
end Go.Proofs.YtoanmoddppmffaaGreatDoor.T
namespace Go.Proofs.YtoanmoddppmffaaGreatDoor.T
open Go.RowKit Go.Shelf Go.Proofs.YtoanmoddppmffaaGreatDoorW.PrintWords
set_option linter.unusedVariables false
set_option linter.unusedSimpArgs false
end Go.Proofs.YtoanmoddppmffaaGreatDoor.T
namespace Go.Proofs.YtoanmoddppmffaaGreatDoor.T
open Go.RowKit Go.Shelf Go.Proofs.YtoanmoddppmffaaGreatDoorW.PrintWords
set_option linter.unusedVariables false
set_option linter.unusedSimpArgs false
end Go.Proofs.YtoanmoddppmffaaGreatDoor.T
namespace Go.Proofs.YtoanmoddppmffaaGreatDoor.T
open Go.RowKit Go.Shelf Go.Proofs.YtoanmoddppmffaaGreatDoorW.PrintWords
set_option linter.unusedVariables false
set_option linter.unusedSimpArgs false
end Go.Proofs.YtoanmoddppmffaaGreatDoor.T
namespace Go.Proofs.YtoanmoddppmffaaGreatDoor.T
open Go.RowKit Go.Shelf Go.Proofs.YtoanmoddppmffaaGreatDoorW.PrintWords
set_option linter.unusedVariables false
set_option linter.unusedSimpArgs false
end Go.Proofs.YtoanmoddppmffaaGreatDoor.T
namespace Go.Proofs.YtoanmoddppmffaaGreatDoor.T
open Go.RowKit Go.Shelf Go.Proofs.YtoanmoddppmffaaGreatDoorW.PrintWords
set_option linter.unusedVariables false
set_option linter.unusedSimpArgs false
end Go.Proofs.YtoanmoddppmffaaGreatDoor.T
namespace Go.Proofs.YtoanmoddppmffaaGreatDoor.T
open Go.RowKit Go.Shelf Go.Proofs.YtoanmoddppmffaaGreatDoorW.PrintWords
set_option linter.unusedVariables false
set_option linter.unusedSimpArgs false
end Go.Proofs.YtoanmoddppmffaaGreatDoor.T
namespace Go.Proofs.YtoanmoddppmffaaGreatDoor.T
open Go.RowKit Go.Shelf Go.Proofs.YtoanmoddppmffaaGreatDoorW.PrintWords
set_option linter.unusedVariables false
set_option linter.unusedSimpArgs false
theorem below_of_gb {w w' : World} (h : w.grownBy w' none) : Below w.heap.size w w' := ⟨h.os, h.tape, h.output, h.size, fun i hi => h.block i hi (by simp)⟩
theorem row_more2 {α : Type} {K : (Nat → Prop) → World → α → List Value → Prop} (M : Movable K) {T : TypeId} {base : Nat} {wr w1 W : World} {v : Value} {xs : List α} (hown : OwnR K T base wr v xs) (hb1 : Below wr.heap.size wr w1) (hb : base ≤ wr.heap.size) (hW : Below w1.heap.size w1 W)
    {y : α} {ys : List Value} (hy : K (fun k => wr.heap.size ≤ k) w1 y ys) :
    ∃ inner, W.ownsRow base T 4 v xs.length inner ∧ ∀ v1 w2, w2.ownsRow base T 4 v1 (xs.length + 1) (inner ++ ys) → W.grownBy w2 v.ownBlock → (v1.ownBlock = v.ownBlock ∨ ∃ b, v1.ownBlock = some b ∧ W.heap.size ≤ b) → OwnR K T base w2 v1 (xs ++ [y]) := by
  have hlt : ∀ k, v.ownBlock = some k → k < wr.heap.size := by
    obtain ⟨_, ho, _⟩ := hown
    exact fun k hk => own_lt ho k hk
  have h2 : OwnR K T base W v xs := (hown.below M hb1).below M hW
  obtain ⟨inner, ho, hk⟩ := h2
  refine ⟨inner, ho, fun v1 w2 h3 hgr hat => OwnR.appended M (W0 := w1) hk ho ?_ h3 hgr hat⟩
  exact M.imp_ (M.bound hy) (fun k hk => hW.block k hk.2) (fun k hk => ⟨by omega, fun e => by have := hlt k e.symm; omega⟩)
end Go.Proofs.YtoanmoddppmffaaGreatDoor.T
