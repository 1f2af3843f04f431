/- A region that draws its order, taken operation by operation: the slots written out. -/
import Derived.Test.YtoanmoddppmffaaDoorUQo
namespace Go.Proofs.YtoanmoddppmffaaDoor.T
open Go
section
variable {P : Program} {ops : Array Oper} {Q : Exit → Act → World → Prop} {md : Region.Mode} {S : World → Prop} {m : Nat}
theorem B_takeD (n d : Nat) {i : Nat} {oi : Oper} {v : Value} {fuel : Nat} {listed : Array Bool} {a : Act} {w : World} (hi : ops[i]? = some oi) (hd : oi.dst = some d)
    (hb : (decide (i < n) && lateB md ops m n && Region.noSelect ops && Region.free md ops listed i && (Region.ready md ops listed).contains i) = true)
    (hQ : ∀ c a w, Q (.panic c) (a.put oi.dst v) w → Q (.panic c) a w) (hw : Region.wanted oi (yielded ops a.tmps) = true) (hy : ∀ w, S w → (execOp a.eval oi).run P w = .ok (.value v) w) (hS : S w)
    (h : wpAnyB P md ops Q S m fuel (listed.setIfInBounds i true) { a with tmps := a.tmps.setIfInBounds d v } w) : wpAnyB P md ops Q S m (fuel + 1) listed a w :=
  B_take n hi hb hQ hw hy hS (by rw [hd]; exact h)
theorem B_skipD (n d : Nat) {i : Nat} {oi : Oper} {fuel : Nat} {listed : Array Bool} {a : Act} {w : World} (hi : ops[i]? = some oi) (hd : oi.dst = some d)
    (hb : (decide (i < n) && lateB md ops m n && Region.noSelect ops && Region.free md ops listed i && (Region.ready md ops listed).contains i) = true)
    (hQ : ∀ c a w, Q (.panic c) (a.put oi.dst undef) w → Q (.panic c) a w) (hw : Region.wanted oi (yielded ops a.tmps) = false) (hS : S w)
    (h : wpAnyB P md ops Q S m fuel (listed.setIfInBounds i true) { a with tmps := a.tmps.setIfInBounds d undef } w) : wpAnyB P md ops Q S m (fuel + 1) listed a w :=
  B_skip n hi hb hQ hw hS (by rw [hd]; exact h)
end
end Go.Proofs.YtoanmoddppmffaaDoor.T
