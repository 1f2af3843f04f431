/- A region that draws its order, taken operation by operation: the slots written out. -/
import Derived.Test.YtoanmoddppmffaaGreatDoorBQo
namespace Go.Proofs.YtoanmoddppmffaaGreatDoor.T
open Go
section
variable {P : Program} {ops : Array Oper} {Q : Exit → Act → World → Prop} {md : Region.Mode} {S : World → Prop} {m : Nat}
theorem B_takeD (n d : Nat) {i : Nat} {oi : Oper} {v : Value} {fuel : Nat} {listed : Array Bool} {a : Act} {w : World} (hi : ops[i]? = some oi) (hd : oi.dst = some d)
    (hb : (decide (i < n) && lateB md ops m n && Region.noSelect ops && Region.free md ops listed i && (Region.ready md ops listed).contains i) = true)
    (hQ : ∀ c a w, Q (.panic c) (a.put oi.dst v) w → Q (.panic c) a w) (hw : Region.wanted oi (yielded ops a.tmps) = true) (hy : ∀ w, S w → (execOp a.eval oi).run P w = .ok (.value v) w) (hS : S w)
    (h : wpAnyB P md ops Q S m fuel (listed.setIfInBounds i true) { a with tmps := a.tmps.setIfInBounds d v } w) : wpAnyB P md ops Q S m (fuel + 1) listed a w :=
  B_take n hi hb hQ hw hy hS (by rw [hd]; exact h)
theorem B_skipD (n d : Nat) {i : Nat} {oi : Oper} {fuel : Nat} {listed : Array Bool} {a : Act} {w : World} (hi : ops[i]? = some oi) (hd : oi.dst = some d)
    (hb : (decide (i < n) && lateB md ops m n && Region.noSelect ops && Region.free md ops listed i && (Region.ready md ops listed).contains i) = true)
    (hQ : ∀ c a w, Q (.panic c) (a.put oi.dst undef) w → Q (.panic c) a w) (hw : Region.wanted oi (yielded ops a.tmps) = false) (hS : S w)
    (h : wpAnyB P md ops Q S m fuel (listed.setIfInBounds i true) { a with tmps := a.tmps.setIfInBounds d undef } w) : wpAnyB P md ops Q S m (fuel + 1) listed a w :=
  B_skip n hi hb hQ hw hS (by rw [hd]; exact h)
theorem B_two {i j : Nat} {oi oj : Oper} {fuel : Nat} {listed : Array Bool} {a : Act} {w : World} (hi : ops[i]? = some oi) (hj : ops[j]? = some oj) (hr : decide (Region.ready md ops listed = [i, j]) = true)
    (h1 : ∀ K' : Act → World → Prop, Shut (∀ a' w', S w' → wpAnyB P md ops Q S m fuel (listed.setIfInBounds i true) a' w' → K' a' w') → if Region.wanted oi (yielded ops a.tmps) = true then Oper.wp P oi a w K' Q else K' (a.put oi.dst undef) w)
    (h2 : ∀ K' : Act → World → Prop, Shut (∀ a' w', S w' → wpAnyB P md ops Q S m fuel (listed.setIfInBounds j true) a' w' → K' a' w') → if Region.wanted oj (yielded ops a.tmps) = true then Oper.wp P oj a w K' Q else K' (a.put oj.dst undef) w) :
    wpAnyB P md ops Q S m (fuel + 1) listed a w := by
  have hr' : Region.ready md ops listed = [i, j] := of_decide_eq_true hr
  refine ⟨fun h0 => absurd h0 (by rw [hr']; simp), fun q hq => ?_⟩
  rw [hr'] at hq
  rcases List.mem_cons.1 hq with rfl | hq
  · exact wpOp_step hi (fun K' hK => h1 K' (fun a' w' hS hW => hK a' w' ⟨fun _ => hS, hW⟩))
  · obtain rfl : q = j := by simpa using hq
    exact wpOp_step hj (fun K' hK => h2 K' (fun a' w' hS hW => hK a' w' ⟨fun _ => hS, hW⟩))
end
end Go.Proofs.YtoanmoddppmffaaGreatDoor.T
