/- Steps as arguments of a row, taken apart. -/
import Derived.Test.YtoanmoddppmffaaGreatDoorBQa
import Derived.Deep.Slices
import Derived.Deep.Fields
import Derived.ChangeSame
import Derived.Carry
import Derived.KernelRfl
import Derived.Test.YtoanmoddppmffaaGreatDoorProg
namespace Go.Proofs.YtoanmoddppmffaaGreatDoor.T
open Go.RowKit Go.ChangeShapes Go.WideShapes Go.Deep
set_option linter.unusedVariables false
theorem laidOut : laidOutB Tryz.prog = true := by kernel_rfl
theorem cellsStep : Tryz.prog.cellsOf 39 = 4 := by kernel_rfl
theorem cellsPred : Tryz.prog.cellsOf 41 = 4 := by kernel_rfl
theorem cells1 : Tryz.prog.cellsOf 4 = 1 ∧ Tryz.prog.cellsOf 3 = 1 ∧ Tryz.prog.cellsOf 9 = 1 ∧ Tryz.prog.cellsOf 22 = 1 ∧ Tryz.prog.cellsOf 37 = 1 := ⟨by kernel_rfl, by kernel_rfl, by kernel_rfl, by kernel_rfl, by kernel_rfl⟩
theorem pick_list {α : Type} {Q : Nat → α → Prop} : ∀ n, (∀ i, i < n → ∃ x, Q i x) → ∃ l : List α, l.length = n ∧ ∀ i x, l[i]? = some x → Q i x
  | 0, _ => ⟨[], rfl, fun i x h => by simp at h⟩
  | n + 1, h => by
    obtain ⟨l, hl, hq⟩ := pick_list (Q := Q) n (fun i hi => h i (by omega))
    obtain ⟨x, hx⟩ := h n (by omega)
    refine ⟨l ++ [x], by simp [hl], fun i y hy => ?_⟩
    by_cases hi : i < n
    · rw [List.getElem?_append_left (by omega)] at hy
      exact hq i y hy
    · rw [List.getElem?_append_right (by omega)] at hy
      have h1 := (List.getElem?_eq_some_iff.1 hy).1
      simp only [List.length_singleton] at h1
      have hin : i = n := by omega
      subst hin
      rw [show i - l.length = 0 by omega] at hy
      simp only [List.getElem?_cons_zero, Option.some.injEq] at hy
      exact hy ▸ hx
theorem list_four {α : Type} {l : List α} (h : l.length = 4) : ∃ a b c d, l = [a, b, c, d] := by
  match l, h with
  | [a, b, c, d], _ => exact ⟨a, b, c, d, rfl⟩
section
variable {H : Type} {enc : TypeId × Value → H} {W : World} {base : Nat}
set_option maxRecDepth 100000 in
theorem open_both : ∀ fuel : Nat, (∀ (v : Value) (y : DataW H × List MemPlace), DataW.trod enc Tryz.prog W base (fun _ => true) true fuel 22 [v] = some y → ∃ l : List Step, StepsR (fun _ => True) W v l) ∧
    (∀ (v : Value) (y : DataW H × List MemPlace), DataW.trod enc Tryz.prog W base (fun _ => true) true fuel 37 [v] = some y → ∃ l : List Pred, PredsR (fun _ => True) W v l) := by
  intro fuel
  induction fuel using Nat.strongRecOn with
  | _ fuel ih =>
    obtain ⟨k1, k2, k3, k4, k5⟩ := cells1
    refine ⟨fun v y h => ?_, fun v y h => ?_⟩
    · rcases DataW.trod_slice Tryz.underlying22 h with ⟨h0, _⟩ | ⟨a, len, cap, elems, rest, n, hf, hcs, _, hb, hl, hm, hlen, hel, _, _⟩
      · obtain rfl := List.cons.inj h0 |>.1
        exact ⟨[], StepsR.nil _ _⟩
      · obtain rfl := List.cons.inj hcs |>.1
        have hall : ∀ i, i < len → ∃ x : Step, ∃ cs : List Value, cs.length = 4 ∧ (∀ j u, cs[j]? = some u → W.cell? (a.add (i * 4 + j)) = some u) ∧ StepR (fun _ => True) W x cs := by
          intro i hi
          have h1 := hel i hi
          rw [List.getElem?_eq_getElem (by omega), cellsStep] at h1
          obtain ⟨cs', hc, ht⟩ := Option.bind_eq_some_iff.1 h1
          obtain ⟨_, hcl, hat⟩ := World.cells?_some hc
          obtain ⟨ys, n', hn', _, hlen4, hyl, hfl⟩ := DataW.trod_struct Tryz.underlying39 ht
          rw [cellsStep] at hlen4
          obtain ⟨c0, c1, c2, c3, rfl⟩ := list_four hlen4
          have f0 : DataW.trod enc Tryz.prog W base (fun _ => true) true n' 4 (([c0, c1, c2, c3].drop 0).take (Tryz.prog.cellsOf 4)) = ys[0]? := hfl 0 _ rfl
          have f1 : DataW.trod enc Tryz.prog W base (fun _ => true) true n' 3 (([c0, c1, c2, c3].drop 1).take (Tryz.prog.cellsOf 3)) = ys[1]? := hfl 1 _ rfl
          have f2 : DataW.trod enc Tryz.prog W base (fun _ => true) true n' 9 (([c0, c1, c2, c3].drop 2).take (Tryz.prog.cellsOf 9)) = ys[2]? := hfl 2 _ rfl
          have f3 : DataW.trod enc Tryz.prog W base (fun _ => true) true n' 37 (([c0, c1, c2, c3].drop 3).take (Tryz.prog.cellsOf 37)) = ys[3]? := hfl 3 _ rfl
          simp only [k1, k2, k3, k5, List.drop_zero, List.drop_succ_cons, List.take_succ_cons, List.take_zero] at f0 f1 f2 f3
          have hys : ys.length = 4 := hyl
          rw [List.getElem?_eq_getElem (by omega)] at f0 f1 f2 f3
          obtain ⟨b, e0, _⟩ := DataW.trod_bool Tryz.underlying4 f0
          obtain ⟨z, e1, _, _⟩ := DataW.trod_int Tryz.underlying3 f1
          obtain ⟨s, e2, _, _⟩ := DataW.trod_string Tryz.underlying9 f2
          obtain ⟨ps, hps⟩ := (ih n' (by omega)).2 _ _ f3
          obtain rfl := List.cons.inj e0 |>.1
          obtain rfl := List.cons.inj e1 |>.1
          obtain rfl := List.cons.inj e2 |>.1
          refine ⟨⟨b, z, s, ps⟩, [.bool b, .int .i64 z, .string s, c3], rfl, fun j u hj => ?_, StepR.mk_ (x := ⟨b, z, s, ps⟩) hps⟩
          have hj4 : j < 4 := (List.getElem?_eq_some_iff.1 hj).1
          rw [← add_add, hat j hj4]
          exact hj
        obtain ⟨l, hll, hq⟩ := pick_list len hall
        obtain ⟨m, hm'⟩ := RowAt.depth (Kn := stepR (fun _ => True) W) (fun n m hnm x cs hx => stepR_imp (fun _ _ => rfl) (fun _ h => h) n m hnm x cs hx) (ok := fun _ => True) (A := some a) (xs := l) (w := W) (fun j x hj => by
          obtain ⟨cs, h1, h2, h3⟩ := hq j x hj
          exact ⟨a, cs, rfl, trivial, h1, h2, h3⟩)
        exact ⟨l, m, some a, cap, by rw [hll], by omega, hm, hm'⟩
    · rcases DataW.trod_slice Tryz.underlying37 h with ⟨h0, _⟩ | ⟨a, len, cap, elems, rest, n, hf, hcs, _, hb, hl, hm, hlen, hel, _, _⟩
      · obtain rfl := List.cons.inj h0 |>.1
        exact ⟨[], PredsR.nil _ _⟩
      · obtain rfl := List.cons.inj hcs |>.1
        have hall : ∀ i, i < len → ∃ x : Pred, ∃ cs : List Value, cs.length = 4 ∧ (∀ j u, cs[j]? = some u → W.cell? (a.add (i * 4 + j)) = some u) ∧ PredR (fun _ => True) W x cs := by
          intro i hi
          have h1 := hel i hi
          rw [List.getElem?_eq_getElem (by omega), cellsPred] at h1
          obtain ⟨cs', hc, ht⟩ := Option.bind_eq_some_iff.1 h1
          obtain ⟨_, hcl, hat⟩ := World.cells?_some hc
          obtain ⟨ys, n', hn', _, hlen4, hyl, hfl⟩ := DataW.trod_struct Tryz.underlying41 ht
          rw [cellsPred] at hlen4
          obtain ⟨c0, c1, c2, c3, rfl⟩ := list_four hlen4
          have f0 : DataW.trod enc Tryz.prog W base (fun _ => true) true n' 3 (([c0, c1, c2, c3].drop 0).take (Tryz.prog.cellsOf 3)) = ys[0]? := hfl 0 _ rfl
          have f1 : DataW.trod enc Tryz.prog W base (fun _ => true) true n' 3 (([c0, c1, c2, c3].drop 1).take (Tryz.prog.cellsOf 3)) = ys[1]? := hfl 1 _ rfl
          have f2 : DataW.trod enc Tryz.prog W base (fun _ => true) true n' 22 (([c0, c1, c2, c3].drop 2).take (Tryz.prog.cellsOf 22)) = ys[2]? := hfl 2 _ rfl
          have f3 : DataW.trod enc Tryz.prog W base (fun _ => true) true n' 37 (([c0, c1, c2, c3].drop 3).take (Tryz.prog.cellsOf 37)) = ys[3]? := hfl 3 _ rfl
          simp only [k2, k4, k5, List.drop_zero, List.drop_succ_cons, List.take_succ_cons, List.take_zero] at f0 f1 f2 f3
          have hys : ys.length = 4 := hyl
          rw [List.getElem?_eq_getElem (by omega)] at f0 f1 f2 f3
          obtain ⟨b, e0, _, _⟩ := DataW.trod_int Tryz.underlying3 f0
          obtain ⟨z, e1, _, _⟩ := DataW.trod_int Tryz.underlying3 f1
          obtain ⟨ss, hss⟩ := (ih n' (by omega)).1 _ _ f2
          obtain ⟨ps, hps⟩ := (ih n' (by omega)).2 _ _ f3
          obtain rfl := List.cons.inj e0 |>.1
          obtain rfl := List.cons.inj e1 |>.1
          refine ⟨⟨b, z, ss, ps⟩, [.int .i64 b, .int .i64 z, c2, c3], rfl, fun j u hj => ?_, PredR.mk_ (x := ⟨b, z, ss, ps⟩) hss hps⟩
          have hj4 : j < 4 := (List.getElem?_eq_some_iff.1 hj).1
          rw [← add_add, hat j hj4]
          exact hj
        obtain ⟨l, hll, hq⟩ := pick_list len hall
        obtain ⟨m, hm'⟩ := RowAt.depth (Kn := predR (fun _ => True) W) (fun n m hnm x cs hx => predR_imp (fun _ _ => rfl) (fun _ h => h) n m hnm x cs hx) (ok := fun _ => True) (A := some a) (xs := l) (w := W) (fun j x hj => by
          obtain ⟨cs, h1, h2, h3⟩ := hq j x hj
          exact ⟨a, cs, rfl, trivial, h1, h2, h3⟩)
        exact ⟨l, m, some a, cap, by rw [hll], by omega, hm, hm'⟩
set_option maxRecDepth 100000 in
theorem open_steps {r : Reach} {b0 : Nat} {v : Value} {d : DataW H} {p : List MemPlace} (hv : Value.okWide Tryz.prog W r b0 22 v) (h : DataW.Trod enc Tryz.prog W base (fun _ => true) true 22 v d p) : ∃ l : List Step, StepsR (fun _ => True) W v l := by
  obtain ⟨a, len, cap, rfl⟩ := okWide_slice Tryz.underlying22 hv
  obtain ⟨fuel, h⟩ := h
  exact (open_both fuel).1 (.slice a len cap) (d, p) h
end
end Go.Proofs.YtoanmoddppmffaaGreatDoor.T
