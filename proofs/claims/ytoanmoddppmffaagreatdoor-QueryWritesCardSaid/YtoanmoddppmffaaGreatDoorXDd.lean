/- The reference's Write. -/
import Derived.Test.YtoanmoddppmffaaGreatDoorXGc
import Derived.Test.YtoanmoddppmffaaGreatDoorXGd
import Derived.Test.YtoanmoddppmffaaGreatDoorXLb
import Derived.Test.YtoanmoddppmffaaGreatDoorXRl
import Derived.Test.YtoanmoddppmffaaGreatDoorXGa
import Derived.Test.YtoanmoddppmffaaGreatDoorXQa
import Derived.Deep.Slices
import Derived.Deep.Fields
import Derived.ChangeSame
import Derived.Carry
import Derived.KernelRfl
import Derived.Test.YtoanmoddppmffaaGreatDoorProg
namespace Go.Proofs.YtoanmoddppmffaaGreatDoor.T
open Go.RowKit Go.Shelf Go.Proofs.YtoanmoddppmffaaGreatDoorW.PrintWords
set_option linter.unusedVariables false
set_option linter.unusedSimpArgs false
theorem refWriter_all (n : Nat) : RWStepsC n ∧ RWHeldC n ∧ RWStepC n := by
  induction n using Nat.strongRecOn with
  | _ n ih =>
    have h1 := refSteps_any n (fun m hm => (ih m hm).2.2)
    exact ⟨h1, refHeld_any n h1 (fun m hm => (ih m hm).2.1), refWritten_any n (fun m hm => (ih m hm).2.1)⟩
theorem refParse_long (q : ByteArray) (w : World) (hl : q.size > 300) : Calls Tryz.prog 18 #[.string q] w (ParsePost none w) := by
  have hb : decide ((300 : Int) < (q.size : Int)) = true := decide_eq_true (by omega)
  go_enter Tryz.func18, Tryz.ntmps18
  go_wp2
  go_ret2
  exact ⟨Below.refl _ _, rfl⟩
theorem refParse_every (q : ByteArray) (w : World) : Calls Tryz.prog 18 #[.string q] w (ParsePost (parseQ q) w) := by
  by_cases hl : q.size > 300
  · rw [parseQ_long hl]; exact refParse_long q w hl
  · exact refParse_any q 5000 (parseQ q) w (parseQ_eq q) (by omega)
set_option maxHeartbeats 4000000 in
set_option maxRecDepth 100000 in
theorem refWrite_any {ok : Nat → Prop} (w : World) (v : Value) (l : List Step) (hl : StepsR ok w v l) (hn : nmSs l) (hz : (pathT true l).1.size ≤ szMax) : Calls Tryz.prog 9 #[v] w (WritePost (writeQ l) w) := by
  obtain ⟨n, hl'⟩ := hl
  obtain ⟨A, c, rfl, hc1, hc2⟩ := hl'.slice
  have hcall := (refWriter_all n).1 ok true w A c l hl' hn hz
  have HL := Aside0.mk (show StepsR ok w (.slice A l.length c) l from ⟨n, hl'⟩)
  obtain ⟨T, hT⟩ : ∃ T, T = pathT true l := ⟨_, rfl⟩
  have HW : Aside0 (writeQ l = if T.2 = true then (match parseQ T.1 with | some m => if eqB l m = true then some T.1 else none | none => none) else none) := ⟨by rw [hT]; rfl⟩
  rw [← hT] at hcall
  clear hl' hn hz hT
  go_enter Tryz.func9, Tryz.ntmps9
  go_wp2_with fail
  go_at_call 17
  refine hcall.mono ?_
  rintro e w2 ⟨q, rfl, h2, h3, hb2⟩
  have HB2 := Aside0.mk hb2
  clear hcall hb2 h3
  cases hok : T.2 with
  | false =>
    have HR : Aside0 (writeQ l = none) := ⟨by rw [HW.out, if_neg (by simp [hok])]⟩
    clear HW h2 hok
    go_wp2
    go_ret2
    exact ⟨by rw [HR.out]; rfl, HB2.out⟩
  | true =>
    obtain rfl := h2 hok
    have hp := refParse_every T.1 w2
    have HOK := Aside0.mk hok
    clear h2 hok
    cases hq : parseQ T.1 with
    | none =>
      rw [hq] at hp
      have HR : Aside0 (writeQ l = none) := ⟨by rw [HW.out, if_pos HOK.out, hq]⟩
      clear HW hq
      go_wp2_with fail
      go_at_call 18
      refine hp.mono ?_
      rintro e w3 ⟨hb3, rfl⟩
      have HB3 := Aside0.mk (below_step HB2.out hb3)
      have hsame := refSame_any (HL.out.below HB3.out) (StepsR.nil (fun _ => True) w3)
      generalize eqB l [] = bb at hsame
      clear hp hb3
      go_wp2_with fail
      go_at_call 12
      refine hsame.mono ?_
      rintro e w4 ⟨rfl, hb4⟩
      have HB4 := Aside0.mk (below_step HB3.out hb4)
      clear hsame hb4
      go_wp2
      go_ret2
      exact ⟨by rw [HR.out]; rfl, HB4.out⟩
    | some m =>
      rw [hq] at hp
      have HQ := Aside0.mk hq
      clear hq
      go_wp2_with fail
      go_at_call 18
      refine hp.mono ?_
      rintro e w3 ⟨hb3, A3, c3, rfl, hc3, hm3⟩
      have HB3 := Aside0.mk (below_step HB2.out hb3)
      have hsame := refSame_any (HL.out.below HB3.out) hm3
      clear hp hb3 hm3
      go_wp2_with fail
      go_at_call 12
      refine hsame.mono ?_
      rintro e w4 ⟨rfl, hb4⟩
      have HB4 := Aside0.mk (below_step HB3.out hb4)
      clear hsame hb4
      cases heq : eqB l m with
      | true =>
        have HR : Aside0 (writeQ l = some T.1) := ⟨by rw [HW.out, if_pos HOK.out, HQ.out]; simp only; rw [if_pos heq]⟩
        clear HW heq
        go_wp2
        go_ret2
        exact ⟨by rw [HR.out]; rfl, HB4.out⟩
      | false =>
        have HR : Aside0 (writeQ l = none) := ⟨by rw [HW.out, if_pos HOK.out, HQ.out]; simp only; rw [if_neg (by simp [heq])]⟩
        clear HW heq
        go_wp2
        go_ret2
        exact ⟨by rw [HR.out]; rfl, HB4.out⟩
end Go.Proofs.YtoanmoddppmffaaGreatDoor.T
namespace Go.Proofs.YtoanmoddppmffaaGreatDoor.T
open Go.RowKit Go.Shelf Go.Proofs.YtoanmoddppmffaaGreatDoorW.PrintWords
set_option linter.unusedVariables false
set_option linter.unusedSimpArgs false
set_option maxHeartbeats 4000000 in
set_option maxRecDepth 100000 in
theorem writes_any {ok : Nat → Prop} (w : World) (v : Value) (l : List Step) (hl : StepsR ok w v l) (hS : St w) : Calls Tryz.prog 3 #[v] w fun e w' => e = .returned (.bool true) ∧ Below w.heap.size w w' := by
  have h1 := awake_any w hS.vr hS.er
  have HL := Aside0.mk hl
  obtain ⟨_, hl'⟩ := hl
  obtain ⟨A, c, rfl, hc1, hc2⟩ := hl'.slice
  have HS := Aside0.mk hS
  clear hl' hS
  go_enter Tryz.func3, Tryz.ntmps3
  go_wp2_with fail
  go_at_call 6
  refine h1.mono ?_
  rintro e w1 ⟨rfl, hb1⟩
  have h2 : Calls Tryz.prog 7 #[.slice A l.length c, .int .i64 4] w1 _ := (small_few 4 (by decide)).1 _ w1 _ l (HL.out.below hb1)
  have HB1 := Aside0.mk hb1
  clear h1 hb1
  go_wp2_with fail
  go_at_call 7
  refine h2.mono ?_
  rintro e w2 ⟨v2, rfl, hs2, hb2⟩
  have HB2 := Aside0.mk (below_step HB1.out hb2)
  have hnz := small4 l
  have h3 := write_any w2 v2 _ hs2 (HS.out.below HB2.out) hnz.1 hnz.2
  obtain ⟨r, hr⟩ : ∃ r, r = writeQ (smallL 4 l) := ⟨_, rfl⟩
  have H4 : Aside0 (∀ w', Below w2.heap.size w2 w' → Calls Tryz.prog 9 #[v2] w' (WritePost r w')) := ⟨fun w' hb => by rw [hr]; exact refWrite_any w' v2 _ (hs2.below hb) hnz.1 hnz.2⟩
  have H5 : Aside0 (∀ w', Below w2.heap.size w2 w' → Calls Tryz.prog 10 #[v2] w' fun e w'' => e = .returned (.int .i64 (codeOf r)) ∧ Below w'.heap.size w' w'') := ⟨fun w' hb => by rw [hr]; exact check_any w' v2 _ (hs2.below hb) (HS.out.below (below_step HB2.out hb)) hnz.1 hnz.2⟩
  rw [← hr] at h3
  clear h2 hb2 hs2 hnz hr
  go_wp2_with fail
  go_at_call 8
  refine h3.mono ?_
  rintro e w3 ⟨rfl, hb3⟩
  have h4 := H4.out w3 hb3
  have HB3 := Aside0.mk hb3
  clear h3 hb3
  cases r with
  | none =>
    unfold writeV
    go_wp2_with fail
    go_at_call 9
    refine h4.mono ?_
    rintro e w4 ⟨rfl, hb4⟩
    have HB4 := Aside0.mk (below_step HB3.out hb4)
    have h5 := H5.out w4 HB4.out
    clear h4 hb4
    unfold writeV
    go_wp2_with fail
    go_at_call 10
    refine h5.mono ?_
    rintro e w5 ⟨rfl, hb5⟩
    have HB5 := Aside0.mk (below_step HB2.out (below_step HB4.out hb5))
    clear h5 hb5
    unfold codeOf
    go_wp2
    go_ret
    exact ⟨rfl, HB5.out⟩
  | some t =>
    unfold writeV
    go_wp2_with fail
    go_at_call 9
    refine h4.mono ?_
    rintro e w4 ⟨rfl, hb4⟩
    have HB4 := Aside0.mk (below_step HB3.out hb4)
    have h5 := H5.out w4 HB4.out
    clear h4 hb4
    unfold writeV
    go_wp2_with fail
    go_at_call 10
    refine h5.mono ?_
    rintro e w5 ⟨rfl, hb5⟩
    have HB5 := Aside0.mk (below_step HB2.out (below_step HB4.out hb5))
    clear h5 hb5
    unfold codeOf
    go_wp2
    go_ret
    exact ⟨rfl, HB5.out⟩
end Go.Proofs.YtoanmoddppmffaaGreatDoor.T
namespace Go.Proofs.YtoanmoddppmffaaGreatDoor.T
open Go.RowKit Go.ChangeShapes Go.WideShapes Go.Deep
set_option linter.unusedVariables false
theorem laidOut : laidOutB Tryz.prog = true := by kernel_rfl
theorem cellsStep : Tryz.prog.cellsOf 39 = 4 := by kernel_rfl
theorem cellsPred : Tryz.prog.cellsOf 41 = 4 := by kernel_rfl
theorem cells1 : Tryz.prog.cellsOf 4 = 1 ∧ Tryz.prog.cellsOf 3 = 1 ∧ Tryz.prog.cellsOf 9 = 1 ∧ Tryz.prog.cellsOf 22 = 1 ∧ Tryz.prog.cellsOf 37 = 1 := ⟨by kernel_rfl, by kernel_rfl, by kernel_rfl, by kernel_rfl, by kernel_rfl⟩
theorem pick_list {α : Type} {Q : Nat → α → Prop} : ∀ n, (∀ i, i < n → ∃ x, Q i x) → ∃ l : List α, l.length = n ∧ ∀ i x, l[i]? = some x → Q i x
  | 0, _ => ⟨[], rfl, fun i x h => by simp at h⟩
  | n + 1, h => by
    obtain ⟨l, hl, hq⟩ := pick_list (Q := Q) n (fun i hi => h i (by omega))
    obtain ⟨x, hx⟩ := h n (by omega)
    refine ⟨l ++ [x], by simp [hl], fun i y hy => ?_⟩
    by_cases hi : i < n
    · rw [List.getElem?_append_left (by omega)] at hy
      exact hq i y hy
    · rw [List.getElem?_append_right (by omega)] at hy
      have h1 := (List.getElem?_eq_some_iff.1 hy).1
      simp only [List.length_singleton] at h1
      have hin : i = n := by omega
      subst hin
      rw [show i - l.length = 0 by omega] at hy
      simp only [List.getElem?_cons_zero, Option.some.injEq] at hy
      exact hy ▸ hx
theorem list_four {α : Type} {l : List α} (h : l.length = 4) : ∃ a b c d, l = [a, b, c, d] := by
  match l, h with
  | [a, b, c, d], _ => exact ⟨a, b, c, d, rfl⟩
section
variable {H : Type} {enc : TypeId × Value → H} {W : World} {base : Nat}
set_option maxRecDepth 100000 in
theorem open_both : ∀ fuel : Nat, (∀ (v : Value) (y : DataW H × List MemPlace), DataW.trod enc Tryz.prog W base (fun _ => true) true fuel 22 [v] = some y → ∃ l : List Step, StepsR (fun _ => True) W v l) ∧
    (∀ (v : Value) (y : DataW H × List MemPlace), DataW.trod enc Tryz.prog W base (fun _ => true) true fuel 37 [v] = some y → ∃ l : List Pred, PredsR (fun _ => True) W v l) := by
  intro fuel
  induction fuel using Nat.strongRecOn with
  | _ fuel ih =>
    obtain ⟨k1, k2, k3, k4, k5⟩ := cells1
    refine ⟨fun v y h => ?_, fun v y h => ?_⟩
    · rcases DataW.trod_slice Tryz.underlying22 h with ⟨h0, _⟩ | ⟨a, len, cap, elems, rest, n, hf, hcs, _, hb, hl, hm, hlen, hel, _, _⟩
      · obtain rfl := List.cons.inj h0 |>.1
        exact ⟨[], StepsR.nil _ _⟩
      · obtain rfl := List.cons.inj hcs |>.1
        have hall : ∀ i, i < len → ∃ x : Step, ∃ cs : List Value, cs.length = 4 ∧ (∀ j u, cs[j]? = some u → W.cell? (a.add (i * 4 + j)) = some u) ∧ StepR (fun _ => True) W x cs := by
          intro i hi
          have h1 := hel i hi
          rw [List.getElem?_eq_getElem (by omega), cellsStep] at h1
          obtain ⟨cs', hc, ht⟩ := Option.bind_eq_some_iff.1 h1
          obtain ⟨_, hcl, hat⟩ := World.cells?_some hc
          obtain ⟨ys, n', hn', _, hlen4, hyl, hfl⟩ := DataW.trod_struct Tryz.underlying39 ht
          rw [cellsStep] at hlen4
          obtain ⟨c0, c1, c2, c3, rfl⟩ := list_four hlen4
          have f0 : DataW.trod enc Tryz.prog W base (fun _ => true) true n' 4 (([c0, c1, c2, c3].drop 0).take (Tryz.prog.cellsOf 4)) = ys[0]? := hfl 0 _ rfl
          have f1 : DataW.trod enc Tryz.prog W base (fun _ => true) true n' 3 (([c0, c1, c2, c3].drop 1).take (Tryz.prog.cellsOf 3)) = ys[1]? := hfl 1 _ rfl
          have f2 : DataW.trod enc Tryz.prog W base (fun _ => true) true n' 9 (([c0, c1, c2, c3].drop 2).take (Tryz.prog.cellsOf 9)) = ys[2]? := hfl 2 _ rfl
          have f3 : DataW.trod enc Tryz.prog W base (fun _ => true) true n' 37 (([c0, c1, c2, c3].drop 3).take (Tryz.prog.cellsOf 37)) = ys[3]? := hfl 3 _ rfl
          simp only [k1, k2, k3, k5, List.drop_zero, List.drop_succ_cons, List.take_succ_cons, List.take_zero] at f0 f1 f2 f3
          have hys : ys.length = 4 := hyl
          rw [List.getElem?_eq_getElem (by omega)] at f0 f1 f2 f3
          obtain ⟨b, e0, _⟩ := DataW.trod_bool Tryz.underlying4 f0
          obtain ⟨z, e1, _, _⟩ := DataW.trod_int Tryz.underlying3 f1
          obtain ⟨s, e2, _, _⟩ := DataW.trod_string Tryz.underlying9 f2
          obtain ⟨ps, hps⟩ := (ih n' (by omega)).2 _ _ f3
          obtain rfl := List.cons.inj e0 |>.1
          obtain rfl := List.cons.inj e1 |>.1
          obtain rfl := List.cons.inj e2 |>.1
          refine ⟨⟨b, z, s, ps⟩, [.bool b, .int .i64 z, .string s, c3], rfl, fun j u hj => ?_, StepR.mk_ (x := ⟨b, z, s, ps⟩) hps⟩
          have hj4 : j < 4 := (List.getElem?_eq_some_iff.1 hj).1
          rw [← add_add, hat j hj4]
          exact hj
        obtain ⟨l, hll, hq⟩ := pick_list len hall
        obtain ⟨m, hm'⟩ := RowAt.depth (Kn := stepR (fun _ => True) W) (fun n m hnm x cs hx => stepR_imp (fun _ _ => rfl) (fun _ h => h) n m hnm x cs hx) (ok := fun _ => True) (A := some a) (xs := l) (w := W) (fun j x hj => by
          obtain ⟨cs, h1, h2, h3⟩ := hq j x hj
          exact ⟨a, cs, rfl, trivial, h1, h2, h3⟩)
        exact ⟨l, m, some a, cap, by rw [hll], by omega, hm, hm'⟩
    · rcases DataW.trod_slice Tryz.underlying37 h with ⟨h0, _⟩ | ⟨a, len, cap, elems, rest, n, hf, hcs, _, hb, hl, hm, hlen, hel, _, _⟩
      · obtain rfl := List.cons.inj h0 |>.1
        exact ⟨[], PredsR.nil _ _⟩
      · obtain rfl := List.cons.inj hcs |>.1
        have hall : ∀ i, i < len → ∃ x : Pred, ∃ cs : List Value, cs.length = 4 ∧ (∀ j u, cs[j]? = some u → W.cell? (a.add (i * 4 + j)) = some u) ∧ PredR (fun _ => True) W x cs := by
          intro i hi
          have h1 := hel i hi
          rw [List.getElem?_eq_getElem (by omega), cellsPred] at h1
          obtain ⟨cs', hc, ht⟩ := Option.bind_eq_some_iff.1 h1
          obtain ⟨_, hcl, hat⟩ := World.cells?_some hc
          obtain ⟨ys, n', hn', _, hlen4, hyl, hfl⟩ := DataW.trod_struct Tryz.underlying41 ht
          rw [cellsPred] at hlen4
          obtain ⟨c0, c1, c2, c3, rfl⟩ := list_four hlen4
          have f0 : DataW.trod enc Tryz.prog W base (fun _ => true) true n' 3 (([c0, c1, c2, c3].drop 0).take (Tryz.prog.cellsOf 3)) = ys[0]? := hfl 0 _ rfl
          have f1 : DataW.trod enc Tryz.prog W base (fun _ => true) true n' 3 (([c0, c1, c2, c3].drop 1).take (Tryz.prog.cellsOf 3)) = ys[1]? := hfl 1 _ rfl
          have f2 : DataW.trod enc Tryz.prog W base (fun _ => true) true n' 22 (([c0, c1, c2, c3].drop 2).take (Tryz.prog.cellsOf 22)) = ys[2]? := hfl 2 _ rfl
          have f3 : DataW.trod enc Tryz.prog W base (fun _ => true) true n' 37 (([c0, c1, c2, c3].drop 3).take (Tryz.prog.cellsOf 37)) = ys[3]? := hfl 3 _ rfl
          simp only [k2, k4, k5, List.drop_zero, List.drop_succ_cons, List.take_succ_cons, List.take_zero] at f0 f1 f2 f3
          have hys : ys.length = 4 := hyl
          rw [List.getElem?_eq_getElem (by omega)] at f0 f1 f2 f3
          obtain ⟨b, e0, _, _⟩ := DataW.trod_int Tryz.underlying3 f0
          obtain ⟨z, e1, _, _⟩ := DataW.trod_int Tryz.underlying3 f1
          obtain ⟨ss, hss⟩ := (ih n' (by omega)).1 _ _ f2
          obtain ⟨ps, hps⟩ := (ih n' (by omega)).2 _ _ f3
          obtain rfl := List.cons.inj e0 |>.1
          obtain rfl := List.cons.inj e1 |>.1
          refine ⟨⟨b, z, ss, ps⟩, [.int .i64 b, .int .i64 z, c2, c3], rfl, fun j u hj => ?_, PredR.mk_ (x := ⟨b, z, ss, ps⟩) hss hps⟩
          have hj4 : j < 4 := (List.getElem?_eq_some_iff.1 hj).1
          rw [← add_add, hat j hj4]
          exact hj
        obtain ⟨l, hll, hq⟩ := pick_list len hall
        obtain ⟨m, hm'⟩ := RowAt.depth (Kn := predR (fun _ => True) W) (fun n m hnm x cs hx => predR_imp (fun _ _ => rfl) (fun _ h => h) n m hnm x cs hx) (ok := fun _ => True) (A := some a) (xs := l) (w := W) (fun j x hj => by
          obtain ⟨cs, h1, h2, h3⟩ := hq j x hj
          exact ⟨a, cs, rfl, trivial, h1, h2, h3⟩)
        exact ⟨l, m, some a, cap, by rw [hll], by omega, hm, hm'⟩
set_option maxRecDepth 100000 in
theorem open_steps {r : Reach} {b0 : Nat} {v : Value} {d : DataW H} {p : List MemPlace} (hv : Value.okWide Tryz.prog W r b0 22 v) (h : DataW.Trod enc Tryz.prog W base (fun _ => true) true 22 v d p) : ∃ l : List Step, StepsR (fun _ => True) W v l := by
  obtain ⟨a, len, cap, rfl⟩ := okWide_slice Tryz.underlying22 hv
  obtain ⟨fuel, h⟩ := h
  exact (open_both fuel).1 (.slice a len cap) (d, p) h
end
end Go.Proofs.YtoanmoddppmffaaGreatDoor.T
