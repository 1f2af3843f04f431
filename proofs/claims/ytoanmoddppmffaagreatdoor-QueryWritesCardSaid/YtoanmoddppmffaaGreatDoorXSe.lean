/- The program's Same: what it answers. -/
import Derived.Test.YtoanmoddppmffaaGreatDoorXSd
import Derived.Test.YtoanmoddppmffaaGreatDoorXEb
namespace Go.Proofs.YtoanmoddppmffaaGreatDoor.T
open Go.RowKit Go.Shelf Go.Proofs.YtoanmoddppmffaaGreatDoorW.PrintWords
set_option linter.unusedVariables false
set_option linter.unusedSimpArgs false
def QSameC (n : Nat) : Prop := ∀ (ok ok' : Nat → Prop) (w : World) (v u : Value) (xs ys : List Step), SlAt (stepR ok w n) ok w v xs → StepsR ok' w u ys → Calls Tryz.prog 16 #[v, u] w (SamePost (eqB xs ys) w)
def QEqPC (n : Nat) : Prop := ∀ (ok ok' : Nat → Prop) (w : World) (v u : Value) (xs ys : List Pred), SlAt (predR ok w n) ok w v xs → PredsR ok' w u ys → Calls Tryz.prog 28 #[v, u, .func (.func 29) #[] #[]] w (SamePost (eqB xs ys) w)
theorem eqB_step {x y : Step} (h0 : x.deep = y.deep) (h1 : x.axis = y.axis) (h2 : x.name = y.name) : eqB x y = eqB x.preds y.preds := by
  cases h : eqB x.preds y.preds with
  | true => exact eqB_iff.2 (step_ext h0 h1 h2 h)
  | false => exact eqB_no (by rintro rfl; rw [eqB_self] at h; cases h)
set_option maxHeartbeats 4000000 in
set_option maxRecDepth 100000 in
theorem same1_any (m : Nat) (IH : QEqPC m) (ok ok' : Nat → Prop) (w : World) (x y : Step) (A B : Option Addr) (c d : Nat) (hx : SlAt (predR ok w m) ok w (.slice A x.preds.length c) x.preds) (hy : PredsR ok' w (.slice B y.preds.length d) y.preds) :
    Calls Tryz.prog 27 #[.agg #[.bool x.deep, .int .i64 x.axis, .string x.name, .slice A x.preds.length c], .agg #[.bool y.deep, .int .i64 y.axis, .string y.name, .slice B y.preds.length d]] w (SamePost (eqB x y) w) := by
  have HX := Aside0.mk hx
  have HY := Aside0.mk hy
  have HIH := Aside0.mk IH
  clear hx hy IH
  by_cases d0 : x.deep = y.deep
  · rw [← d0]
    by_cases d1 : x.axis = y.axis
    · rw [← d1]
      by_cases d2 : x.name = y.name
      · rw [← d2]
        have HE := Aside0.mk (eqB_step d0 d1 d2)
        clear d0 d1 d2
        go_enter Tryz.func27, Tryz.ntmps27
        go_wp2_with fail
        have hb2 : Below w.heap.size w ((w.alloc (.cells #[.bool x.deep, .int .i64 x.axis, .string x.name, .slice A x.preds.length c] 39)).alloc (.cells #[.bool x.deep, .int .i64 x.axis, .string x.name, .slice B y.preds.length d] 39)) := below_alloc (below_alloc (Below.refl _ _) _) _
        generalize ((w.alloc (.cells #[.bool x.deep, .int .i64 x.axis, .string x.name, .slice A x.preds.length c] 39)).alloc (.cells #[.bool x.deep, .int .i64 x.axis, .string x.name, .slice B y.preds.length d] 39)) = w2 at hb2 ⊢
        have hcall := HIH.out _ _ w2 _ _ x.preds y.preds (predsAt_below HX.out hb2) (HY.out.below hb2)
        go_at_call 28
        refine hcall.mono ?_
        rintro e w3 ⟨rfl, hb3⟩
        have HB := Aside0.mk (below_step hb2 hb3)
        clear hcall hb2 hb3
        go_wp2
        go_ret
        exact ⟨congrArg (fun x => Ending.returned (Value.bool x)) HE.out.symm, HB.out⟩
      · have d2' := name_ne d2
        have HE := Aside0.mk (eqB_no (show x ≠ y by rintro rfl; exact d2 rfl))
        clear d0 d1
        go_enter Tryz.func27, Tryz.ntmps27
        go_wp2
        go_ret
        exact ⟨congrArg (fun x => Ending.returned (Value.bool x)) HE.out.symm, below_alloc (below_alloc (Below.refl _ _) _) _⟩
    · have HE := Aside0.mk (eqB_no (show x ≠ y by rintro rfl; exact d1 rfl))
      clear d0
      go_enter Tryz.func27, Tryz.ntmps27
      go_wp2
      go_ret
      exact ⟨congrArg (fun x => Ending.returned (Value.bool x)) HE.out.symm, below_alloc (below_alloc (Below.refl _ _) _) _⟩
  · have d0' : (x.deep == y.deep) = false := by simpa using d0
    have HE := Aside0.mk (eqB_no (show x ≠ y by rintro rfl; exact d0 rfl))
    go_enter Tryz.func27, Tryz.ntmps27
    go_wp2
    go_ret
    exact ⟨congrArg (fun x => Ending.returned (Value.bool x)) HE.out.symm, below_alloc (below_alloc (Below.refl _ _) _) _⟩
theorem eqB_pred {x y : Pred} (h0 : x.kind = y.kind) (h1 : x.n = y.n) (h2 : eqB x.path y.path = true) : eqB x y = eqB x.args y.args := by
  cases h : eqB x.args y.args with
  | true => exact eqB_iff.2 (pred_ext h0 h1 h2 h)
  | false => exact eqB_no (by rintro rfl; rw [eqB_self] at h; cases h)
set_option maxHeartbeats 4000000 in
set_option maxRecDepth 100000 in
theorem samePred_any (m : Nat) (IHS : QSameC m) (IH : QEqPC m) (ok ok' : Nat → Prop) (w : World) (x y : Pred) (A B C D : Option Addr) (c d c' d' : Nat) (hx : SlAt (stepR ok w m) ok w (.slice A x.path.length c) x.path) (hx2 : SlAt (predR ok w m) ok w (.slice C x.args.length c') x.args)
    (hy : StepsR ok' w (.slice B y.path.length d) y.path) (hy2 : PredsR ok' w (.slice D y.args.length d') y.args) :
    Calls Tryz.prog 29 #[.agg #[.int .i64 x.kind, .int .i64 x.n, .slice A x.path.length c, .slice C x.args.length c'], .agg #[.int .i64 y.kind, .int .i64 y.n, .slice B y.path.length d, .slice D y.args.length d']] w (SamePost (eqB x y) w) := by
  have HX := Aside0.mk hx
  have HY := Aside0.mk hy
  have HX2 := Aside0.mk hx2
  have HY2 := Aside0.mk hy2
  have HIH := Aside0.mk IH
  have HIHS := Aside0.mk IHS
  clear hx hy IH hx2 hy2 IHS
  by_cases d0 : x.kind = y.kind
  · rw [← d0]
    by_cases d1 : x.n = y.n
    · rw [← d1]
      have HE := Aside0.mk (fun h => eqB_pred (x := x) (y := y) d0 d1 h)
      have HNE := Aside0.mk (fun (h : eqB x.path y.path = false) => eqB_no (show x ≠ y by rintro rfl; rw [eqB_self] at h; cases h))
      clear d0 d1
      go_enter Tryz.func29, Tryz.ntmps29
      go_wp2_with fail
      have hb2 : Below w.heap.size w ((w.alloc (.cells #[.int .i64 x.kind, .int .i64 x.n, .slice A x.path.length c, .slice C x.args.length c'] 41)).alloc (.cells #[.int .i64 x.kind, .int .i64 x.n, .slice B y.path.length d, .slice D y.args.length d'] 41)) := below_alloc (below_alloc (Below.refl _ _) _) _
      have hn1 : ((w.alloc (.cells #[.int .i64 x.kind, .int .i64 x.n, .slice A x.path.length c, .slice C x.args.length c'] 41)).alloc (.cells #[.int .i64 x.kind, .int .i64 x.n, .slice B y.path.length d, .slice D y.args.length d'] 41)).heap[w.heap.size]? = some (.cells #[.int .i64 x.kind, .int .i64 x.n, .slice A x.path.length c, .slice C x.args.length c'] 41 (0, 0)) :=
        blk_below (blk_new w _) (below_alloc (Below.refl _ _) _)
      have hn2 : ((w.alloc (.cells #[.int .i64 x.kind, .int .i64 x.n, .slice A x.path.length c, .slice C x.args.length c'] 41)).alloc (.cells #[.int .i64 x.kind, .int .i64 x.n, .slice B y.path.length d, .slice D y.args.length d'] 41)).heap[w.heap.size + 1]? = some (.cells #[.int .i64 x.kind, .int .i64 x.n, .slice B y.path.length d, .slice D y.args.length d'] 41 (0, 0)) := by
        have := blk_new (w.alloc (.cells #[.int .i64 x.kind, .int .i64 x.n, .slice A x.path.length c, .slice C x.args.length c'] 41)) (.cells #[.int .i64 x.kind, .int .i64 x.n, .slice B y.path.length d, .slice D y.args.length d'] 41)
        simpa using this
      generalize ((w.alloc (.cells #[.int .i64 x.kind, .int .i64 x.n, .slice A x.path.length c, .slice C x.args.length c'] 41)).alloc (.cells #[.int .i64 x.kind, .int .i64 x.n, .slice B y.path.length d, .slice D y.args.length d'] 41)) = w2 at hb2 hn1 hn2 ⊢
      have hcall := HIHS.out _ _ w2 _ _ x.path y.path (stepsAt_below HX.out hb2) (HY.out.below hb2)
      go_at_call 16
      refine hcall.mono ?_
      rintro e w3 ⟨rfl, hb3⟩
      have HB := Aside0.mk (below_step hb2 hb3)
      cases hep : eqB x.path y.path with
      | false =>
        have HE2 := Aside0.mk (HNE.out hep)
        clear hcall hb2 hb3 hep
        go_wp2
        go_ret
        exact ⟨congrArg (fun x => Ending.returned (Value.bool x)) HE2.out.symm, HB.out⟩
      | true =>
        have HE2 := Aside0.mk (HE.out hep)
        have z1 : w3.cell? ⟨w.heap.size, 3, none⟩ = some (.slice C x.args.length c') := (blk_cell (blk_below hn1 hb3) 3).trans rfl
        have z2 : w3.cell? ⟨w.heap.size + 1, 3, none⟩ = some (.slice D y.args.length d') := (blk_cell (blk_below hn2 hb3) 3).trans rfl
        have hcall2 := HIH.out _ _ w3 _ _ x.args y.args (predsAt_below HX2.out HB.out) (HY2.out.below HB.out)
        clear hcall hb2 hb3 hep hn1 hn2
        go_wp2_with fail
        go_at_call 28
        refine hcall2.mono ?_
        rintro e w4 ⟨rfl, hb4⟩
        have HB4 := Aside0.mk (below_step HB.out hb4)
        clear hcall2 hb4
        go_wp2
        go_ret
        exact ⟨congrArg (fun x => Ending.returned (Value.bool x)) HE2.out.symm, HB4.out⟩
    · have HE := Aside0.mk (eqB_no (show x ≠ y by rintro rfl; exact d1 rfl))
      clear d0
      go_enter Tryz.func29, Tryz.ntmps29
      go_wp2
      go_ret
      exact ⟨congrArg (fun x => Ending.returned (Value.bool x)) HE.out.symm, below_alloc (below_alloc (Below.refl _ _) _) _⟩
  · have HE := Aside0.mk (eqB_no (show x ≠ y by rintro rfl; exact d0 rfl))
    go_enter Tryz.func29, Tryz.ntmps29
    go_wp2
    go_ret
    exact ⟨congrArg (fun x => Ending.returned (Value.bool x)) HE.out.symm, below_alloc (below_alloc (Below.refl _ _) _) _⟩
end Go.Proofs.YtoanmoddppmffaaGreatDoor.T
