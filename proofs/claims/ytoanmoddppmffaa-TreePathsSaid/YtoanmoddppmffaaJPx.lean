/- What each function of the program comes to, and its walk: laid by a program. -/
import Derived.Test.YtoanmoddppmffaaJTx0
import Derived.Test.YtoanmoddppmffaaJTx1
import Derived.Test.YtoanmoddppmffaaJTx2
import Derived.Test.YtoanmoddppmffaaJTx3
import Derived.Test.YtoanmoddppmffaaJTx4
import Derived.Test.YtoanmoddppmffaaJTx5
import Derived.Test.YtoanmoddppmffaaJTx6
import Derived.Test.YtoanmoddppmffaaJTx7
import Derived.Test.YtoanmoddppmffaaJTx8
import Derived.Test.YtoanmoddppmffaaJTx9
import Derived.Test.YtoanmoddppmffaaJTx10
import Derived.Test.YtoanmoddppmffaaJTx11
import Derived.Test.YtoanmoddppmffaaJTx12
import Derived.Test.YtoanmoddppmffaaJTx13
import Derived.Test.YtoanmoddppmffaaJTx14
import Derived.Test.YtoanmoddppmffaaJTx15
import Derived.Test.YtoanmoddppmffaaJTx16
import Derived.Test.YtoanmoddppmffaaJTx17
import Derived.Test.YtoanmoddppmffaaJTx18
import Derived.Test.YtoanmoddppmffaaJTx19
import Derived.Test.YtoanmoddppmffaaJTx20
import Derived.Test.YtoanmoddppmffaaJTx21
namespace Go.Proofs.Ytoanmoddppmffaa.T
open Go.RowKit Go.Proofs.YtoanmoddppmffaaW.PrintWords Go.Proofs.YtoanmoddppmffaaW.PrintLast Go.Proofs.YtoanmoddppmffaaW.PrintMore
set_option linter.unusedVariables false
set_option linter.unusedSimpArgs false
def topiarylaw15_TreePaths.l0 : Nat → List Int → Bool → List Int → Int → List ByteArray → List (S52) → Bool → Int → List Bool → Option (Bool)
 | 0, _, _, _, _, _, _, _, _, _ => none
 | k + 1, x1, x7, x9, x10, x395000, x395001, x396000, x396001, x396002 => if x10 < (x9.length : Int) then (if x10 < (x396002.length : Int) then (if 0 ≤ x10 then (if ([] : List Int).length < 17592186044416 then ((some (([] : List Int) ++ [rd x9 x10] : List Int)).bind fun y419 => (if y419.length + x1.length < 17592186044416 then (topiarylaw15_TreePaths.l0 k (y419 ++ x1) x7 x9 (wrap64 (x10 + 1)) x395000 x395001 x396000 x396001 x396002) else (none))) else (none)) else (none)) else ((tree_Paths.f k x395000 x395001 x1).bind fun t425 => ((topiaryref15_Paths.f k x395000 x395001 x1).bind fun t428 => ((topiaryref02_Same.f k t425 t428).bind fun t431 => (if x7 = true then (some t431) else (some false)))))) else ((tree_Paths.f k x395000 x395001 x1).bind fun t432 => ((topiaryref15_Paths.f k x395000 x395001 x1).bind fun t435 => ((topiaryref02_Same.f k t432 t435).bind fun t438 => (if x7 = true then (some t438) else (some false)))))
def topiarylaw15_TreePaths.f (k : Nat) (l0_0 : List ByteArray) (l0_1 : List (S52)) (l1 : List Int) (a2_0 : Bool) (a2_1 : Int) (l2_2 : List Bool) : Option (Bool) := (topiarylaw15_awake.f k).bind fun t396 => ((topiarylaw15_small.f k l0_0 l0_1).bind fun bt397 => (if (l1.length : Int) > 6 then (if 6 ≤ (l1.length : Int) then ((some (l1.take 6 : List Int)).bind fun y403 => (if a2_0 = true then (if (bt397.2.length : Int) > 0 then (if (bt397.2.length : Int) = 0 then (none) else ((topiaryref15_Symbol.f k bt397.1 bt397.2 (Int.tmod (wrap64 ((Int.tmod a2_1 (bt397.2.length : Int)) + (bt397.2.length : Int))) (bt397.2.length : Int))).bind fun t408 => ((some (([t408] : List Int) : List Int)).bind fun y409 => ((topiaryref15_Up.f k bt397.1 bt397.2 (Int.tmod (wrap64 ((Int.tmod a2_1 (bt397.2.length : Int)) + (bt397.2.length : Int))) (bt397.2.length : Int))).bind fun t412 => (if y409.length + t412.length < 17592186044416 then (topiarylaw15_TreePaths.l0 k ([] : List Int) t396 (y409 ++ t412) 0 bt397.1 bt397.2 a2_0 a2_1 l2_2) else (none)))))) else ((tree_Paths.f k bt397.1 bt397.2 y403).bind fun t439 => ((topiaryref15_Paths.f k bt397.1 bt397.2 y403).bind fun t442 => ((topiaryref02_Same.f k t439 t442).bind fun t445 => (if t396 = true then (some t445) else (some false)))))) else ((tree_Paths.f k bt397.1 bt397.2 y403).bind fun t446 => ((topiaryref15_Paths.f k bt397.1 bt397.2 y403).bind fun t449 => ((topiaryref02_Same.f k t446 t449).bind fun t452 => (if t396 = true then (some t452) else (some false))))))) else (none)) else (if a2_0 = true then (if (bt397.2.length : Int) > 0 then (if (bt397.2.length : Int) = 0 then (none) else ((topiaryref15_Symbol.f k bt397.1 bt397.2 (Int.tmod (wrap64 ((Int.tmod a2_1 (bt397.2.length : Int)) + (bt397.2.length : Int))) (bt397.2.length : Int))).bind fun t453 => ((some (([t453] : List Int) : List Int)).bind fun y454 => ((topiaryref15_Up.f k bt397.1 bt397.2 (Int.tmod (wrap64 ((Int.tmod a2_1 (bt397.2.length : Int)) + (bt397.2.length : Int))) (bt397.2.length : Int))).bind fun t457 => (if y454.length + t457.length < 17592186044416 then (topiarylaw15_TreePaths.l0 k ([] : List Int) t396 (y454 ++ t457) 0 bt397.1 bt397.2 a2_0 a2_1 l2_2) else (none)))))) else ((tree_Paths.f k bt397.1 bt397.2 l1).bind fun t463 => ((topiaryref15_Paths.f k bt397.1 bt397.2 l1).bind fun t466 => ((topiaryref02_Same.f k t463 t466).bind fun t469 => (if t396 = true then (some t469) else (some false)))))) else ((tree_Paths.f k bt397.1 bt397.2 l1).bind fun t470 => ((topiaryref15_Paths.f k bt397.1 bt397.2 l1).bind fun t473 => ((topiaryref02_Same.f k t470 t473).bind fun t476 => (if t396 = true then (some t476) else (some false))))))))
def topiarylaw15_TreePaths.T6 : Bool × List (List Nat × List Nat) := (true, [([], []), ([0], [0]), ([], []), ([2], [2]), ([3], [3]), ([1, 4], [1, 4]), ([], []), ([6], [6]), ([7], [7]), ([5, 8], [5, 8]), ([], []), ([10], [10]), ([11], [11]), ([9, 12], [9, 12]), ([13, 0, 1, 2, 3, 4, 5, 6, 7, 8, 9, 10, 11, 12, 13], [13])])
def topiarylaw15_TreePaths.B6 : List Nat := [0, 1, 0, 4, 12, 31, 0, 64, 192, 511, 0, 1024, 3072, 8191, 16383]
theorem topiarylaw15_TreePaths.tab6 : rtab .any (opsOf Try.f6 6) = topiarylaw15_TreePaths.T6 := by kernel_rfl
theorem topiarylaw15_TreePaths.bits6 : waitsOk topiarylaw15_TreePaths.T6.2 topiarylaw15_TreePaths.B6 = true := by kernel_rfl
def topiarylaw15_TreePaths.T16 : Bool × List (List Nat × List Nat) := (true, [([], []), ([], []), ([0, 1], [0, 1]), ([], []), ([], []), ([3, 4, 2], [3, 4]), ([2, 5, 5], [2, 5]), ([6, 6, 0, 1, 2, 3, 4, 5, 6], [6])])
def topiarylaw15_TreePaths.B16 : List Nat := [0, 0, 3, 0, 0, 31, 63, 127]
theorem topiarylaw15_TreePaths.tab16 : rtab .any (opsOf Try.f6 16) = topiarylaw15_TreePaths.T16 := by kernel_rfl
theorem topiarylaw15_TreePaths.bits16 : waitsOk topiarylaw15_TreePaths.T16.2 topiarylaw15_TreePaths.B16 = true := by kernel_rfl
set_option maxHeartbeats 8000000 in
set_option maxRecDepth 100000 in
theorem topiarylaw15_TreePaths.calls (k : Nat) (A0_0 : Option Addr) (c0_0 : Nat) (l0_0 : List ByteArray) (A0_1 : Option Addr) (c0_1 : Nat) (l0_1 : List (S52)) (P1_ : Nat → Prop) (A1 : Option Addr) (c1 : Nat) (l1 : List Int) (a2_0 : Bool) (a2_1 : Int) (A2_2 : Option Addr) (c2_2 : Nat) (l2_2 : List Bool) (r : Bool) (w : World) (hr0_0 : Kd.C Kd.string w A0_0 l0_0.length l0_0) (hc0_0 : l0_0.length ≤ c0_0) (hr0_1 : Kd.C k52 w A0_1 l0_1.length l0_1) (hc0_1 : l0_1.length ≤ c0_1) (hs1 : Kd.V (Kd.int .i64) 3 w w.heap.size (fun k_ => P1_ k_) (.slice A1 l1.length c1) l1) (hr2_2 : Kd.C Kd.bool w A2_2 l2_2.length l2_2) (hc2_2 : l2_2.length ≤ c2_2) (h : topiarylaw15_TreePaths.f k l0_0 l0_1 l1 a2_0 a2_1 l2_2 = some r) (hrt : r = true) :
  Calls Try.prog 6 #[.agg #[.slice A0_0 l0_0.length c0_0, .slice A0_1 l0_1.length c0_1], .slice A1 l1.length c1, .agg #[.bool a2_0, .int .i64 a2_1, .slice A2_2 l2_2.length c2_2]] w fun e w' => e = .returned (.bool r) ∧ Below w.heap.size w w' := by
 have HRT := Aside0.mk hrt
 clear hrt
 have hu25 := Try.underlying25
 have hu45 := Try.underlying45
 have HR0_0 := Aside0.mk hr0_0
 have HC0_0 := Aside0.mk hc0_0
 clear hr0_0 hc0_0
 have HR0_1 := Aside0.mk hr0_1
 have HC0_1 := Aside0.mk hc0_1
 clear hr0_1 hc0_1
 have HO1 := Aside0.mk (show Kd.V (Kd.int .i64) 3 w w.heap.size (fun k_ => (P1_ k_ ∨ w.heap.size ≤ k_)) (.slice A1 l1.length c1) l1 from Kd.V_mono hs1 (fun k_ hk => .inl hk))
 have HR2_2 := Aside0.mk hr2_2
 have HC2_2 := Aside0.mk hc2_2
 clear hr2_2 hc2_2
 have HB := Aside0.mk (Below.refl w.heap.size w)
 have H : ((topiarylaw15_awake.f k).bind fun t396 => ((topiarylaw15_small.f k l0_0 l0_1).bind fun bt397 => (if (l1.length : Int) > 6 then (if 6 ≤ (l1.length : Int) then ((some (l1.take 6 : List Int)).bind fun y403 => (if a2_0 = true then (if (bt397.2.length : Int) > 0 then (if (bt397.2.length : Int) = 0 then (none) else ((topiaryref15_Symbol.f k bt397.1 bt397.2 (Int.tmod (wrap64 ((Int.tmod a2_1 (bt397.2.length : Int)) + (bt397.2.length : Int))) (bt397.2.length : Int))).bind fun t408 => ((some (([t408] : List Int) : List Int)).bind fun y409 => ((topiaryref15_Up.f k bt397.1 bt397.2 (Int.tmod (wrap64 ((Int.tmod a2_1 (bt397.2.length : Int)) + (bt397.2.length : Int))) (bt397.2.length : Int))).bind fun t412 => (if y409.length + t412.length < 17592186044416 then (topiarylaw15_TreePaths.l0 k ([] : List Int) t396 (y409 ++ t412) 0 bt397.1 bt397.2 a2_0 a2_1 l2_2) else (none)))))) else ((tree_Paths.f k bt397.1 bt397.2 y403).bind fun t439 => ((topiaryref15_Paths.f k bt397.1 bt397.2 y403).bind fun t442 => ((topiaryref02_Same.f k t439 t442).bind fun t445 => (if t396 = true then (some t445) else (some false)))))) else ((tree_Paths.f k bt397.1 bt397.2 y403).bind fun t446 => ((topiaryref15_Paths.f k bt397.1 bt397.2 y403).bind fun t449 => ((topiaryref02_Same.f k t446 t449).bind fun t452 => (if t396 = true then (some t452) else (some false))))))) else (none)) else (if a2_0 = true then (if (bt397.2.length : Int) > 0 then (if (bt397.2.length : Int) = 0 then (none) else ((topiaryref15_Symbol.f k bt397.1 bt397.2 (Int.tmod (wrap64 ((Int.tmod a2_1 (bt397.2.length : Int)) + (bt397.2.length : Int))) (bt397.2.length : Int))).bind fun t453 => ((some (([t453] : List Int) : List Int)).bind fun y454 => ((topiaryref15_Up.f k bt397.1 bt397.2 (Int.tmod (wrap64 ((Int.tmod a2_1 (bt397.2.length : Int)) + (bt397.2.length : Int))) (bt397.2.length : Int))).bind fun t457 => (if y454.length + t457.length < 17592186044416 then (topiarylaw15_TreePaths.l0 k ([] : List Int) t396 (y454 ++ t457) 0 bt397.1 bt397.2 a2_0 a2_1 l2_2) else (none)))))) else ((tree_Paths.f k bt397.1 bt397.2 l1).bind fun t463 => ((topiaryref15_Paths.f k bt397.1 bt397.2 l1).bind fun t466 => ((topiaryref02_Same.f k t463 t466).bind fun t469 => (if t396 = true then (some t469) else (some false)))))) else ((tree_Paths.f k bt397.1 bt397.2 l1).bind fun t470 => ((topiaryref15_Paths.f k bt397.1 bt397.2 l1).bind fun t473 => ((topiaryref02_Same.f k t470 t473).bind fun t476 => (if t396 = true then (some t476) else (some false))))))))) = some r := h
 clear h
 replace H := Option.bind_eq_some_iff.mp H
 obtain ⟨t396, A40, H⟩ := H
 try dsimp only at H
 have A4 := Aside0.mk A40
 clear A40
 replace H := Option.bind_eq_some_iff.mp H
 obtain ⟨⟨t397, t400⟩, A50, H⟩ := H
 try dsimp only at H
 have A5 := Aside0.mk A50
 clear A50
 by_cases c6 : (l1.length : Int) > 6
 ·rw [if_pos c6] at H
  have c6b0 : decide (6 < (l1.length : Int)) = true := decide_eq_true c6
  have c6b1 : decide (6 < l1.length) = true := decide_eq_true (by omega)
  clear c6
  by_cases c7 : 6 ≤ (l1.length : Int)
  ·rw [if_pos c7] at H
   have c7b0 := eq_true c7
   have c7b1 : decide (6 ≤ (l1.length : Int)) = true := decide_eq_true c7
   clear c7
   obtain ⟨y403, hy403⟩ : ∃ y_ : List Int, y_ = (l1.take 6) := ⟨_, rfl⟩
   replace H : (if a2_0 = true then (if (t400.length : Int) > 0 then (if (t400.length : Int) = 0 then (none) else ((topiaryref15_Symbol.f k t397 t400 (Int.tmod (wrap64 ((Int.tmod a2_1 (t400.length : Int)) + (t400.length : Int))) (t400.length : Int))).bind fun t408 => ((some (([t408] : List Int) : List Int)).bind fun y409 => ((topiaryref15_Up.f k t397 t400 (Int.tmod (wrap64 ((Int.tmod a2_1 (t400.length : Int)) + (t400.length : Int))) (t400.length : Int))).bind fun t412 => (if y409.length + t412.length < 17592186044416 then (topiarylaw15_TreePaths.l0 k ([] : List Int) t396 (y409 ++ t412) 0 t397 t400 a2_0 a2_1 l2_2) else (none)))))) else ((tree_Paths.f k t397 t400 y403).bind fun t439 => ((topiaryref15_Paths.f k t397 t400 y403).bind fun t442 => ((topiaryref02_Same.f k t439 t442).bind fun t445 => (if t396 = true then (some t445) else (some false)))))) else ((tree_Paths.f k t397 t400 y403).bind fun t446 => ((topiaryref15_Paths.f k t397 t400 y403).bind fun t449 => ((topiaryref02_Same.f k t446 t449).bind fun t452 => (if t396 = true then (some t452) else (some false)))))) = some r := by first | (rw [hy403]; with_reducible exact H) | (have H2_ := (Option.bind_some _ _).symm.trans H; rw [hy403]; with_reducible exact H2_) | (have H2_ := (Option.bind_some _ _).symm.trans H; with_reducible exact H2_) | with_reducible exact H | (rw [hy403]; exact H) | exact H
   have Ny403 := Aside0.mk hy403
   clear hy403
   by_cases c8 : a2_0 = true
   ·subst c8
    rw [if_pos rfl] at H
    have H1 := H
    clear H
    have H := H1
    clear H1
    by_cases c9 : (t400.length : Int) > 0
    ·rw [if_pos c9] at H
     have c9b0 : decide (0 < (t400.length : Int)) = true := decide_eq_true c9
     have c9b1 : decide (0 < t400.length) = true := decide_eq_true (by omega)
     clear c9
     by_cases c10 : (t400.length : Int) = 0
     ·rw [if_pos c10] at H
      exact absurd H (by simp)
     ·rw [if_neg c10] at H
      have c10b0 : ((t400.length : Int) == 0) = false := beq_eq_false_iff_ne.mpr c10
      have c10b1 : ((t400.length : Int) != 0) = true := bne_iff_ne.mpr c10
      have c10b2 : ¬ (t400 = []) := fun h_ => c10 (by rw [h_]; rfl)
      replace H := Option.bind_eq_some_iff.mp H
      obtain ⟨t408, A110, H⟩ := H
      try dsimp only at H
      have A11 := Aside0.mk A110
      clear A110
      obtain ⟨y409, hy409⟩ : ∃ y_ : List Int, y_ = (([t408] : List Int)) := ⟨_, rfl⟩
      replace H : ((topiaryref15_Up.f k t397 t400 (Int.tmod (wrap64 ((Int.tmod a2_1 (t400.length : Int)) + (t400.length : Int))) (t400.length : Int))).bind fun t412 => (if y409.length + t412.length < 17592186044416 then (topiarylaw15_TreePaths.l0 k ([] : List Int) t396 (y409 ++ t412) 0 t397 t400 true a2_1 l2_2) else (none))) = some r := by first | (rw [hy409]; with_reducible exact H) | (have H2_ := (Option.bind_some _ _).symm.trans H; rw [hy409]; with_reducible exact H2_) | (have H2_ := (Option.bind_some _ _).symm.trans H; with_reducible exact H2_) | with_reducible exact H | (rw [hy409]; exact H) | exact H
      have Ny409 := Aside0.mk hy409
      clear hy409
      replace H := Option.bind_eq_some_iff.mp H
      obtain ⟨t412, A120, H⟩ := H
      try dsimp only at H
      have A12 := Aside0.mk A120
      clear A120
      by_cases c13 : y409.length + t412.length < 17592186044416
      ·rw [if_pos c13] at H
       have LMc13 := Aside0.mk c13
       clear c13
       obtain ⟨y415, hy415⟩ : ∃ y_ : List Int, y_ = (y409 ++ t412) := ⟨_, rfl⟩
       replace H : (topiarylaw15_TreePaths.l0 k ([] : List Int) t396 y415 0 t397 t400 true a2_1 l2_2) = some r := by first | (rw [hy415]; with_reducible exact H) | (have H2_ := (Option.bind_some _ _).symm.trans H; rw [hy415]; with_reducible exact H2_) | (have H2_ := (Option.bind_some _ _).symm.trans H; with_reducible exact H2_) | with_reducible exact H | (rw [hy415]; exact H) | exact H
       have Ny415 := Aside0.mk hy415
       clear hy415
       have H' := Aside0.mk H
       clear H
       go_enter Try.func6, Try.ntmps6
       try go_wp2_with (first | ((with_reducible refine gate_dst (N := 3) rfl ?_); (try (refine gate_guard (by rfl) ?_; dsimp only)); refine box_event ?hg (N := 3) ?hd (cs := #[.slice A0_0 l0_0.length c0_0, .slice A0_1 l0_1.length c0_1]) (t := 25) ?hr ?_; (case hd => rfl); (case hg => rfl); (case hr => first | (go_simp; done) | (go_simp; rfl)); intro gb394 hg w14 hbox hb; have n0_ := Aside0.mk (Kd.V_below (Kd.V_elderB (vv_ HO1.out) gb394 (Nat.le_of_eq hg.symm)) hb); have n1_ := Aside0.mk (below_step (bb_ HB.out) hb); have n2_ := Aside0.mk (hbox); have n3_ := Aside0.mk ((by rw [hg]; exact (below_size (bb_ HB.out)) : w.heap.size ≤ gb394)); have n4_ := Aside0.mk ((by rw [hg]; exact (below_size (bb_ HB.out)) : w.heap.size ≤ gb394)); clear HO1; clear HB; have HO1 := n0_; have HB := n1_; have BK394 := n2_; have GW394 := n3_; have GE394 := n4_; clear n0_ n1_ n2_ n3_ n4_; clear hb hbox hg) | ((with_reducible refine gate_dst (N := 5) rfl ?_); (try (refine gate_guard (by rfl) ?_; dsimp only)); refine box_event ?hg (N := 5) ?hd (cs := #[.bool true, .int .i64 a2_1, .slice A2_2 l2_2.length c2_2]) (t := 45) ?hr ?_; (case hd => rfl); (case hg => rfl); (case hr => first | (go_simp; done) | (go_simp; rfl)); intro gb395 hg w15 hbox hb; have n0_ := Aside0.mk (Kd.V_below (Kd.V_elderB (vv_ HO1.out) gb395 (Nat.le_of_eq hg.symm)) hb); have n1_ := Aside0.mk (blk_below (g := gb394) (o := .cells #[.slice A0_0 l0_0.length c0_0, .slice A0_1 l0_1.length c0_1] 25 (0, 0)) (bk_ BK394.out) hb); have n2_ := Aside0.mk (below_step (bs_ HB.out GE394.out) hb); have n3_ := Aside0.mk (hbox); have n4_ := Aside0.mk ((by rw [hg]; exact (below_size (bs_ HB.out GE394.out)) : w.heap.size ≤ gb395)); have n5_ := Aside0.mk ((by rw [hg]; exact (below_size (bs_ HB.out GE394.out)) : w.heap.size ≤ gb395)); have n6_ := Aside0.mk ((by rw [hg]; exact Nat.ne_of_lt (blk_lt (g := gb394) (o := .cells #[.slice A0_0 l0_0.length c0_0, .slice A0_1 l0_1.length c0_1] 25 (0, 0)) (bk_ BK394.out)) : gb394 ≠ gb395)); have n7_ := Aside0.mk ((by rw [hg]; exact Nat.ne_of_gt (blk_lt (g := gb394) (o := .cells #[.slice A0_0 l0_0.length c0_0, .slice A0_1 l0_1.length c0_1] 25 (0, 0)) (bk_ BK394.out)) : gb395 ≠ gb394)); clear HO1; clear BK394; clear HB; have HO1 := n0_; have BK394 := n1_; have HB := n2_; have BK395 := n3_; have GW395 := n4_; have GE395 := n5_; have NB394_395 := n6_; have NB395_394 := n7_; clear n0_ n1_ n2_ n3_ n4_ n5_ n6_ n7_; clear hb hbox hg) | ((with_reducible refine gate_callee (f := 9) rfl ?_); refine goesL_ (some 13) rfl rfl Try.func9 (by kernel_rfl) rfl #[] rfl ar_ ?_; (with_reducible refine (topiarylaw15_awake.calls k  t396 _ A4.out).mono ?_); rintro e w16 ⟨rfl, hb⟩; refine ⟨_, rfl, ?_⟩; have n0_ := Aside0.mk (Kd.V_below (vv_ HO1.out) hb); have n1_ := Aside0.mk (blk_below (g := gb394) (o := .cells #[.slice A0_0 l0_0.length c0_0, .slice A0_1 l0_1.length c0_1] 25 (0, 0)) (bk_ BK394.out) hb); have n2_ := Aside0.mk (blk_below (g := gb395) (o := .cells #[.bool true, .int .i64 a2_1, .slice A2_2 l2_2.length c2_2] 45 (0, 0)) (bk_ BK395.out) hb); have n3_ := Aside0.mk (below_step (bt_ HB.out GE394.out GE395.out) hb); clear HO1; clear BK394; clear BK395; clear HB; have HO1 := n0_; have BK394 := n1_; have BK395 := n2_; have HB := n3_; clear n0_ n1_ n2_ n3_; (try clear hb); (try clear hb2); (try clear hk); (try clear hi); have hnb17 := NB394_395.out; have hnc17 := NB395_394.out; have hcz18_0 : w16.cell? ⟨gb394, 0, none⟩ = some (.slice A0_0 l0_0.length c0_0) := (blk_cell BK394.out 0).trans rfl; have hcz18_1 : w16.cell? ⟨gb394, 1, none⟩ = some (.slice A0_1 l0_1.length c0_1) := (blk_cell BK394.out 1).trans rfl; have hfz18_0 := blk_frozen BK394.out 0; have hfz18_1 := blk_frozen BK394.out 1) | ((with_reducible refine gate_callee (f := 10) rfl ?_); refine goesL_ (some 15) rfl rfl Try.func10 (by kernel_rfl) rfl #[.agg #[.slice A0_0 l0_0.length c0_0, .slice A0_1 l0_1.length c0_1]] rfl ar_ ?_; (with_reducible refine (topiarylaw15_small.calls k _ _ l0_0 _ _ l0_1 t397 t400 _ ?side1 ?side2 ?side3 ?side4 A5.out).mono ?_); (case side1 => exact cc_ (Kd.C_below HR0_0.out HB.out)); (case side2 => exact HC0_0.out); (case side3 => exact cc_ (Kd.C_below HR0_1.out HB.out)); (case side4 => exact HC0_1.out); rintro e w19 ⟨v398, v401, rfl, ho0, ho1, hb⟩; refine ⟨_, rfl, ?_⟩; have n0_ := Aside0.mk (Kd.V_mono (Kd.V_told (Kd.V_told (Kd.V_old (vv_ HO1.out) hb) (Kd.R_base ho0)) (Kd.R_base ho1)) (fun _ h_ => h_.1)); have n1_ := Aside0.mk (Kd.R_lower (Kd.R_newM (M := fun k_ => (w.heap.size ≤ k_)) ho0 (below_size (bt_ HB.out GE394.out GE395.out)) (fun k_ h_ => h_)) (below_size (bt_ HB.out GE394.out GE395.out))); have n2_ := Aside0.mk (Kd.R_lower (Kd.R_newM (M := fun k_ => (w.heap.size ≤ k_)) ho1 (below_size (bt_ HB.out GE394.out GE395.out)) (fun k_ h_ => h_)) (below_size (bt_ HB.out GE394.out GE395.out))); have n3_ := Aside0.mk (blk_below (g := gb394) (o := .cells #[.slice A0_0 l0_0.length c0_0, .slice A0_1 l0_1.length c0_1] 25 (0, 0)) (bk_ BK394.out) hb); have n4_ := Aside0.mk (blk_below (g := gb395) (o := .cells #[.bool true, .int .i64 a2_1, .slice A2_2 l2_2.length c2_2] 45 (0, 0)) (bk_ BK395.out) hb); have n5_ := Aside0.mk (below_step (bt_ HB.out GE394.out GE395.out) hb); clear HO1; clear BK394; clear BK395; clear HB; have HO1 := n0_; have HO399 := n1_; have HO402 := n2_; have BK394 := n3_; have BK395 := n4_; have HB := n5_; clear n0_ n1_ n2_ n3_ n4_ n5_; (try clear hb); (try clear hb2); (try clear hk); (try clear hi); (try clear ho0); (try clear ho1); obtain ⟨Ao20, co20, eo20⟩ := Kd.R_slice HO399.out; subst eo20; have hcz21_0 : w19.cell? ⟨gb394, 0, none⟩ = some (.slice A0_0 l0_0.length c0_0) := (blk_cell BK394.out 0).trans rfl; have hcz21_1 : w19.cell? ⟨gb394, 1, none⟩ = some (.slice A0_1 l0_1.length c0_1) := (blk_cell BK394.out 1).trans rfl; have hfz21_0 := blk_frozen BK394.out 0; have hfz21_1 := blk_frozen BK394.out 1; obtain ⟨Ao22, co22, eo22⟩ := Kd.R_slice HO402.out; subst eo22) | ((with_reducible refine gate_store (t := 25) (p := 3) rfl ?_); refine store_event (t := 25) (p := 3) (v := ?vo_w23) (w1 := ((w19.setCell ⟨gb394, 0, none⟩ (.slice Ao20 t397.length co20)).setCell ⟨gb394, 1, none⟩ (.slice Ao22 t400.length co22))) ?hg ?ho ?hn ?hr ?_; (case ho => rfl); (case hg => rfl); (case hn => rfl); (case hr => first | (go_simp; done) | (go_simp; rfl)); intro w23 hw; have n0_ : Aside0 (Kd.V (Kd.int .i64) 3 w23 w.heap.size (fun k_ => (P1_ k_ ∨ w.heap.size ≤ k_) ∧ some k_ ≠ (.slice Ao20 t397.length co20 : Value).ownBlock ∧ some k_ ≠ (.slice Ao22 t400.length co22 : Value).ownBlock ∧ k_ ≠ gb394 ∧ k_ ≠ gb395) (.slice A1 l1.length c1) l1) := ⟨(by rw [hw]; exact (by (with_reducible repeat (first | apply Kd.V_alloc | apply Kd.V_drewN | apply Kd.V_drew)); exact Kd.V_mono (Kd.V_far (p := ⟨gb394, 1, none⟩) (Kd.V_far (p := ⟨gb394, 0, none⟩) (Kd.V_mono HO1.out (fun k_ hk => (⟨hk, hk.1.1.1.2⟩ : _ ∧ k_ ≠ gb394))) (fun _ hk => hk.2) (.slice Ao20 t397.length co20)) (fun _ hk => hk.2) (.slice Ao22 t400.length co22)) (fun _ hk => ⟨hk.1.1.1.1.1, ⟨hk.1.1.2, ⟨hk.1.2, ⟨hk.1.1.1.1.2, hk.1.1.1.2⟩⟩⟩⟩)))⟩; have n1_ : Aside0 (Kd.R Kd.string 9 w23 w.heap.size (fun k_ => (w.heap.size ≤ k_)) (.slice Ao20 t397.length co20) t397) := ⟨(by rw [hw]; exact (by (with_reducible repeat (first | apply Kd.R_alloc | apply Kd.R_drewN | apply Kd.R_drew)); exact Kd.R_mono (Kd.R_far (p := ⟨gb394, 1, none⟩) (Kd.R_far (p := ⟨gb394, 0, none⟩) (Kd.R_types HO399.out BK394.out (by decide)) (fun _ hk => hk.2) (.slice Ao20 t397.length co20)) (fun _ hk => hk.2) (.slice Ao22 t400.length co22)) (fun _ hk => hk.1.1)))⟩; have n2_ : Aside0 (Kd.R k52 52 w23 w.heap.size (fun k_ => (w.heap.size ≤ k_)) (.slice Ao22 t400.length co22) t400) := ⟨(by rw [hw]; exact (by (with_reducible repeat (first | apply Kd.R_alloc | apply Kd.R_drewN | apply Kd.R_drew)); exact Kd.R_mono (Kd.R_far (p := ⟨gb394, 1, none⟩) (Kd.R_far (p := ⟨gb394, 0, none⟩) (Kd.R_types HO402.out BK394.out (by decide)) (fun _ hk => hk.2) (.slice Ao20 t397.length co20)) (fun _ hk => hk.2) (.slice Ao22 t400.length co22)) (fun _ hk => hk.1.1)))⟩; have n3_ : Aside0 (w23.heap[gb394]? = some (.cells #[.slice Ao20 t397.length co20, .slice Ao22 t400.length co22] 25 (0, 0))) := ⟨(by rw [hw]; exact (by (with_reducible repeat (first | refine blk_drewN ?_ _ | refine blk_drew ?_ | refine blk_alloc ?_ _)); refine blk_put (cs := #[.slice Ao20 t397.length co20, .slice A0_1 l0_1.length c0_1]) ?_ 1 _ rfl; (with_reducible repeat (first | refine blk_drewN ?_ _ | refine blk_drew ?_ | refine blk_alloc ?_ _)); refine blk_put (cs := #[.slice A0_0 l0_0.length c0_0, .slice A0_1 l0_1.length c0_1]) ?_ 0 _ rfl; exact bk_ BK394.out))⟩; have n4_ : Aside0 (w23.heap[gb395]? = some (.cells #[.bool true, .int .i64 a2_1, .slice A2_2 l2_2.length c2_2] 45 (0, 0))) := ⟨(by rw [hw]; exact (by (with_reducible repeat (first | refine blk_drewN ?_ _ | refine blk_drew ?_ | refine blk_alloc ?_ _)); refine blk_far ?_ NB395_394.out _; (with_reducible repeat (first | refine blk_drewN ?_ _ | refine blk_drew ?_ | refine blk_alloc ?_ _)); refine blk_far ?_ NB395_394.out _; exact bk_ BK395.out))⟩; have n5_ : Aside0 (Below w.heap.size w w23) := ⟨(by rw [hw]; exact (bt_ HB.out GE394.out GE395.out))⟩; clear hw; clear HO1; clear HO399; clear HO402; clear BK394; clear BK395; clear HB; have HO1 := n0_; have HO399 := n1_; have HO402 := n2_; have BK394 := n3_; have BK395 := n4_; have HB := n5_; clear n0_ n1_ n2_ n3_ n4_ n5_; have q24 : (6 : Int) ≤ ((l1.length : Int) : Int) := of_decide_eq_true as_; obtain ⟨i024, hi024, _, hsz24, _⟩ := info_parts info3; have hroom24 : l1.length ≤ c1 := (Kd.V_reads' HO1.out).2.1; have hC24 : Kd.F (Kd.int .i64) _ _ A1 l1.length l1 := (Kd.V_at (base := w.heap.size) HO1.out).2.2; have hcut24 := cut_to (P := Try.prog) 29 3 .i64 Try.underlying29 hi024 A1 l1.length c1 6 (by omega) q24 hroom24; have hr24 := Kd.F_take (m := 6) hC24 (by omega); have hy24 : y403.length = (6 : Int).toNat := (by rw [Ny403.out, List.length_take]; omega); rw [← Ny403.out] at hr24; rw [← hy24] at hcut24; have HO407 := Aside0.mk (show Kd.V (Kd.int .i64) 3 _ w.heap.size _ (.slice A1 y403.length c1) y403 from Kd.V_mk (by omega) hr24); have HC407 := Aside0.mk (show y403.length ≤ c1 from by omega); clear hr24 hC24 hroom24 hi024 hsz24; have KY24 := Aside0.mk hy24; clear hy24; replace q24 := eq_true q24; have hcz25_0 : w23.cell? ⟨gb395, 0, none⟩ = some (.bool true) := (blk_cell BK395.out 0).trans rfl; have hcz25_1 : w23.cell? ⟨gb395, 1, none⟩ = some (.int .i64 a2_1) := (blk_cell BK395.out 1).trans rfl; have hcz25_2 : w23.cell? ⟨gb395, 2, none⟩ = some (.slice A2_2 l2_2.length c2_2) := (blk_cell BK395.out 2).trans rfl; have hfz25_0 := blk_frozen BK395.out 0; have hfz25_1 := blk_frozen BK395.out 1; have hfz25_2 := blk_frozen BK395.out 2; have hcz26_0 : w23.cell? ⟨gb394, 0, none⟩ = some (.slice Ao20 t397.length co20) := (blk_cell BK394.out 0).trans rfl; have hcz26_1 : w23.cell? ⟨gb394, 1, none⟩ = some (.slice Ao22 t400.length co22) := (blk_cell BK394.out 1).trans rfl; have hfz26_0 := blk_frozen BK394.out 0; have hfz26_1 := blk_frozen BK394.out 1))
       have n0_ := Aside0.mk (Kd.V_drew HO1.out)
       have n1_ := Aside0.mk (Kd.R_drew HO399.out)
       have n2_ := Aside0.mk (Kd.R_drew HO402.out)
       have n3_ := Aside0.mk (Kd.V_drew HO407.out)
       have n4_ := Aside0.mk (blk_drew BK394.out)
       have n5_ := Aside0.mk (blk_drew BK395.out)
       have n6_ := Aside0.mk (below_drew1 HB.out)
       clear HO1
       clear HO399
       clear HO402
       clear HO407
       clear BK394
       clear BK395
       clear HB
       have HO1 := n0_
       have HO399 := n1_
       have HO402 := n2_
       have HO407 := n3_
       have BK394 := n4_
       have BK395 := n5_
       have HB := n6_
       clear n0_ n1_ n2_ n3_ n4_ n5_ n6_
       refine start_ (n := 15) (S := fun w' => w'.cell? ⟨gb395, 0, none⟩ = some (.bool true) ∧ w'.cell? ⟨gb395, 1, none⟩ = some (.int .i64 a2_1) ∧ w'.cell? ⟨gb395, 2, none⟩ = some (.slice A2_2 l2_2.length c2_2) ∧ w'.cell? ⟨gb394, 0, none⟩ = some (.slice Ao20 t397.length co20) ∧ w'.cell? ⟨gb394, 1, none⟩ = some (.slice Ao22 t400.length co22)) (ds := []) #[false, false, false, false, false, false, false, false, false, false, false, false, false, false, false] (by kernel_rfl) rfl rfl ⟨(blk_cell BK395.out 0).trans rfl, (blk_cell BK395.out 1).trans rfl, (blk_cell BK395.out 2).trans rfl, (blk_cell BK394.out 0).trans rfl, (blk_cell BK394.out 1).trans rfl⟩ (fun hHeld => ?_); refine with_tabW topiarylaw15_TreePaths.tab6 topiarylaw15_TreePaths.bits6 (fun HT_ HW_ => ?_)
       generalize w23.drew = w27 at HO1 HO399 HO402 HO407 BK394 BK395 HB hHeld ⊢
       refine pure_ (i := 0) (N := some 29) (v := ?_) (a' := ?_) #[true, false, false, false, false, false, false, false, false, false, false, false, false, false, false] rfl rfl (any_of HT_.out (by kernel_rfl)) (fun _ _ _ h => h) (Or.inl ⟨by rfl, ?_⟩) ?_ ?_
       rotate_left
       ·intro w'
        go_simp
        with_reducible rfl
       rotate_left
       ·simp only [Act.put, List.setIfInBounds_toArray, List.set_cons_zero, List.set_cons_succ, i64_w, i32_w]
        rfl
       refine pure_ (i := 2) (N := some 31) (v := ?_) (a' := ?_) #[true, false, true, false, false, false, false, false, false, false, false, false, false, false, false] rfl rfl (any_of HT_.out (by kernel_rfl)) (fun _ _ _ h => h) (Or.inl ⟨by rfl, ?_⟩) ?_ ?_
       rotate_left
       ·intro w'
        go_simp
        with_reducible rfl
       rotate_left
       ·simp only [Act.put, List.setIfInBounds_toArray, List.set_cons_zero, List.set_cons_succ, i64_w, i32_w]
        rfl
       refine pure_ (i := 6) (N := some 35) (v := ?_) (a' := ?_) #[true, false, true, false, false, false, true, false, false, false, false, false, false, false, false] rfl rfl (any_of HT_.out (by kernel_rfl)) (fun _ _ _ h => h) (Or.inl ⟨by rfl, ?_⟩) ?_ ?_
       rotate_left
       ·intro w'
        go_simp
        with_reducible rfl
       rotate_left
       ·simp only [Act.put, List.setIfInBounds_toArray, List.set_cons_zero, List.set_cons_succ, i64_w, i32_w]
        rfl
       refine pure_ (i := 10) (N := some 39) (v := ?_) (a' := ?_) #[true, false, true, false, false, false, true, false, false, false, true, false, false, false, false] rfl rfl (any_of HT_.out (by kernel_rfl)) (fun _ _ _ h => h) (Or.inl ⟨by rfl, ?_⟩) ?_ ?_
       rotate_left
       ·intro w'
        go_simp
        with_reducible rfl
       rotate_left
       ·simp only [Act.put, List.setIfInBounds_toArray, List.set_cons_zero, List.set_cons_succ, i64_w, i32_w]
        rfl
       refine take_ (i := 1) (N := some 30) (v := ?_) (a' := ?_) #[true, true, true, false, false, false, true, false, false, false, true, false, false, false, false] rfl rfl (take_ofW HT_.out HW_.out (by kernel_rfl)) (fun _ _ _ h => h) (Or.inl ⟨by rfl, ?_⟩) hHeld ?_ ?_
       rotate_left
       ·rintro w' ⟨s0, s1, s2, s3, s4⟩
        go_simp
        with_reducible rfl
       rotate_left
       ·simp only [Act.put, List.setIfInBounds_toArray, List.set_cons_zero, List.set_cons_succ, i64_w, i32_w]
        rfl
       refine take_ (i := 3) (N := some 32) (v := ?_) (a' := ?_) #[true, true, true, true, false, false, true, false, false, false, true, false, false, false, false] rfl rfl (take_ofW HT_.out HW_.out (by kernel_rfl)) (fun _ _ _ h => h) (Or.inl ⟨by rfl, ?_⟩) hHeld ?_ ?_
       rotate_left
       ·rintro w' ⟨s0, s1, s2, s3, s4⟩
        go_simp
        with_reducible rfl
       rotate_left
       ·simp only [Act.put, List.setIfInBounds_toArray, List.set_cons_zero, List.set_cons_succ, i64_w, i32_w]
        rfl
       refine pure_ (i := 4) (N := some 33) (v := ?_) (a' := ?_) #[true, true, true, true, true, false, true, false, false, false, true, false, false, false, false] rfl rfl (any_of HT_.out (by kernel_rfl)) (fun _ _ _ h => h) (Or.inl ⟨by rfl, ?_⟩) ?_ ?_
       rotate_left
       ·intro w'
        go_simp
        with_reducible rfl
       rotate_left
       ·simp only [Act.put, List.setIfInBounds_toArray, List.set_cons_zero, List.set_cons_succ, i64_w, i32_w]
        rfl
       refine pure_ (i := 5) (N := some 34) (v := ?_) (a' := ?_) #[true, true, true, true, true, true, true, false, false, false, true, false, false, false, false] rfl rfl (any_of HT_.out (by kernel_rfl)) (fun _ _ _ h => h) (Or.inl ⟨by rfl, ?_⟩) ?_ ?_
       rotate_left
       ·intro w'
        go_simp
        with_reducible rfl
       rotate_left
       ·simp only [Act.put, List.setIfInBounds_toArray, List.set_cons_zero, List.set_cons_succ, i64_w, i32_w]
        rfl
       refine take_ (i := 7) (N := some 36) (v := ?_) (a' := ?_) #[true, true, true, true, true, true, true, true, false, false, true, false, false, false, false] rfl rfl (take_ofW HT_.out HW_.out (by kernel_rfl)) (fun _ _ _ h => h) (Or.inl ⟨by rfl, ?_⟩) hHeld ?_ ?_
       rotate_left
       ·rintro w' ⟨s0, s1, s2, s3, s4⟩
        go_simp
        with_reducible rfl
       rotate_left
       ·simp only [Act.put, List.setIfInBounds_toArray, List.set_cons_zero, List.set_cons_succ, i64_w, i32_w]
        rfl
       refine pure_ (i := 8) (N := some 37) (v := ?_) (a' := ?_) #[true, true, true, true, true, true, true, true, true, false, true, false, false, false, false] rfl rfl (any_of HT_.out (by kernel_rfl)) (fun _ _ _ h => h) (Or.inl ⟨by rfl, ?_⟩) ?_ ?_
       rotate_left
       ·intro w'
        go_simp
        with_reducible rfl
       rotate_left
       ·simp only [Act.put, List.setIfInBounds_toArray, List.set_cons_zero, List.set_cons_succ, i64_w, i32_w]
        rfl
       refine pure_ (i := 9) (N := some 38) (v := ?_) (a' := ?_) #[true, true, true, true, true, true, true, true, true, true, true, false, false, false, false] rfl rfl (any_of HT_.out (by kernel_rfl)) (fun _ _ _ h => h) (Or.inl ⟨by rfl, ?_⟩) ?_ ?_
       rotate_left
       ·intro w'
        go_simp
        with_reducible rfl
       rotate_left
       ·simp only [Act.put, List.setIfInBounds_toArray, List.set_cons_zero, List.set_cons_succ, i64_w, i32_w]
        rfl
       refine take_ (i := 11) (N := some 40) (v := ?_) (a' := ?_) #[true, true, true, true, true, true, true, true, true, true, true, true, false, false, false] rfl rfl (take_ofW HT_.out HW_.out (by kernel_rfl)) (fun _ _ _ h => h) (Or.inl ⟨by rfl, ?_⟩) hHeld ?_ ?_
       rotate_left
       ·rintro w' ⟨s0, s1, s2, s3, s4⟩
        go_simp
        with_reducible rfl
       rotate_left
       ·simp only [Act.put, List.setIfInBounds_toArray, List.set_cons_zero, List.set_cons_succ, i64_w, i32_w]
        rfl
       refine pure_ (i := 12) (N := some 41) (v := ?_) (a' := ?_) #[true, true, true, true, true, true, true, true, true, true, true, true, true, false, false] rfl rfl (any_of HT_.out (by kernel_rfl)) (fun _ _ _ h => h) (Or.inl ⟨by rfl, ?_⟩) ?_ ?_
       rotate_left
       ·intro w'
        go_simp
        with_reducible rfl
       rotate_left
       ·simp only [Act.put, List.setIfInBounds_toArray, List.set_cons_zero, List.set_cons_succ, i64_w, i32_w]
        rfl
       refine pure_ (i := 13) (N := some 42) (v := ?_) (a' := ?_) #[true, true, true, true, true, true, true, true, true, true, true, true, true, true, false] rfl rfl (any_of HT_.out (by kernel_rfl)) (fun _ _ _ h => h) (Or.inl ⟨by rfl, ?_⟩) ?_ ?_
       rotate_left
       ·intro w'
        go_simp
        with_reducible rfl
       rotate_left
       ·simp only [Act.put, List.setIfInBounds_toArray, List.set_cons_zero, List.set_cons_succ, i64_w, i32_w]
        rfl
       refine pure_ (i := 14) (N := some 8) (v := ?_) (a' := ?_) #[true, true, true, true, true, true, true, true, true, true, true, true, true, true, true] rfl rfl (any_of HT_.out (by kernel_rfl)) (fun _ _ _ h => h) (Or.inl ⟨by rfl, ?_⟩) ?_ ?_
       rotate_left
       ·intro w'
        go_simp
        with_reducible rfl
       rotate_left
       ·simp only [Act.put, List.setIfInBounds_toArray, List.set_cons_zero, List.set_cons_succ, i64_w, i32_w]
        rfl
       refine done_ (done_of HT_.out (by kernel_rfl)) ?_
       have hcz28_0 : w27.cell? ⟨gb394, 0, none⟩ = some (.slice Ao20 t397.length co20) := (blk_cell BK394.out 0).trans rfl
       have hcz28_1 : w27.cell? ⟨gb394, 1, none⟩ = some (.slice Ao22 t400.length co22) := (blk_cell BK394.out 1).trans rfl
       have hfz28_0 := blk_frozen BK394.out 0
       have hfz28_1 := blk_frozen BK394.out 1
       try go_wp2_with (first | ((with_reducible refine gate_callee (f := 12) rfl ?_); refine goesL_ (some 45) rfl rfl Try.func12 (by kernel_rfl) rfl #[.agg #[.slice Ao20 t397.length co20, .slice Ao22 t400.length co22], .int .i64 (Int.tmod (wrap64 ((Int.tmod a2_1 (t400.length : Int)) + (t400.length : Int))) (t400.length : Int))] rfl ar_ ?_; (with_reducible refine (topiaryref15_Symbol.calls k _ _ t397 _ _ t400 (Int.tmod (wrap64 ((Int.tmod a2_1 (t400.length : Int)) + (t400.length : Int))) (t400.length : Int)) t408 _ ?side1 ?side2 ?side3 ?side4 A11.out).mono ?_); (case side1 => exact cc_ (Kd.R_reads' HO399.out).2.2); (case side2 => exact (Kd.R_reads' HO399.out).2.1); (case side3 => exact cc_ (Kd.R_reads' HO402.out).2.2); (case side4 => exact (Kd.R_reads' HO402.out).2.1); rintro e w29 ⟨rfl, hb⟩; refine ⟨_, rfl, ?_⟩; have n0_ := Aside0.mk (Kd.V_below (vv_ HO1.out) hb); have n1_ := Aside0.mk (Kd.R_below (rr_ HO399.out) hb); have n2_ := Aside0.mk (Kd.R_below (rr_ HO402.out) hb); have n3_ := Aside0.mk (Kd.V_below (vv_ HO407.out) hb); have n4_ := Aside0.mk (blk_below (g := gb394) (o := .cells #[.slice Ao20 t397.length co20, .slice Ao22 t400.length co22] 25 (0, 0)) (bk_ BK394.out) hb); have n5_ := Aside0.mk (blk_below (g := gb395) (o := .cells #[.bool true, .int .i64 a2_1, .slice A2_2 l2_2.length c2_2] 45 (0, 0)) (bk_ BK395.out) hb); have n6_ := Aside0.mk (below_step (bt_ HB.out GE394.out GE395.out) hb); clear HO1; clear HO399; clear HO402; clear HO407; clear BK394; clear BK395; clear HB; have HO1 := n0_; have HO399 := n1_; have HO402 := n2_; have HO407 := n3_; have BK394 := n4_; have BK395 := n5_; have HB := n6_; clear n0_ n1_ n2_ n3_ n4_ n5_ n6_; (try clear hb); (try clear hb2); (try clear hk); (try clear hi)) | ((with_reducible refine gate_dst (N := 46) rfl ?_); (try (refine gate_guard (by rfl) ?_; dsimp only)); refine Kd.R_lit (Kd.int .i64) _ 3 ?hg (N := 46) ?hd (xs := ([t408] : List Int)) (inner := [.int .i64 t408]) (ok := fun _ => True) (okp := fun _ => True) ?hr ?hp (fun _ hk => hk) trivial (Below.refl _ _) (Nat.le_refl _) (by simp) ?_; (case hd => rfl); (case hg => rfl); (case hr => first | (go_simp; done) | (go_simp; rfl)); (case hp => exact (Reps.one (show Kd.M (Kd.int .i64) _ _ _ t408 [.int .i64 t408] from rfl) (Reps.none _ _))); intro v410 w30 ho31 hb hg_ hnew_; clear hg_ hnew_; (first | rw [← Ny409.out] at ho31 | (simp only [Int.reduceToNat] at ho31; rw [← Ny409.out] at ho31)); have n0_ := Aside0.mk (Kd.V_elder' (vv_ HO1.out) (Kd.R_base ho31) hb); have n1_ := Aside0.mk (Kd.R_below (rr_ HO399.out) hb); have n2_ := Aside0.mk (Kd.R_below (rr_ HO402.out) hb); have n3_ := Aside0.mk (Kd.V_elder' (vv_ HO407.out) (Kd.R_base ho31) hb); have n4_ := Aside0.mk (Kd.R_lower (Kd.R_newM (M := fun k_ => (w.heap.size ≤ k_)) ho31 (below_size (bt_ HB.out GE394.out GE395.out)) (fun k_ h_ => h_)) (below_size (bt_ HB.out GE394.out GE395.out))); have n5_ := Aside0.mk (blk_below (g := gb394) (o := .cells #[.slice Ao20 t397.length co20, .slice Ao22 t400.length co22] 25 (0, 0)) (bk_ BK394.out) hb); have n6_ := Aside0.mk (blk_below (g := gb395) (o := .cells #[.bool true, .int .i64 a2_1, .slice A2_2 l2_2.length c2_2] 45 (0, 0)) (bk_ BK395.out) hb); have n7_ := Aside0.mk (below_step (bt_ HB.out GE394.out GE395.out) hb); clear HO1; clear HO399; clear HO402; clear HO407; clear BK394; clear BK395; clear HB; have HO1 := n0_; have HO399 := n1_; have HO402 := n2_; have HO407 := n3_; have HO411 := n4_; have BK394 := n5_; have BK395 := n6_; have HB := n7_; clear n0_ n1_ n2_ n3_ n4_ n5_ n6_ n7_; clear hb ho31; have hcz32_0 : w30.cell? ⟨gb394, 0, none⟩ = some (.slice Ao20 t397.length co20) := (blk_cell BK394.out 0).trans rfl; have hcz32_1 : w30.cell? ⟨gb394, 1, none⟩ = some (.slice Ao22 t400.length co22) := (blk_cell BK394.out 1).trans rfl; have hfz32_0 := blk_frozen BK394.out 0; have hfz32_1 := blk_frozen BK394.out 1) | ((with_reducible refine gate_callee (f := 23) rfl ?_); refine goesL_ (some 50) rfl rfl Try.func23 (by kernel_rfl) rfl #[.agg #[.slice Ao20 t397.length co20, .slice Ao22 t400.length co22], .int .i64 (Int.tmod (wrap64 ((Int.tmod a2_1 (t400.length : Int)) + (t400.length : Int))) (t400.length : Int))] rfl ar_ ?_; (with_reducible refine (topiaryref15_Up.calls k _ _ t397 _ _ t400 (Int.tmod (wrap64 ((Int.tmod a2_1 (t400.length : Int)) + (t400.length : Int))) (t400.length : Int)) t412 _ ?side1 ?side2 ?side3 ?side4 A12.out).mono ?_); (case side1 => exact cc_ (Kd.R_reads' HO399.out).2.2); (case side2 => exact (Kd.R_reads' HO399.out).2.1); (case side3 => exact cc_ (Kd.R_reads' HO402.out).2.2); (case side4 => exact (Kd.R_reads' HO402.out).2.1); rintro e w33 ⟨v413, rfl, ho0, hb⟩; refine ⟨_, rfl, ?_⟩; have n0_ := Aside0.mk (Kd.V_elder' (vv_ HO1.out) (Kd.R_base ho0) hb); have n1_ := Aside0.mk (Kd.R_below (rr_ HO399.out) hb); have n2_ := Aside0.mk (Kd.R_below (rr_ HO402.out) hb); have n3_ := Aside0.mk (Kd.V_elder' (vv_ HO407.out) (Kd.R_base ho0) hb); have n4_ := Aside0.mk (Kd.R_elder' (rr_ HO411.out) (Kd.R_base ho0) hb); have n5_ := Aside0.mk (Kd.R_lower (Kd.R_new' (Kd.R_newM (M := fun k_ => (w.heap.size ≤ k_)) ho0 (below_size (bt_ HB.out GE394.out GE395.out)) (fun k_ h_ => h_)) (Kd.R_lt (rr_ HO411.out))) (below_size (bt_ HB.out GE394.out GE395.out))); have n6_ := Aside0.mk (blk_below (g := gb394) (o := .cells #[.slice Ao20 t397.length co20, .slice Ao22 t400.length co22] 25 (0, 0)) (bk_ BK394.out) hb); have n7_ := Aside0.mk (blk_below (g := gb395) (o := .cells #[.bool true, .int .i64 a2_1, .slice A2_2 l2_2.length c2_2] 45 (0, 0)) (bk_ BK395.out) hb); have n8_ := Aside0.mk (below_step (bt_ HB.out GE394.out GE395.out) hb); clear HO1; clear HO399; clear HO402; clear HO407; clear HO411; clear BK394; clear BK395; clear HB; have HO1 := n0_; have HO399 := n1_; have HO402 := n2_; have HO407 := n3_; have HO411 := n4_; have HO414 := n5_; have BK394 := n6_; have BK395 := n7_; have HB := n8_; clear n0_ n1_ n2_ n3_ n4_ n5_ n6_ n7_ n8_; (try clear hb); (try clear hb2); (try clear hk); (try clear hi); (try clear ho0); obtain ⟨Ao35, co35, eo35⟩ := Kd.R_slice HO414.out; subst eo35) | ((with_reducible refine gate_builtin (b := .append) (xs := #[.tmp 47, .tmp 50]) rfl ?_); (try (refine gate_guard (by rfl) ?_; dsimp only)); at_builtin; refine Kd.R_append_rows (Kd.int .i64) (w0 := w) w.heap.size rfl (.tmp 47) (.tmp 50) 29 3 (.int .i64 0) 8 rfl Try.underlying29 info3 rfl (by decide) (by omega) v410 y409 t412 _ _ _ (fun k_ => (w.heap.size ≤ k_) ∧ some k_ ≠ (.slice Ao35 t412.length co35 : Value).ownBlock) (fun _ => False) rfl rfl ?aO ?aR (fun _ _ h => h) (fun _ h => h.elim) ?aF ?aB ?aS ?aL ?_; (case aR => exact cc_ (Kd.R_reads' HO414.out).2.2); (case aB => exact (bt_ HB.out GE394.out GE395.out)); (case aF => exact (fun k_ hk => ⟨(Nat.le_trans (below_size (bt_ HB.out GE394.out GE395.out)) hk), Kd.fresh' (Kd.R_lt (rr_ HO414.out)) k_ hk⟩)); (case aO => exact (by (with_reducible repeat (first | apply Kd.R_alloc | apply Kd.R_drewN | apply Kd.R_drew)); exact Kd.R_mono HO411.out (fun _ hk => ⟨hk.1.1, hk.2⟩))); (case aS => exact (below_size (bt_ HB.out GE394.out GE395.out))); (case aL => have := LMc13.out; omega); intro v416 w34 ho hb hg hat; rw [← Ny415.out] at ho; have n0_ := Aside0.mk (Kd.V_afterv (ok := (fun k_ => (P1_ k_ ∨ w.heap.size ≤ k_) ∧ some k_ ≠ (.slice Ao20 t397.length co20 : Value).ownBlock ∧ some k_ ≠ (.slice Ao22 t400.length co22 : Value).ownBlock ∧ some k_ ≠ (.slice Ao35 t412.length co35 : Value).ownBlock ∧ k_ ≠ gb394 ∧ k_ ≠ gb395)) (by (with_reducible repeat (first | apply Kd.V_alloc | apply Kd.V_drewN | apply Kd.V_drew)); exact Kd.V_mono HO1.out (fun _ hk => ⟨⟨hk.1.1.1, ⟨hk.1.1.2.1, ⟨hk.1.1.2.2.1, ⟨hk.2, ⟨hk.1.1.2.2.2.1, hk.1.1.2.2.2.2⟩⟩⟩⟩⟩, hk.1.2⟩)) hg hat); have n1_ := Aside0.mk (blk_grown (g := gb394) (o := .cells #[.slice Ao20 t397.length co20, .slice Ao22 t400.length co22] 25 (0, 0)) (bk_ BK394.out) hg (Kd.R_ne HO411.out BK394.out (by decide))); have n2_ := Aside0.mk (blk_grown (g := gb395) (o := .cells #[.bool true, .int .i64 a2_1, .slice A2_2 l2_2.length c2_2] 45 (0, 0)) (bk_ BK395.out) hg (Kd.R_ne HO411.out BK395.out (by decide))); have n3_ := Aside0.mk (Kd.R_over' (rr_ HO399.out) (Kd.R_typed (rr_ HO411.out)) (by decide) hg); have n4_ := Aside0.mk (Kd.R_over' (rr_ HO402.out) (Kd.R_typed (rr_ HO411.out)) (by decide) hg); have n5_ := Aside0.mk (Kd.V_afterv (ok := (fun k_ => (P1_ k_ ∨ w.heap.size ≤ k_) ∧ some k_ ≠ (.slice Ao20 t397.length co20 : Value).ownBlock ∧ some k_ ≠ (.slice Ao22 t400.length co22 : Value).ownBlock ∧ some k_ ≠ (.slice Ao35 t412.length co35 : Value).ownBlock ∧ k_ ≠ gb394 ∧ k_ ≠ gb395)) (by (with_reducible repeat (first | apply Kd.V_alloc | apply Kd.V_drewN | apply Kd.V_drew)); exact Kd.V_mono HO407.out (fun _ hk => ⟨⟨hk.1.1.1, ⟨hk.1.1.2.1, ⟨hk.1.1.2.2.1, ⟨hk.2, ⟨hk.1.1.2.2.2.1, hk.1.1.2.2.2.2⟩⟩⟩⟩⟩, hk.1.2⟩)) hg hat); have n6_ := Aside0.mk (Kd.R_after (ok := (fun k_ => (w.heap.size ≤ k_))) (by (with_reducible repeat (first | apply Kd.R_alloc | apply Kd.R_drewN | apply Kd.R_drew)); exact Kd.R_mono HO414.out (fun _ hk => ⟨hk.1.1, hk.2⟩)) hg hat); have n7_ := Aside0.mk (hb); have n8_ := Aside0.mk (ho); clear HO1; clear BK394; clear BK395; clear HO399; clear HO402; clear HO407; clear HO414; clear HB; clear HO411; have HO1 := n0_; have BK394 := n1_; have BK395 := n2_; have HO399 := n3_; have HO402 := n4_; have HO407 := n5_; have HO414 := n6_; have HB := n7_; have HO417 := n8_; clear n0_ n1_ n2_ n3_ n4_ n5_ n6_ n7_ n8_; clear ho hb hg hat))
       go_loopg [1, 10] k (fun kq v1 v10 w' => ∃ (x1_1 : List Int) (x10_1 : Int), v10 = .int .i64 x10_1 ∧ Aside0 (topiarylaw15_TreePaths.l0 kq x1_1 t396 y415 x10_1 t397 t400 true a2_1 l2_2 = some r) ∧ Aside0 (kq ≤ k) ∧ Aside0 (Kd.R (Kd.int .i64) 3 w' w.heap.size (fun k_ => (w.heap.size ≤ k_) ∧ some k_ ≠ (v416 : Value).ownBlock) v1 x1_1) ∧ Aside0 (Kd.R (Kd.int .i64) 3 w' w.heap.size (fun k_ => (w.heap.size ≤ k_) ∧ some k_ ≠ (v1 : Value).ownBlock) v416 y415) ∧ Aside0 (Kd.R Kd.string 9 w' w.heap.size (fun k_ => (w.heap.size ≤ k_)) (.slice Ao20 t397.length co20) t397) ∧ Aside0 (Kd.R k52 52 w' w.heap.size (fun k_ => (w.heap.size ≤ k_)) (.slice Ao22 t400.length co22) t400) ∧ Aside0 (w'.heap[gb394]? = some (.cells #[(.slice Ao20 t397.length co20), (.slice Ao22 t400.length co22)] 25 (0, 0))) ∧ Aside0 (w'.heap[gb395]? = some (.cells #[.bool true, .int .i64 a2_1, (.slice A2_2 l2_2.length c2_2)] 45 (0, 0))) ∧ Aside0 (Below w.heap.size w w'))
       case atStart => exact ⟨(([] : List Int)), (0), sm_, H', ⟨Nat.le_refl _⟩, ⟨by first | exact Kd.R_nil _ _ _ _ _ | exact Kd.N_nil _ _ _ _ _ | exact Kd.V_nil _ _ _ _ _ | exact Kd.Q_nil _ _ _ _ _ | exact Kd.S_nil _ _ _ _ _⟩, ⟨by (with_reducible repeat (first | apply Kd.R_alloc | apply Kd.R_drewN | apply Kd.R_drew)); exact Kd.R_mono HO417.out (fun _ hk => ⟨hk.1, (by simp [Value.ownBlock])⟩)⟩, ⟨rr_ HO399.out⟩, ⟨rr_ HO402.out⟩, ⟨bk_ BK394.out⟩, ⟨bk_ BK395.out⟩, ⟨bt_ HB.out GE394.out GE395.out⟩⟩
       case round =>
        clear H'
        try clear c1
        try clear c2
        try clear p2
        try clear q2
        try clear c6
        try clear c6b0
        try clear c6b1
        try clear p6
        try clear c7
        try clear c7b0
        try clear c7b1
        try clear c8
        try clear c9
        try clear c9b0
        try clear c9b1
        try clear c10
        try clear c10b0
        try clear c10b1
        try clear c10b2
        try clear c12
        try clear c13
        try clear c17
        try clear c23
        try clear q24
        try clear hcz18_0
        try clear hcz18_1
        try clear hcz21_0
        try clear hcz21_1
        try clear hcz25_0
        try clear hcz25_1
        try clear hcz25_2
        try clear hcz26_0
        try clear hcz26_1
        try clear hcz28_0
        try clear hcz28_1
        try clear hcz32_0
        try clear hcz32_1
        try clear hfz18_0
        try clear hfz18_1
        try clear hfz21_0
        try clear hfz21_1
        try clear hfz25_0
        try clear hfz25_1
        try clear hfz25_2
        try clear hfz26_0
        try clear hfz26_1
        try clear hfz28_0
        try clear hfz28_1
        try clear hfz32_0
        try clear hfz32_1
        try clear q24
        obtain ⟨x1_1, x10_1, rfl, HA, HK1, HO_1, HO_9, HO_395000, HO_395001, BK394, BK395, HB⟩ := hrel
        cases gk with
        | zero => exact absurd HA.out (by simp [topiarylaw15_TreePaths.l0])
        | succ k1 =>
         have H := HA.out
         clear HA
         simp only [topiarylaw15_TreePaths.l0] at H
         by_cases c36 : x10_1 < (y415.length : Int)
         ·rw [if_pos c36] at H
          have c36b0 : decide (x10_1 < (y415.length : Int)) = true := decide_eq_true c36
          clear c36
          by_cases c37 : x10_1 < (l2_2.length : Int)
          ·rw [if_pos c37] at H
           have c37b0 : decide (x10_1 < (l2_2.length : Int)) = true := decide_eq_true c37
           clear c37
           by_cases c38 : 0 ≤ x10_1
           ·rw [if_pos c38] at H
            have c38b0 : decide (0 ≤ x10_1) = true := decide_eq_true c38
            clear c38
            by_cases c39 : ([] : List Int).length < 17592186044416
            ·rw [if_pos c39] at H
             have LMc39 := Aside0.mk c39
             clear c39
             obtain ⟨y419, hy419⟩ : ∃ y_ : List Int, y_ = (([] : List Int) ++ [rd y415 x10_1]) := ⟨_, rfl⟩
             replace H : (if y419.length + x1_1.length < 17592186044416 then (topiarylaw15_TreePaths.l0 k1 (y419 ++ x1_1) t396 y415 (wrap64 (x10_1 + 1)) t397 t400 true a2_1 l2_2) else (none)) = some r := by first | (rw [hy419]; with_reducible exact H) | (have H2_ := (Option.bind_some _ _).symm.trans H; rw [hy419]; with_reducible exact H2_) | (have H2_ := (Option.bind_some _ _).symm.trans H; with_reducible exact H2_) | with_reducible exact H | (rw [hy419]; exact H) | exact H
             have Ny419 := Aside0.mk hy419
             clear hy419
             by_cases c40 : y419.length + x1_1.length < 17592186044416
             ·rw [if_pos c40] at H
              have LMc40 := Aside0.mk c40
              clear c40
              obtain ⟨y422, hy422⟩ : ∃ y_ : List Int, y_ = (y419 ++ x1_1) := ⟨_, rfl⟩
              replace H : (topiarylaw15_TreePaths.l0 k1 y422 t396 y415 (wrap64 (x10_1 + 1)) t397 t400 true a2_1 l2_2) = some r := by first | (rw [hy422]; with_reducible exact H) | (have H2_ := (Option.bind_some _ _).symm.trans H; rw [hy422]; with_reducible exact H2_) | (have H2_ := (Option.bind_some _ _).symm.trans H; with_reducible exact H2_) | with_reducible exact H | (rw [hy422]; exact H) | exact H
              have Ny422 := Aside0.mk hy422
              clear hy422
              have H' := Aside0.mk H
              clear H
              obtain ⟨Ao41, co41, eo41⟩ := Kd.R_slice HO_9.out
              subst eo41
              have hnb42 := NB395_394.out
              have hnc42 := NB394_395.out
              have hcz43_0 : wr.cell? ⟨gb395, 0, none⟩ = some (.bool true) := (blk_cell BK395.out 0).trans rfl
              have hcz43_1 : wr.cell? ⟨gb395, 1, none⟩ = some (.int .i64 a2_1) := (blk_cell BK395.out 1).trans rfl
              have hcz43_2 : wr.cell? ⟨gb395, 2, none⟩ = some (.slice A2_2 l2_2.length c2_2) := (blk_cell BK395.out 2).trans rfl
              have hfz43_0 := blk_frozen BK395.out 0
              have hfz43_1 := blk_frozen BK395.out 1
              have hfz43_2 := blk_frozen BK395.out 2
              have p418 : 0 ≤ (x10_1 : Int) := of_decide_eq_true as_
              have q418 : x10_1 < (y415.length : Int) := of_decide_eq_true as_
              obtain ⟨ad418, e418, hx418_0⟩ := Kd.at_int (Kd.R_reads' HO_9.out).2.2 x10_1 p418 q418
              cases e418
              replace p418 := eq_true p418
              replace q418 := eq_true q418
              go_wp2_with (first | ((with_reducible refine gate_builtin (b := .append) (xs := #[.tmp 65, .tmp 70]) rfl ?_); (try (refine gate_guard (by rfl) ?_; dsimp only)); at_builtin; refine Kd.R_append (Kd.int .i64) (w0 := w) w.heap.size rfl (.tmp 65) (.tmp 70) 29 3 (.int .i64 0) 8 rfl Try.underlying29 info3 rfl (by decide) (by omega) (.slice none 0 0) ([] : List Int) (rd y415 x10_1) [.int .i64 (rd y415 x10_1)] (fun k_ => (w.heap.size ≤ k_) ∧ some k_ ≠ (u1 : Value).ownBlock ∧ some k_ ≠ (.slice (some ad418) y415.length co41 : Value).ownBlock) (fun _ => False) rfl rfl ?aP (fun _ hk => hk.elim) ?aF ?aO ?aB ?aS ?aL ?_; (case aP => exact rfl); (case aB => exact (bt_ HB.out GE394.out GE395.out)); (case aF => exact (fun k_ hk => ⟨(Nat.le_trans (below_size (bt_ HB.out GE394.out GE395.out)) hk), Kd.fresh' (Kd.R_lt (rr_ HO_1.out)) k_ hk, Kd.fresh' (Kd.R_lt (rr_ HO_9.out)) k_ hk⟩)); (case aO => exact ((Kd.R_nil _ _ _ _ (fun k_ => (w.heap.size ≤ k_) ∧ some k_ ≠ (u1 : Value).ownBlock ∧ some k_ ≠ (.slice (some ad418) y415.length co41 : Value).ownBlock)))); (case aS => exact (below_size (bt_ HB.out GE394.out GE395.out))); (case aL => have := LMc39.out; omega); intro v420 w44 ho hb hg hat; rw [← Ny419.out] at ho; have n0_ := Aside0.mk (Kd.R_after (Kd.R_apart_nil (rr_ HO_1.out)) hg hat); have n1_ := Aside0.mk (Kd.R_after (Kd.R_apart_nil (rr_ HO_9.out)) hg hat); have n2_ := Aside0.mk (Kd.R_grown (rr_ HO_395000.out) hg (fun _ _ => by simp [Value.ownBlock])); have n3_ := Aside0.mk (Kd.R_grown (rr_ HO_395001.out) hg (fun _ _ => by simp [Value.ownBlock])); have n4_ := Aside0.mk (blk_grown (g := gb394) (o := .cells #[.slice Ao20 t397.length co20, .slice Ao22 t400.length co22] 25 (0, 0)) (bk_ BK394.out) hg (by simp [Value.ownBlock])); have n5_ := Aside0.mk (blk_grown (g := gb395) (o := .cells #[.bool true, .int .i64 a2_1, .slice A2_2 l2_2.length c2_2] 45 (0, 0)) (bk_ BK395.out) hg (by simp [Value.ownBlock])); have n6_ := Aside0.mk (hb); have n7_ := Aside0.mk (ho); clear HO_1; clear HO_9; clear HO_395000; clear HO_395001; clear BK394; clear BK395; clear HB; have HO_1 := n0_; have HO_9 := n1_; have HO_395000 := n2_; have HO_395001 := n3_; have BK394 := n4_; have BK395 := n5_; have HB := n6_; have HO421 := n7_; clear n0_ n1_ n2_ n3_ n4_ n5_ n6_ n7_; clear ho hb hg hat; obtain ⟨Ao46, co46, eo46⟩ := Kd.R_slice HO_1.out; subst eo46) | ((with_reducible refine gate_builtin (b := .append) (xs := #[.tmp 72, .tmp 73]) rfl ?_); (try (refine gate_guard (by rfl) ?_; dsimp only)); at_builtin; refine Kd.R_append_rows (Kd.int .i64) (w0 := w) w.heap.size rfl (.tmp 72) (.tmp 73) 29 3 (.int .i64 0) 8 rfl Try.underlying29 info3 rfl (by decide) (by omega) v420 y419 x1_1 _ _ _ (fun k_ => (w.heap.size ≤ k_) ∧ some k_ ≠ (.slice Ao46 x1_1.length co46 : Value).ownBlock ∧ some k_ ≠ (.slice (some ad418) y415.length co41 : Value).ownBlock) (fun _ => False) rfl rfl ?aO ?aR (fun _ _ h => h) (fun _ h => h.elim) ?aF ?aB ?aS ?aL ?_; (case aR => exact cc_ (Kd.R_reads' HO_1.out).2.2); (case aB => exact (bt_ HB.out GE394.out GE395.out)); (case aF => exact (fun k_ hk => ⟨(Nat.le_trans (below_size (bt_ HB.out GE394.out GE395.out)) hk), Kd.fresh' (Kd.R_lt (rr_ HO_1.out)) k_ hk, Kd.fresh' (Kd.R_lt (rr_ HO_9.out)) k_ hk⟩)); (case aO => exact (rr_ HO421.out)); (case aS => exact (below_size (bt_ HB.out GE394.out GE395.out))); (case aL => have := LMc40.out; omega); intro v423 w45 ho hb hg hat; rw [← Ny422.out] at ho; have n0_ := Aside0.mk (Kd.R_after (ok := (fun k_ => (w.heap.size ≤ k_) ∧ some k_ ≠ (.slice (some ad418) y415.length co41 : Value).ownBlock)) (rr_ HO_1.out) hg hat); have n1_ := Aside0.mk (Kd.R_after (ok := (fun k_ => (w.heap.size ≤ k_) ∧ some k_ ≠ (.slice Ao46 x1_1.length co46 : Value).ownBlock)) (rr_ HO_9.out) hg hat); have n2_ := Aside0.mk (Kd.R_over' (rr_ HO_395000.out) (Kd.R_typed (rr_ HO421.out)) (by decide) hg); have n3_ := Aside0.mk (Kd.R_over' (rr_ HO_395001.out) (Kd.R_typed (rr_ HO421.out)) (by decide) hg); have n4_ := Aside0.mk (blk_grown (g := gb394) (o := .cells #[.slice Ao20 t397.length co20, .slice Ao22 t400.length co22] 25 (0, 0)) (bk_ BK394.out) hg (Kd.R_ne HO421.out BK394.out (by decide))); have n5_ := Aside0.mk (blk_grown (g := gb395) (o := .cells #[.bool true, .int .i64 a2_1, .slice A2_2 l2_2.length c2_2] 45 (0, 0)) (bk_ BK395.out) hg (Kd.R_ne HO421.out BK395.out (by decide))); have n6_ := Aside0.mk (hb); have n7_ := Aside0.mk (ho); clear HO_1; clear HO_9; clear HO_395000; clear HO_395001; clear BK394; clear BK395; clear HB; clear HO421; have HO_1 := n0_; have HO_9 := n1_; have HO_395000 := n2_; have HO_395001 := n3_; have BK394 := n4_; have BK395 := n5_; have HB := n6_; have HO424 := n7_; clear n0_ n1_ n2_ n3_ n4_ n5_ n6_ n7_; clear ho hb hg hat))
              go_roundg k1
              case measure => have := HK1.out; omega
              case rel => exact ⟨(y422), (wrap64 (x10_1 + 1)), sm_, H', ⟨by have := HK1.out; omega⟩, ⟨by (with_reducible repeat (first | apply Kd.R_alloc | apply Kd.R_drewN | apply Kd.R_drew)); exact Kd.R_mono HO424.out (fun _ hk => ⟨hk.1, hk.2.2⟩)⟩, ⟨by (with_reducible repeat (first | apply Kd.R_alloc | apply Kd.R_drewN | apply Kd.R_drew)); exact Kd.R_mono HO_9.out (fun _ hk => ⟨hk.1.1, hk.2⟩)⟩, ⟨rr_ HO_395000.out⟩, ⟨rr_ HO_395001.out⟩, ⟨bk_ BK394.out⟩, ⟨bk_ BK395.out⟩, ⟨bt_ HB.out GE394.out GE395.out⟩⟩
             ·rw [if_neg c40] at H
              exact absurd H (by simp)
            ·rw [if_neg c39] at H
             exact absurd H (by simp)
           ·rw [if_neg c38] at H
            exact absurd H (by simp)
          ·rw [if_neg c37] at H
           have c37b0 : decide (x10_1 < (l2_2.length : Int)) = false := decide_eq_false c37
           clear c37
           replace H := Option.bind_eq_some_iff.mp H
           obtain ⟨t425, A470, H⟩ := H
           try dsimp only at H
           have A47 := Aside0.mk A470
           clear A470
           replace H := Option.bind_eq_some_iff.mp H
           obtain ⟨t428, A480, H⟩ := H
           try dsimp only at H
           have A48 := Aside0.mk A480
           clear A480
           replace H := Option.bind_eq_some_iff.mp H
           obtain ⟨t431, A490, H⟩ := H
           try dsimp only at H
           have A49 := Aside0.mk A490
           clear A490
           by_cases c50 : t396 = true
           ·subst c50
            rw [if_pos rfl] at H
            have H1 := H
            clear H
            have H := H1
            clear H1
            obtain rfl := Option.some.inj H
            obtain ⟨Ao51, co51, eo51⟩ := Kd.R_slice HO_9.out
            subst eo51
            have hnb52 := NB395_394.out
            have hnc52 := NB394_395.out
            have hcz53_0 : wr.cell? ⟨gb395, 0, none⟩ = some (.bool true) := (blk_cell BK395.out 0).trans rfl
            have hcz53_1 : wr.cell? ⟨gb395, 1, none⟩ = some (.int .i64 a2_1) := (blk_cell BK395.out 1).trans rfl
            have hcz53_2 : wr.cell? ⟨gb395, 2, none⟩ = some (.slice A2_2 l2_2.length c2_2) := (blk_cell BK395.out 2).trans rfl
            have hfz53_0 := blk_frozen BK395.out 0
            have hfz53_1 := blk_frozen BK395.out 1
            have hfz53_2 := blk_frozen BK395.out 2
            try go_wp2
            have n0_ := Aside0.mk (Kd.R_drew HO_1.out)
            have n1_ := Aside0.mk (Kd.R_drew HO_9.out)
            have n2_ := Aside0.mk (Kd.R_drew HO_395000.out)
            have n3_ := Aside0.mk (Kd.R_drew HO_395001.out)
            have n4_ := Aside0.mk (blk_drew BK394.out)
            have n5_ := Aside0.mk (blk_drew BK395.out)
            have n6_ := Aside0.mk (below_drew1 HB.out)
            clear HO_1
            clear HO_9
            clear HO_395000
            clear HO_395001
            clear BK394
            clear BK395
            clear HB
            have HO_1 := n0_
            have HO_9 := n1_
            have HO_395000 := n2_
            have HO_395001 := n3_
            have BK394 := n4_
            have BK395 := n5_
            have HB := n6_
            clear n0_ n1_ n2_ n3_ n4_ n5_ n6_
            obtain ⟨Ao55, co55, eo55⟩ := Kd.R_slice HO_1.out
            (first | subst eo55 | (injection eo55 with f1_ f2_ f3_; have f4_ := f1_.symm; have f5_ := f3_.symm; clear f1_ f2_ f3_; subst f4_; subst f5_))
            refine start_ (n := 8) (S := fun w' => w'.cell? ⟨gb394, 0, none⟩ = some (.slice Ao20 t397.length co20) ∧ w'.cell? ⟨gb394, 1, none⟩ = some (.slice Ao22 t400.length co22)) (ds := []) #[false, false, false, false, false, false, false, false] (by kernel_rfl) rfl rfl ⟨(blk_cell BK394.out 0).trans rfl, (blk_cell BK394.out 1).trans rfl⟩ (fun hHeld => ?_); refine with_tabW topiarylaw15_TreePaths.tab16 topiarylaw15_TreePaths.bits16 (fun HT_ HW_ => ?_)
            generalize wr.drew = w54 at HO_1 HO_9 HO_395000 HO_395001 BK394 BK395 HB hHeld ⊢
            refine pure_ (i := 1) (N := some 76) (v := ?_) (a' := ?_) #[false, true, false, false, false, false, false, false] rfl rfl (any_of HT_.out (by kernel_rfl)) (fun _ _ _ h => h) (Or.inl ⟨by rfl, ?_⟩) ?_ ?_
            rotate_left
            ·intro w'
             go_simp
             with_reducible rfl
            rotate_left
            ·simp only [Act.put, List.setIfInBounds_toArray, List.set_cons_zero, List.set_cons_succ, i64_w, i32_w]
             rfl
            refine pure_ (i := 4) (N := some 79) (v := ?_) (a' := ?_) #[false, true, false, false, true, false, false, false] rfl rfl (any_of HT_.out (by kernel_rfl)) (fun _ _ _ h => h) (Or.inl ⟨by rfl, ?_⟩) ?_ ?_
            rotate_left
            ·intro w'
             go_simp
             with_reducible rfl
            rotate_left
            ·simp only [Act.put, List.setIfInBounds_toArray, List.set_cons_zero, List.set_cons_succ, i64_w, i32_w]
             rfl
            refine take_ (i := 0) (N := some 75) (v := ?_) (a' := ?_) #[true, true, false, false, true, false, false, false] rfl rfl (take_ofW HT_.out HW_.out (by kernel_rfl)) (fun _ _ _ h => h) (Or.inl ⟨by rfl, ?_⟩) hHeld ?_ ?_
            rotate_left
            ·rintro w' ⟨s0, s1⟩
             go_simp
             with_reducible rfl
            rotate_left
            ·simp only [Act.put, List.setIfInBounds_toArray, List.set_cons_zero, List.set_cons_succ, i64_w, i32_w]
             rfl
            refine take_ (i := 3) (N := some 78) (v := ?_) (a' := ?_) #[true, true, false, true, true, false, false, false] rfl rfl (take_ofW HT_.out HW_.out (by kernel_rfl)) (fun _ _ _ h => h) (Or.inl ⟨by rfl, ?_⟩) hHeld ?_ ?_
            rotate_left
            ·rintro w' ⟨s0, s1⟩
             go_simp
             with_reducible rfl
            rotate_left
            ·simp only [Act.put, List.setIfInBounds_toArray, List.set_cons_zero, List.set_cons_succ, i64_w, i32_w]
             rfl
            refine one_ (i := 2) (N := some 77) #[true, true, true, true, true, false, false, false] rfl rfl (one_of HT_.out (by kernel_rfl)) (by decide) (fun K hK => ?_)
            refine goes_ Try.func30 (by kernel_rfl) rfl #[.agg #[.slice Ao20 t397.length co20, .slice Ao22 t400.length co22], .slice Ao55 x1_1.length co55] (by rfl) rfl rfl ar_ ?_
            with_reducible refine (tree_Paths.calls k1 _ _ t397 _ _ t400 (fun k_ => some k_ = (.slice Ao55 x1_1.length co55 : Value).ownBlock) _ _ x1_1 t425 _ ?side1 ?side2 ?side3 ?side4 ?side5 A47.out).mono ?_
            (case side1 => exact cc_ (Kd.R_reads' HO_395000.out).2.2)
            (case side2 => exact (Kd.R_reads' HO_395000.out).2.1)
            (case side3 => exact cc_ (Kd.R_reads' HO_395001.out).2.2)
            (case side4 => exact (Kd.R_reads' HO_395001.out).2.1)
            (case side5 => exact Kd.R_V (Kd.R_tight rfl (Kd.R_types (Kd.R_types (Kd.R_apart' (Kd.R_apart' (HO_1.out) (Kd.R_typed HO_395000.out) (by decide)) (Kd.R_typed HO_395001.out) (by decide)) BK394.out (by decide)) BK395.out (by decide))))
            rintro e w56 ⟨v426, rfl, ho0, hb⟩
            refine ⟨_, rfl, ?_⟩
            have n0_ := Aside0.mk (Kd.R_elder' (rr_ HO_1.out) (Kd.R_base ho0) hb)
            have n1_ := Aside0.mk (Kd.R_elder' (rr_ HO_9.out) (Kd.R_base ho0) hb)
            have n2_ := Aside0.mk (Kd.R_below (rr_ HO_395000.out) hb)
            have n3_ := Aside0.mk (Kd.R_below (rr_ HO_395001.out) hb)
            have n4_ := Aside0.mk (Kd.R_lower (Kd.R_new' (Kd.R_new' (Kd.R_newM (M := fun k_ => (w.heap.size ≤ k_)) (Kd.R_mono (ok' := fun k_ => True) ho0 (fun _ hk_ => trivial)) (below_size (bt_ HB.out GE394.out GE395.out)) (fun k_ h_ => h_)) (Kd.R_lt (rr_ HO_1.out))) (Kd.R_lt (rr_ HO_9.out))) (below_size (bt_ HB.out GE394.out GE395.out)))
            have n5_ := Aside0.mk (blk_below (g := gb394) (o := .cells #[.slice Ao20 t397.length co20, .slice Ao22 t400.length co22] 25 (0, 0)) (bk_ BK394.out) hb)
            have n6_ := Aside0.mk (blk_below (g := gb395) (o := .cells #[.bool true, .int .i64 a2_1, .slice A2_2 l2_2.length c2_2] 45 (0, 0)) (bk_ BK395.out) hb)
            have n7_ := Aside0.mk (below_step (bt_ HB.out GE394.out GE395.out) hb)
            clear HO_1
            clear HO_9
            clear HO_395000
            clear HO_395001
            clear BK394
            clear BK395
            clear HB
            have HO_1 := n0_
            have HO_9 := n1_
            have HO_395000 := n2_
            have HO_395001 := n3_
            have HO427 := n4_
            have BK394 := n5_
            have BK395 := n6_
            have HB := n7_
            clear n0_ n1_ n2_ n3_ n4_ n5_ n6_ n7_
            (try clear hb)
            (try clear hb2)
            (try clear hk)
            (try clear hi)
            (try clear ho0)
            refine hK.out _ _ ⟨(blk_cell BK394.out 0).trans rfl, (blk_cell BK394.out 1).trans rfl⟩ (fun hHeld => ?_)
            clear hK K
            refine norm_ (a' := ?_) ?_ ?_
            rotate_left
            ·show Act.put _ (some 77) _ = _
             simp only [Act.put, List.setIfInBounds_toArray, List.set_cons_zero, List.set_cons_succ, i64_w, i32_w]
             rfl
            refine one_ (i := 5) (N := some 80) #[true, true, true, true, true, true, false, false] rfl rfl (one_of HT_.out (by kernel_rfl)) (by decide) (fun K hK => ?_)
            refine goes_ Try.func31 (by kernel_rfl) rfl #[.agg #[.slice Ao20 t397.length co20, .slice Ao22 t400.length co22], .slice Ao55 x1_1.length co55] (by rfl) rfl rfl ar_ ?_
            with_reducible refine (topiaryref15_Paths.calls k1 _ _ t397 _ _ t400 _ _ x1_1 t428 _ ?side1 ?side2 ?side3 ?side4 ?side5 ?side6 A48.out).mono ?_
            (case side1 => exact cc_ (Kd.R_reads' HO_395000.out).2.2)
            (case side2 => exact (Kd.R_reads' HO_395000.out).2.1)
            (case side3 => exact cc_ (Kd.R_reads' HO_395001.out).2.2)
            (case side4 => exact (Kd.R_reads' HO_395001.out).2.1)
            (case side5 => exact cc_ (Kd.R_reads' HO_1.out).2.2)
            (case side6 => exact (Kd.R_reads' HO_1.out).2.1)
            rintro e w57 ⟨v429, rfl, ho0, hb⟩
            refine ⟨_, rfl, ?_⟩
            have n0_ := Aside0.mk (Kd.R_elder' (rr_ HO_1.out) (Kd.R_base ho0) hb)
            have n1_ := Aside0.mk (Kd.R_elder' (rr_ HO_9.out) (Kd.R_base ho0) hb)
            have n2_ := Aside0.mk (Kd.R_below (rr_ HO_395000.out) hb)
            have n3_ := Aside0.mk (Kd.R_below (rr_ HO_395001.out) hb)
            have n4_ := Aside0.mk (Kd.R_elder' (rr_ HO427.out) (Kd.R_base ho0) hb)
            have n5_ := Aside0.mk (Kd.R_lower (Kd.R_new' (Kd.R_new' (Kd.R_new' (Kd.R_newM (M := fun k_ => (w.heap.size ≤ k_)) ho0 (below_size (bt_ HB.out GE394.out GE395.out)) (fun k_ h_ => h_)) (Kd.R_lt (rr_ HO_1.out))) (Kd.R_lt (rr_ HO_9.out))) (Kd.R_lt (rr_ HO427.out))) (below_size (bt_ HB.out GE394.out GE395.out)))
            have n6_ := Aside0.mk (blk_below (g := gb394) (o := .cells #[.slice Ao20 t397.length co20, .slice Ao22 t400.length co22] 25 (0, 0)) (bk_ BK394.out) hb)
            have n7_ := Aside0.mk (blk_below (g := gb395) (o := .cells #[.bool true, .int .i64 a2_1, .slice A2_2 l2_2.length c2_2] 45 (0, 0)) (bk_ BK395.out) hb)
            have n8_ := Aside0.mk (below_step (bt_ HB.out GE394.out GE395.out) hb)
            clear HO_1
            clear HO_9
            clear HO_395000
            clear HO_395001
            clear HO427
            clear BK394
            clear BK395
            clear HB
            have HO_1 := n0_
            have HO_9 := n1_
            have HO_395000 := n2_
            have HO_395001 := n3_
            have HO427 := n4_
            have HO430 := n5_
            have BK394 := n6_
            have BK395 := n7_
            have HB := n8_
            clear n0_ n1_ n2_ n3_ n4_ n5_ n6_ n7_ n8_
            (try clear hb)
            (try clear hb2)
            (try clear hk)
            (try clear hi)
            (try clear ho0)
            obtain ⟨Ao58, co58, eo58⟩ := Kd.R_slice HO427.out
            (first | subst eo58 | (injection eo58 with f1_ f2_ f3_; have f4_ := f1_.symm; have f5_ := f3_.symm; clear f1_ f2_ f3_; subst f4_; subst f5_))
            obtain ⟨Ao59, co59, eo59⟩ := Kd.R_slice HO430.out
            (first | subst eo59 | (injection eo59 with f1_ f2_ f3_; have f4_ := f1_.symm; have f5_ := f3_.symm; clear f1_ f2_ f3_; subst f4_; subst f5_))
            refine hK.out _ _ ⟨(blk_cell BK394.out 0).trans rfl, (blk_cell BK394.out 1).trans rfl⟩ (fun hHeld => ?_)
            clear hK K
            refine norm_ (a' := ?_) ?_ ?_
            rotate_left
            ·show Act.put _ (some 80) _ = _
             simp only [Act.put, List.setIfInBounds_toArray, List.set_cons_zero, List.set_cons_succ, i64_w, i32_w]
             rfl
            refine one_ (i := 6) (N := some 81) #[true, true, true, true, true, true, true, false] rfl rfl (one_of HT_.out (by kernel_rfl)) (by decide) (fun K hK => ?_)
            refine goes_ Try.func13 (by kernel_rfl) rfl #[.slice Ao58 t425.length co58, .slice Ao59 t428.length co59] (by rfl) rfl rfl ar_ ?_
            with_reducible refine (topiaryref02_Same.calls k1 _ _ t425 _ _ t428 t431 _ ?side1 ?side2 ?side3 ?side4 A49.out).mono ?_
            (case side1 => exact cc_ (Kd.R_reads' HO427.out).2.2)
            (case side2 => exact (Kd.R_reads' HO427.out).2.1)
            (case side3 => exact cc_ (Kd.R_reads' HO430.out).2.2)
            (case side4 => exact (Kd.R_reads' HO430.out).2.1)
            rintro e w' ⟨rfl, ⟨nd, rfl⟩⟩
            refine ⟨_, rfl, ?_⟩
            refine hK.out _ _ ⟨(blk_cell BK394.out 0).trans rfl, (blk_cell BK394.out 1).trans rfl⟩ (fun hHeld => ?_)
            clear hK K
            refine norm_ (a' := ?_) ?_ ?_
            rotate_left
            ·show Act.put _ (some 81) _ = _
             simp only [Act.put, List.setIfInBounds_toArray, List.set_cons_zero, List.set_cons_succ, i64_w, i32_w]
             rfl
            refine pure_ (i := 7) (N := some 12) (v := ?_) (a' := ?_) #[true, true, true, true, true, true, true, true] rfl rfl (any_of HT_.out (by kernel_rfl)) (fun _ _ _ h => h) (Or.inl ⟨by rfl, ?_⟩) ?_ ?_
            rotate_left
            ·intro w'
             go_simp
             with_reducible rfl
            rotate_left
            ·simp only [Act.put, List.setIfInBounds_toArray, List.set_cons_zero, List.set_cons_succ, i64_w, i32_w]
             rfl
            refine done_ (done_of HT_.out (by kernel_rfl)) ?_
            try go_wp2
            go_ret
            exact ⟨by first | rfl | (simp [errW_none, errW_some] <;> rfl) | (simp [*, errW_none, errW_some] <;> rfl), bt_ HB.out GE394.out GE395.out⟩
           ·replace c50 := Bool.eq_false_iff.mpr c50
            subst c50
            rw [if_neg (show ¬ (false = true) by decide)] at H
            have H1 := H
            clear H
            have H := H1
            clear H1
            exact absurd ((Option.some.inj H).trans HRT.out) (by decide)
         ·rw [if_neg c36] at H
          have c36b0 : decide (x10_1 < (y415.length : Int)) = false := decide_eq_false c36
          clear c36
          replace H := Option.bind_eq_some_iff.mp H
          obtain ⟨t432, A690, H⟩ := H
          try dsimp only at H
          have A69 := Aside0.mk A690
          clear A690
          replace H := Option.bind_eq_some_iff.mp H
          obtain ⟨t435, A700, H⟩ := H
          try dsimp only at H
          have A70 := Aside0.mk A700
          clear A700
          replace H := Option.bind_eq_some_iff.mp H
          obtain ⟨t438, A710, H⟩ := H
          try dsimp only at H
          have A71 := Aside0.mk A710
          clear A710
          by_cases c72 : t396 = true
          ·subst c72
           rw [if_pos rfl] at H
           have H1 := H
           clear H
           have H := H1
           clear H1
           obtain rfl := Option.some.inj H
           obtain ⟨Ao73, co73, eo73⟩ := Kd.R_slice HO_9.out
           subst eo73
           try go_wp2
           have n0_ := Aside0.mk (Kd.R_drew HO_1.out)
           have n1_ := Aside0.mk (Kd.R_drew HO_9.out)
           have n2_ := Aside0.mk (Kd.R_drew HO_395000.out)
           have n3_ := Aside0.mk (Kd.R_drew HO_395001.out)
           have n4_ := Aside0.mk (blk_drew BK394.out)
           have n5_ := Aside0.mk (blk_drew BK395.out)
           have n6_ := Aside0.mk (below_drew1 HB.out)
           clear HO_1
           clear HO_9
           clear HO_395000
           clear HO_395001
           clear BK394
           clear BK395
           clear HB
           have HO_1 := n0_
           have HO_9 := n1_
           have HO_395000 := n2_
           have HO_395001 := n3_
           have BK394 := n4_
           have BK395 := n5_
           have HB := n6_
           clear n0_ n1_ n2_ n3_ n4_ n5_ n6_
           obtain ⟨Ao75, co75, eo75⟩ := Kd.R_slice HO_1.out
           (first | subst eo75 | (injection eo75 with f1_ f2_ f3_; have f4_ := f1_.symm; have f5_ := f3_.symm; clear f1_ f2_ f3_; subst f4_; subst f5_))
           refine start_ (n := 8) (S := fun w' => w'.cell? ⟨gb394, 0, none⟩ = some (.slice Ao20 t397.length co20) ∧ w'.cell? ⟨gb394, 1, none⟩ = some (.slice Ao22 t400.length co22)) (ds := []) #[false, false, false, false, false, false, false, false] (by kernel_rfl) rfl rfl ⟨(blk_cell BK394.out 0).trans rfl, (blk_cell BK394.out 1).trans rfl⟩ (fun hHeld => ?_); refine with_tabW topiarylaw15_TreePaths.tab16 topiarylaw15_TreePaths.bits16 (fun HT_ HW_ => ?_)
           generalize wr.drew = w74 at HO_1 HO_9 HO_395000 HO_395001 BK394 BK395 HB hHeld ⊢
           refine pure_ (i := 1) (N := some 76) (v := ?_) (a' := ?_) #[false, true, false, false, false, false, false, false] rfl rfl (any_of HT_.out (by kernel_rfl)) (fun _ _ _ h => h) (Or.inl ⟨by rfl, ?_⟩) ?_ ?_
           rotate_left
           ·intro w'
            go_simp
            with_reducible rfl
           rotate_left
           ·simp only [Act.put, List.setIfInBounds_toArray, List.set_cons_zero, List.set_cons_succ, i64_w, i32_w]
            rfl
           refine pure_ (i := 4) (N := some 79) (v := ?_) (a' := ?_) #[false, true, false, false, true, false, false, false] rfl rfl (any_of HT_.out (by kernel_rfl)) (fun _ _ _ h => h) (Or.inl ⟨by rfl, ?_⟩) ?_ ?_
           rotate_left
           ·intro w'
            go_simp
            with_reducible rfl
           rotate_left
           ·simp only [Act.put, List.setIfInBounds_toArray, List.set_cons_zero, List.set_cons_succ, i64_w, i32_w]
            rfl
           refine take_ (i := 0) (N := some 75) (v := ?_) (a' := ?_) #[true, true, false, false, true, false, false, false] rfl rfl (take_ofW HT_.out HW_.out (by kernel_rfl)) (fun _ _ _ h => h) (Or.inl ⟨by rfl, ?_⟩) hHeld ?_ ?_
           rotate_left
           ·rintro w' ⟨s0, s1⟩
            go_simp
            with_reducible rfl
           rotate_left
           ·simp only [Act.put, List.setIfInBounds_toArray, List.set_cons_zero, List.set_cons_succ, i64_w, i32_w]
            rfl
           refine take_ (i := 3) (N := some 78) (v := ?_) (a' := ?_) #[true, true, false, true, true, false, false, false] rfl rfl (take_ofW HT_.out HW_.out (by kernel_rfl)) (fun _ _ _ h => h) (Or.inl ⟨by rfl, ?_⟩) hHeld ?_ ?_
           rotate_left
           ·rintro w' ⟨s0, s1⟩
            go_simp
            with_reducible rfl
           rotate_left
           ·simp only [Act.put, List.setIfInBounds_toArray, List.set_cons_zero, List.set_cons_succ, i64_w, i32_w]
            rfl
           refine one_ (i := 2) (N := some 77) #[true, true, true, true, true, false, false, false] rfl rfl (one_of HT_.out (by kernel_rfl)) (by decide) (fun K hK => ?_)
           refine goes_ Try.func30 (by kernel_rfl) rfl #[.agg #[.slice Ao20 t397.length co20, .slice Ao22 t400.length co22], .slice Ao75 x1_1.length co75] (by rfl) rfl rfl ar_ ?_
           with_reducible refine (tree_Paths.calls k1 _ _ t397 _ _ t400 (fun k_ => some k_ = (.slice Ao75 x1_1.length co75 : Value).ownBlock) _ _ x1_1 t432 _ ?side1 ?side2 ?side3 ?side4 ?side5 A69.out).mono ?_
           (case side1 => exact cc_ (Kd.R_reads' HO_395000.out).2.2)
           (case side2 => exact (Kd.R_reads' HO_395000.out).2.1)
           (case side3 => exact cc_ (Kd.R_reads' HO_395001.out).2.2)
           (case side4 => exact (Kd.R_reads' HO_395001.out).2.1)
           (case side5 => exact Kd.R_V (Kd.R_tight rfl (Kd.R_types (Kd.R_types (Kd.R_apart' (Kd.R_apart' (HO_1.out) (Kd.R_typed HO_395000.out) (by decide)) (Kd.R_typed HO_395001.out) (by decide)) BK394.out (by decide)) BK395.out (by decide))))
           rintro e w76 ⟨v433, rfl, ho0, hb⟩
           refine ⟨_, rfl, ?_⟩
           have n0_ := Aside0.mk (Kd.R_elder' (rr_ HO_1.out) (Kd.R_base ho0) hb)
           have n1_ := Aside0.mk (Kd.R_elder' (rr_ HO_9.out) (Kd.R_base ho0) hb)
           have n2_ := Aside0.mk (Kd.R_below (rr_ HO_395000.out) hb)
           have n3_ := Aside0.mk (Kd.R_below (rr_ HO_395001.out) hb)
           have n4_ := Aside0.mk (Kd.R_lower (Kd.R_new' (Kd.R_new' (Kd.R_newM (M := fun k_ => (w.heap.size ≤ k_)) (Kd.R_mono (ok' := fun k_ => True) ho0 (fun _ hk_ => trivial)) (below_size (bt_ HB.out GE394.out GE395.out)) (fun k_ h_ => h_)) (Kd.R_lt (rr_ HO_1.out))) (Kd.R_lt (rr_ HO_9.out))) (below_size (bt_ HB.out GE394.out GE395.out)))
           have n5_ := Aside0.mk (blk_below (g := gb394) (o := .cells #[.slice Ao20 t397.length co20, .slice Ao22 t400.length co22] 25 (0, 0)) (bk_ BK394.out) hb)
           have n6_ := Aside0.mk (blk_below (g := gb395) (o := .cells #[.bool true, .int .i64 a2_1, .slice A2_2 l2_2.length c2_2] 45 (0, 0)) (bk_ BK395.out) hb)
           have n7_ := Aside0.mk (below_step (bt_ HB.out GE394.out GE395.out) hb)
           clear HO_1
           clear HO_9
           clear HO_395000
           clear HO_395001
           clear BK394
           clear BK395
           clear HB
           have HO_1 := n0_
           have HO_9 := n1_
           have HO_395000 := n2_
           have HO_395001 := n3_
           have HO434 := n4_
           have BK394 := n5_
           have BK395 := n6_
           have HB := n7_
           clear n0_ n1_ n2_ n3_ n4_ n5_ n6_ n7_
           (try clear hb)
           (try clear hb2)
           (try clear hk)
           (try clear hi)
           (try clear ho0)
           refine hK.out _ _ ⟨(blk_cell BK394.out 0).trans rfl, (blk_cell BK394.out 1).trans rfl⟩ (fun hHeld => ?_)
           clear hK K
           refine norm_ (a' := ?_) ?_ ?_
           rotate_left
           ·show Act.put _ (some 77) _ = _
            simp only [Act.put, List.setIfInBounds_toArray, List.set_cons_zero, List.set_cons_succ, i64_w, i32_w]
            rfl
           refine one_ (i := 5) (N := some 80) #[true, true, true, true, true, true, false, false] rfl rfl (one_of HT_.out (by kernel_rfl)) (by decide) (fun K hK => ?_)
           refine goes_ Try.func31 (by kernel_rfl) rfl #[.agg #[.slice Ao20 t397.length co20, .slice Ao22 t400.length co22], .slice Ao75 x1_1.length co75] (by rfl) rfl rfl ar_ ?_
           with_reducible refine (topiaryref15_Paths.calls k1 _ _ t397 _ _ t400 _ _ x1_1 t435 _ ?side1 ?side2 ?side3 ?side4 ?side5 ?side6 A70.out).mono ?_
           (case side1 => exact cc_ (Kd.R_reads' HO_395000.out).2.2)
           (case side2 => exact (Kd.R_reads' HO_395000.out).2.1)
           (case side3 => exact cc_ (Kd.R_reads' HO_395001.out).2.2)
           (case side4 => exact (Kd.R_reads' HO_395001.out).2.1)
           (case side5 => exact cc_ (Kd.R_reads' HO_1.out).2.2)
           (case side6 => exact (Kd.R_reads' HO_1.out).2.1)
           rintro e w77 ⟨v436, rfl, ho0, hb⟩
           refine ⟨_, rfl, ?_⟩
           have n0_ := Aside0.mk (Kd.R_elder' (rr_ HO_1.out) (Kd.R_base ho0) hb)
           have n1_ := Aside0.mk (Kd.R_elder' (rr_ HO_9.out) (Kd.R_base ho0) hb)
           have n2_ := Aside0.mk (Kd.R_below (rr_ HO_395000.out) hb)
           have n3_ := Aside0.mk (Kd.R_below (rr_ HO_395001.out) hb)
           have n4_ := Aside0.mk (Kd.R_elder' (rr_ HO434.out) (Kd.R_base ho0) hb)
           have n5_ := Aside0.mk (Kd.R_lower (Kd.R_new' (Kd.R_new' (Kd.R_new' (Kd.R_newM (M := fun k_ => (w.heap.size ≤ k_)) ho0 (below_size (bt_ HB.out GE394.out GE395.out)) (fun k_ h_ => h_)) (Kd.R_lt (rr_ HO_1.out))) (Kd.R_lt (rr_ HO_9.out))) (Kd.R_lt (rr_ HO434.out))) (below_size (bt_ HB.out GE394.out GE395.out)))
           have n6_ := Aside0.mk (blk_below (g := gb394) (o := .cells #[.slice Ao20 t397.length co20, .slice Ao22 t400.length co22] 25 (0, 0)) (bk_ BK394.out) hb)
           have n7_ := Aside0.mk (blk_below (g := gb395) (o := .cells #[.bool true, .int .i64 a2_1, .slice A2_2 l2_2.length c2_2] 45 (0, 0)) (bk_ BK395.out) hb)
           have n8_ := Aside0.mk (below_step (bt_ HB.out GE394.out GE395.out) hb)
           clear HO_1
           clear HO_9
           clear HO_395000
           clear HO_395001
           clear HO434
           clear BK394
           clear BK395
           clear HB
           have HO_1 := n0_
           have HO_9 := n1_
           have HO_395000 := n2_
           have HO_395001 := n3_
           have HO434 := n4_
           have HO437 := n5_
           have BK394 := n6_
           have BK395 := n7_
           have HB := n8_
           clear n0_ n1_ n2_ n3_ n4_ n5_ n6_ n7_ n8_
           (try clear hb)
           (try clear hb2)
           (try clear hk)
           (try clear hi)
           (try clear ho0)
           obtain ⟨Ao78, co78, eo78⟩ := Kd.R_slice HO434.out
           (first | subst eo78 | (injection eo78 with f1_ f2_ f3_; have f4_ := f1_.symm; have f5_ := f3_.symm; clear f1_ f2_ f3_; subst f4_; subst f5_))
           obtain ⟨Ao79, co79, eo79⟩ := Kd.R_slice HO437.out
           (first | subst eo79 | (injection eo79 with f1_ f2_ f3_; have f4_ := f1_.symm; have f5_ := f3_.symm; clear f1_ f2_ f3_; subst f4_; subst f5_))
           refine hK.out _ _ ⟨(blk_cell BK394.out 0).trans rfl, (blk_cell BK394.out 1).trans rfl⟩ (fun hHeld => ?_)
           clear hK K
           refine norm_ (a' := ?_) ?_ ?_
           rotate_left
           ·show Act.put _ (some 80) _ = _
            simp only [Act.put, List.setIfInBounds_toArray, List.set_cons_zero, List.set_cons_succ, i64_w, i32_w]
            rfl
           refine one_ (i := 6) (N := some 81) #[true, true, true, true, true, true, true, false] rfl rfl (one_of HT_.out (by kernel_rfl)) (by decide) (fun K hK => ?_)
           refine goes_ Try.func13 (by kernel_rfl) rfl #[.slice Ao78 t432.length co78, .slice Ao79 t435.length co79] (by rfl) rfl rfl ar_ ?_
           with_reducible refine (topiaryref02_Same.calls k1 _ _ t432 _ _ t435 t438 _ ?side1 ?side2 ?side3 ?side4 A71.out).mono ?_
           (case side1 => exact cc_ (Kd.R_reads' HO434.out).2.2)
           (case side2 => exact (Kd.R_reads' HO434.out).2.1)
           (case side3 => exact cc_ (Kd.R_reads' HO437.out).2.2)
           (case side4 => exact (Kd.R_reads' HO437.out).2.1)
           rintro e w' ⟨rfl, ⟨nd, rfl⟩⟩
           refine ⟨_, rfl, ?_⟩
           refine hK.out _ _ ⟨(blk_cell BK394.out 0).trans rfl, (blk_cell BK394.out 1).trans rfl⟩ (fun hHeld => ?_)
           clear hK K
           refine norm_ (a' := ?_) ?_ ?_
           rotate_left
           ·show Act.put _ (some 81) _ = _
            simp only [Act.put, List.setIfInBounds_toArray, List.set_cons_zero, List.set_cons_succ, i64_w, i32_w]
            rfl
           refine pure_ (i := 7) (N := some 12) (v := ?_) (a' := ?_) #[true, true, true, true, true, true, true, true] rfl rfl (any_of HT_.out (by kernel_rfl)) (fun _ _ _ h => h) (Or.inl ⟨by rfl, ?_⟩) ?_ ?_
           rotate_left
           ·intro w'
            go_simp
            with_reducible rfl
           rotate_left
           ·simp only [Act.put, List.setIfInBounds_toArray, List.set_cons_zero, List.set_cons_succ, i64_w, i32_w]
            rfl
           refine done_ (done_of HT_.out (by kernel_rfl)) ?_
           try go_wp2
           go_ret
           exact ⟨by first | rfl | (simp [errW_none, errW_some] <;> rfl) | (simp [*, errW_none, errW_some] <;> rfl), bt_ HB.out GE394.out GE395.out⟩
          ·replace c72 := Bool.eq_false_iff.mpr c72
           subst c72
           rw [if_neg (show ¬ (false = true) by decide)] at H
           have H1 := H
           clear H
           have H := H1
           clear H1
           exact absurd ((Option.some.inj H).trans HRT.out) (by decide)
      ·rw [if_neg c13] at H
       exact absurd H (by simp)
    ·rw [if_neg c9] at H
     have c9b0 : decide (0 < (t400.length : Int)) = false := decide_eq_false c9
     have c9b1 : decide (0 < t400.length) = false := decide_eq_false (by omega)
     clear c9
     replace H := Option.bind_eq_some_iff.mp H
     obtain ⟨t439, A870, H⟩ := H
     try dsimp only at H
     have A87 := Aside0.mk A870
     clear A870
     replace H := Option.bind_eq_some_iff.mp H
     obtain ⟨t442, A880, H⟩ := H
     try dsimp only at H
     have A88 := Aside0.mk A880
     clear A880
     replace H := Option.bind_eq_some_iff.mp H
     obtain ⟨t445, A890, H⟩ := H
     try dsimp only at H
     have A89 := Aside0.mk A890
     clear A890
     by_cases c90 : t396 = true
     ·subst c90
      rw [if_pos rfl] at H
      have H1 := H
      clear H
      have H := H1
      clear H1
      obtain rfl := Option.some.inj H
      go_enter Try.func6, Try.ntmps6
      try go_wp2_with (first | ((with_reducible refine gate_dst (N := 3) rfl ?_); (try (refine gate_guard (by rfl) ?_; dsimp only)); refine box_event ?hg (N := 3) ?hd (cs := #[.slice A0_0 l0_0.length c0_0, .slice A0_1 l0_1.length c0_1]) (t := 25) ?hr ?_; (case hd => rfl); (case hg => rfl); (case hr => first | (go_simp; done) | (go_simp; rfl)); intro gb394 hg w91 hbox hb; have n0_ := Aside0.mk (Kd.V_below (Kd.V_elderB (vv_ HO1.out) gb394 (Nat.le_of_eq hg.symm)) hb); have n1_ := Aside0.mk (below_step (bb_ HB.out) hb); have n2_ := Aside0.mk (hbox); have n3_ := Aside0.mk ((by rw [hg]; exact (below_size (bb_ HB.out)) : w.heap.size ≤ gb394)); have n4_ := Aside0.mk ((by rw [hg]; exact (below_size (bb_ HB.out)) : w.heap.size ≤ gb394)); clear HO1; clear HB; have HO1 := n0_; have HB := n1_; have BK394 := n2_; have GW394 := n3_; have GE394 := n4_; clear n0_ n1_ n2_ n3_ n4_; clear hb hbox hg) | ((with_reducible refine gate_dst (N := 5) rfl ?_); (try (refine gate_guard (by rfl) ?_; dsimp only)); refine box_event ?hg (N := 5) ?hd (cs := #[.bool true, .int .i64 a2_1, .slice A2_2 l2_2.length c2_2]) (t := 45) ?hr ?_; (case hd => rfl); (case hg => rfl); (case hr => first | (go_simp; done) | (go_simp; rfl)); intro gb395 hg w92 hbox hb; have n0_ := Aside0.mk (Kd.V_below (Kd.V_elderB (vv_ HO1.out) gb395 (Nat.le_of_eq hg.symm)) hb); have n1_ := Aside0.mk (blk_below (g := gb394) (o := .cells #[.slice A0_0 l0_0.length c0_0, .slice A0_1 l0_1.length c0_1] 25 (0, 0)) (bk_ BK394.out) hb); have n2_ := Aside0.mk (below_step (bs_ HB.out GE394.out) hb); have n3_ := Aside0.mk (hbox); have n4_ := Aside0.mk ((by rw [hg]; exact (below_size (bs_ HB.out GE394.out)) : w.heap.size ≤ gb395)); have n5_ := Aside0.mk ((by rw [hg]; exact (below_size (bs_ HB.out GE394.out)) : w.heap.size ≤ gb395)); have n6_ := Aside0.mk ((by rw [hg]; exact Nat.ne_of_lt (blk_lt (g := gb394) (o := .cells #[.slice A0_0 l0_0.length c0_0, .slice A0_1 l0_1.length c0_1] 25 (0, 0)) (bk_ BK394.out)) : gb394 ≠ gb395)); have n7_ := Aside0.mk ((by rw [hg]; exact Nat.ne_of_gt (blk_lt (g := gb394) (o := .cells #[.slice A0_0 l0_0.length c0_0, .slice A0_1 l0_1.length c0_1] 25 (0, 0)) (bk_ BK394.out)) : gb395 ≠ gb394)); clear HO1; clear BK394; clear HB; have HO1 := n0_; have BK394 := n1_; have HB := n2_; have BK395 := n3_; have GW395 := n4_; have GE395 := n5_; have NB394_395 := n6_; have NB395_394 := n7_; clear n0_ n1_ n2_ n3_ n4_ n5_ n6_ n7_; clear hb hbox hg) | ((with_reducible refine gate_callee (f := 9) rfl ?_); refine goesL_ (some 13) rfl rfl Try.func9 (by kernel_rfl) rfl #[] rfl ar_ ?_; (with_reducible refine (topiarylaw15_awake.calls k  true _ A4.out).mono ?_); rintro e w93 ⟨rfl, hb⟩; refine ⟨_, rfl, ?_⟩; have n0_ := Aside0.mk (Kd.V_below (vv_ HO1.out) hb); have n1_ := Aside0.mk (blk_below (g := gb394) (o := .cells #[.slice A0_0 l0_0.length c0_0, .slice A0_1 l0_1.length c0_1] 25 (0, 0)) (bk_ BK394.out) hb); have n2_ := Aside0.mk (blk_below (g := gb395) (o := .cells #[.bool true, .int .i64 a2_1, .slice A2_2 l2_2.length c2_2] 45 (0, 0)) (bk_ BK395.out) hb); have n3_ := Aside0.mk (below_step (bt_ HB.out GE394.out GE395.out) hb); clear HO1; clear BK394; clear BK395; clear HB; have HO1 := n0_; have BK394 := n1_; have BK395 := n2_; have HB := n3_; clear n0_ n1_ n2_ n3_; (try clear hb); (try clear hb2); (try clear hk); (try clear hi); have hnb94 := NB394_395.out; have hnc94 := NB395_394.out; have hcz95_0 : w93.cell? ⟨gb394, 0, none⟩ = some (.slice A0_0 l0_0.length c0_0) := (blk_cell BK394.out 0).trans rfl; have hcz95_1 : w93.cell? ⟨gb394, 1, none⟩ = some (.slice A0_1 l0_1.length c0_1) := (blk_cell BK394.out 1).trans rfl; have hfz95_0 := blk_frozen BK394.out 0; have hfz95_1 := blk_frozen BK394.out 1) | ((with_reducible refine gate_callee (f := 10) rfl ?_); refine goesL_ (some 15) rfl rfl Try.func10 (by kernel_rfl) rfl #[.agg #[.slice A0_0 l0_0.length c0_0, .slice A0_1 l0_1.length c0_1]] rfl ar_ ?_; (with_reducible refine (topiarylaw15_small.calls k _ _ l0_0 _ _ l0_1 t397 t400 _ ?side1 ?side2 ?side3 ?side4 A5.out).mono ?_); (case side1 => exact cc_ (Kd.C_below HR0_0.out HB.out)); (case side2 => exact HC0_0.out); (case side3 => exact cc_ (Kd.C_below HR0_1.out HB.out)); (case side4 => exact HC0_1.out); rintro e w96 ⟨v398, v401, rfl, ho0, ho1, hb⟩; refine ⟨_, rfl, ?_⟩; have n0_ := Aside0.mk (Kd.V_mono (Kd.V_told (Kd.V_told (Kd.V_old (vv_ HO1.out) hb) (Kd.R_base ho0)) (Kd.R_base ho1)) (fun _ h_ => h_.1)); have n1_ := Aside0.mk (Kd.R_lower (Kd.R_newM (M := fun k_ => (w.heap.size ≤ k_)) ho0 (below_size (bt_ HB.out GE394.out GE395.out)) (fun k_ h_ => h_)) (below_size (bt_ HB.out GE394.out GE395.out))); have n2_ := Aside0.mk (Kd.R_lower (Kd.R_newM (M := fun k_ => (w.heap.size ≤ k_)) ho1 (below_size (bt_ HB.out GE394.out GE395.out)) (fun k_ h_ => h_)) (below_size (bt_ HB.out GE394.out GE395.out))); have n3_ := Aside0.mk (blk_below (g := gb394) (o := .cells #[.slice A0_0 l0_0.length c0_0, .slice A0_1 l0_1.length c0_1] 25 (0, 0)) (bk_ BK394.out) hb); have n4_ := Aside0.mk (blk_below (g := gb395) (o := .cells #[.bool true, .int .i64 a2_1, .slice A2_2 l2_2.length c2_2] 45 (0, 0)) (bk_ BK395.out) hb); have n5_ := Aside0.mk (below_step (bt_ HB.out GE394.out GE395.out) hb); clear HO1; clear BK394; clear BK395; clear HB; have HO1 := n0_; have HO399 := n1_; have HO402 := n2_; have BK394 := n3_; have BK395 := n4_; have HB := n5_; clear n0_ n1_ n2_ n3_ n4_ n5_; (try clear hb); (try clear hb2); (try clear hk); (try clear hi); (try clear ho0); (try clear ho1); obtain ⟨Ao97, co97, eo97⟩ := Kd.R_slice HO399.out; subst eo97; have hcz98_0 : w96.cell? ⟨gb394, 0, none⟩ = some (.slice A0_0 l0_0.length c0_0) := (blk_cell BK394.out 0).trans rfl; have hcz98_1 : w96.cell? ⟨gb394, 1, none⟩ = some (.slice A0_1 l0_1.length c0_1) := (blk_cell BK394.out 1).trans rfl; have hfz98_0 := blk_frozen BK394.out 0; have hfz98_1 := blk_frozen BK394.out 1; obtain ⟨Ao99, co99, eo99⟩ := Kd.R_slice HO402.out; subst eo99) | ((with_reducible refine gate_store (t := 25) (p := 3) rfl ?_); refine store_event (t := 25) (p := 3) (v := ?vo_w100) (w1 := ((w96.setCell ⟨gb394, 0, none⟩ (.slice Ao97 t397.length co97)).setCell ⟨gb394, 1, none⟩ (.slice Ao99 t400.length co99))) ?hg ?ho ?hn ?hr ?_; (case ho => rfl); (case hg => rfl); (case hn => rfl); (case hr => first | (go_simp; done) | (go_simp; rfl)); intro w100 hw; have n0_ : Aside0 (Kd.V (Kd.int .i64) 3 w100 w.heap.size (fun k_ => (P1_ k_ ∨ w.heap.size ≤ k_) ∧ some k_ ≠ (.slice Ao97 t397.length co97 : Value).ownBlock ∧ some k_ ≠ (.slice Ao99 t400.length co99 : Value).ownBlock ∧ k_ ≠ gb394 ∧ k_ ≠ gb395) (.slice A1 l1.length c1) l1) := ⟨(by rw [hw]; exact (by (with_reducible repeat (first | apply Kd.V_alloc | apply Kd.V_drewN | apply Kd.V_drew)); exact Kd.V_mono (Kd.V_far (p := ⟨gb394, 1, none⟩) (Kd.V_far (p := ⟨gb394, 0, none⟩) (Kd.V_mono HO1.out (fun k_ hk => (⟨hk, hk.1.1.1.2⟩ : _ ∧ k_ ≠ gb394))) (fun _ hk => hk.2) (.slice Ao97 t397.length co97)) (fun _ hk => hk.2) (.slice Ao99 t400.length co99)) (fun _ hk => ⟨hk.1.1.1.1.1, ⟨hk.1.1.2, ⟨hk.1.2, ⟨hk.1.1.1.1.2, hk.1.1.1.2⟩⟩⟩⟩)))⟩; have n1_ : Aside0 (Kd.R Kd.string 9 w100 w.heap.size (fun k_ => (w.heap.size ≤ k_)) (.slice Ao97 t397.length co97) t397) := ⟨(by rw [hw]; exact (by (with_reducible repeat (first | apply Kd.R_alloc | apply Kd.R_drewN | apply Kd.R_drew)); exact Kd.R_mono (Kd.R_far (p := ⟨gb394, 1, none⟩) (Kd.R_far (p := ⟨gb394, 0, none⟩) (Kd.R_types HO399.out BK394.out (by decide)) (fun _ hk => hk.2) (.slice Ao97 t397.length co97)) (fun _ hk => hk.2) (.slice Ao99 t400.length co99)) (fun _ hk => hk.1.1)))⟩; have n2_ : Aside0 (Kd.R k52 52 w100 w.heap.size (fun k_ => (w.heap.size ≤ k_)) (.slice Ao99 t400.length co99) t400) := ⟨(by rw [hw]; exact (by (with_reducible repeat (first | apply Kd.R_alloc | apply Kd.R_drewN | apply Kd.R_drew)); exact Kd.R_mono (Kd.R_far (p := ⟨gb394, 1, none⟩) (Kd.R_far (p := ⟨gb394, 0, none⟩) (Kd.R_types HO402.out BK394.out (by decide)) (fun _ hk => hk.2) (.slice Ao97 t397.length co97)) (fun _ hk => hk.2) (.slice Ao99 t400.length co99)) (fun _ hk => hk.1.1)))⟩; have n3_ : Aside0 (w100.heap[gb394]? = some (.cells #[.slice Ao97 t397.length co97, .slice Ao99 t400.length co99] 25 (0, 0))) := ⟨(by rw [hw]; exact (by (with_reducible repeat (first | refine blk_drewN ?_ _ | refine blk_drew ?_ | refine blk_alloc ?_ _)); refine blk_put (cs := #[.slice Ao97 t397.length co97, .slice A0_1 l0_1.length c0_1]) ?_ 1 _ rfl; (with_reducible repeat (first | refine blk_drewN ?_ _ | refine blk_drew ?_ | refine blk_alloc ?_ _)); refine blk_put (cs := #[.slice A0_0 l0_0.length c0_0, .slice A0_1 l0_1.length c0_1]) ?_ 0 _ rfl; exact bk_ BK394.out))⟩; have n4_ : Aside0 (w100.heap[gb395]? = some (.cells #[.bool true, .int .i64 a2_1, .slice A2_2 l2_2.length c2_2] 45 (0, 0))) := ⟨(by rw [hw]; exact (by (with_reducible repeat (first | refine blk_drewN ?_ _ | refine blk_drew ?_ | refine blk_alloc ?_ _)); refine blk_far ?_ NB395_394.out _; (with_reducible repeat (first | refine blk_drewN ?_ _ | refine blk_drew ?_ | refine blk_alloc ?_ _)); refine blk_far ?_ NB395_394.out _; exact bk_ BK395.out))⟩; have n5_ : Aside0 (Below w.heap.size w w100) := ⟨(by rw [hw]; exact (bt_ HB.out GE394.out GE395.out))⟩; clear hw; clear HO1; clear HO399; clear HO402; clear BK394; clear BK395; clear HB; have HO1 := n0_; have HO399 := n1_; have HO402 := n2_; have BK394 := n3_; have BK395 := n4_; have HB := n5_; clear n0_ n1_ n2_ n3_ n4_ n5_; have q101 : (6 : Int) ≤ ((l1.length : Int) : Int) := of_decide_eq_true as_; obtain ⟨i0101, hi0101, _, hsz101, _⟩ := info_parts info3; have hroom101 : l1.length ≤ c1 := (Kd.V_reads' HO1.out).2.1; have hC101 : Kd.F (Kd.int .i64) _ _ A1 l1.length l1 := (Kd.V_at (base := w.heap.size) HO1.out).2.2; have hcut101 := cut_to (P := Try.prog) 29 3 .i64 Try.underlying29 hi0101 A1 l1.length c1 6 (by omega) q101 hroom101; have hr101 := Kd.F_take (m := 6) hC101 (by omega); have hy101 : y403.length = (6 : Int).toNat := (by rw [Ny403.out, List.length_take]; omega); rw [← Ny403.out] at hr101; rw [← hy101] at hcut101; have HO407 := Aside0.mk (show Kd.V (Kd.int .i64) 3 _ w.heap.size _ (.slice A1 y403.length c1) y403 from Kd.V_mk (by omega) hr101); have HC407 := Aside0.mk (show y403.length ≤ c1 from by omega); clear hr101 hC101 hroom101 hi0101 hsz101; have KY101 := Aside0.mk hy101; clear hy101; replace q101 := eq_true q101; have hcz102_0 : w100.cell? ⟨gb395, 0, none⟩ = some (.bool true) := (blk_cell BK395.out 0).trans rfl; have hcz102_1 : w100.cell? ⟨gb395, 1, none⟩ = some (.int .i64 a2_1) := (blk_cell BK395.out 1).trans rfl; have hcz102_2 : w100.cell? ⟨gb395, 2, none⟩ = some (.slice A2_2 l2_2.length c2_2) := (blk_cell BK395.out 2).trans rfl; have hfz102_0 := blk_frozen BK395.out 0; have hfz102_1 := blk_frozen BK395.out 1; have hfz102_2 := blk_frozen BK395.out 2; have hcz103_0 : w100.cell? ⟨gb394, 0, none⟩ = some (.slice Ao97 t397.length co97) := (blk_cell BK394.out 0).trans rfl; have hcz103_1 : w100.cell? ⟨gb394, 1, none⟩ = some (.slice Ao99 t400.length co99) := (blk_cell BK394.out 1).trans rfl; have hfz103_0 := blk_frozen BK394.out 0; have hfz103_1 := blk_frozen BK394.out 1))
      have n0_ := Aside0.mk (Kd.V_drew HO1.out)
      have n1_ := Aside0.mk (Kd.R_drew HO399.out)
      have n2_ := Aside0.mk (Kd.R_drew HO402.out)
      have n3_ := Aside0.mk (Kd.V_drew HO407.out)
      have n4_ := Aside0.mk (blk_drew BK394.out)
      have n5_ := Aside0.mk (blk_drew BK395.out)
      have n6_ := Aside0.mk (below_drew1 HB.out)
      clear HO1
      clear HO399
      clear HO402
      clear HO407
      clear BK394
      clear BK395
      clear HB
      have HO1 := n0_
      have HO399 := n1_
      have HO402 := n2_
      have HO407 := n3_
      have BK394 := n4_
      have BK395 := n5_
      have HB := n6_
      clear n0_ n1_ n2_ n3_ n4_ n5_ n6_
      refine start_ (n := 8) (S := fun w' => w'.cell? ⟨gb394, 0, none⟩ = some (.slice Ao97 t397.length co97) ∧ w'.cell? ⟨gb394, 1, none⟩ = some (.slice Ao99 t400.length co99)) (ds := []) #[false, false, false, false, false, false, false, false] (by kernel_rfl) rfl rfl ⟨(blk_cell BK394.out 0).trans rfl, (blk_cell BK394.out 1).trans rfl⟩ (fun hHeld => ?_); refine with_tabW topiarylaw15_TreePaths.tab16 topiarylaw15_TreePaths.bits16 (fun HT_ HW_ => ?_)
      generalize w100.drew = w104 at HO1 HO399 HO402 HO407 BK394 BK395 HB hHeld ⊢
      refine pure_ (i := 1) (N := some 76) (v := ?_) (a' := ?_) #[false, true, false, false, false, false, false, false] rfl rfl (any_of HT_.out (by kernel_rfl)) (fun _ _ _ h => h) (Or.inl ⟨by rfl, ?_⟩) ?_ ?_
      rotate_left
      ·intro w'
       go_simp
       with_reducible rfl
      rotate_left
      ·simp only [Act.put, List.setIfInBounds_toArray, List.set_cons_zero, List.set_cons_succ, i64_w, i32_w]
       rfl
      refine pure_ (i := 4) (N := some 79) (v := ?_) (a' := ?_) #[false, true, false, false, true, false, false, false] rfl rfl (any_of HT_.out (by kernel_rfl)) (fun _ _ _ h => h) (Or.inl ⟨by rfl, ?_⟩) ?_ ?_
      rotate_left
      ·intro w'
       go_simp
       with_reducible rfl
      rotate_left
      ·simp only [Act.put, List.setIfInBounds_toArray, List.set_cons_zero, List.set_cons_succ, i64_w, i32_w]
       rfl
      refine take_ (i := 0) (N := some 75) (v := ?_) (a' := ?_) #[true, true, false, false, true, false, false, false] rfl rfl (take_ofW HT_.out HW_.out (by kernel_rfl)) (fun _ _ _ h => h) (Or.inl ⟨by rfl, ?_⟩) hHeld ?_ ?_
      rotate_left
      ·rintro w' ⟨s0, s1⟩
       go_simp
       with_reducible rfl
      rotate_left
      ·simp only [Act.put, List.setIfInBounds_toArray, List.set_cons_zero, List.set_cons_succ, i64_w, i32_w]
       rfl
      refine take_ (i := 3) (N := some 78) (v := ?_) (a' := ?_) #[true, true, false, true, true, false, false, false] rfl rfl (take_ofW HT_.out HW_.out (by kernel_rfl)) (fun _ _ _ h => h) (Or.inl ⟨by rfl, ?_⟩) hHeld ?_ ?_
      rotate_left
      ·rintro w' ⟨s0, s1⟩
       go_simp
       with_reducible rfl
      rotate_left
      ·simp only [Act.put, List.setIfInBounds_toArray, List.set_cons_zero, List.set_cons_succ, i64_w, i32_w]
       rfl
      refine one_ (i := 2) (N := some 77) #[true, true, true, true, true, false, false, false] rfl rfl (one_of HT_.out (by kernel_rfl)) (by decide) (fun K hK => ?_)
      refine goes_ Try.func30 (by kernel_rfl) rfl #[.agg #[.slice Ao97 t397.length co97, .slice Ao99 t400.length co99], .slice A1 y403.length c1] (by rfl) rfl rfl ar_ ?_
      with_reducible refine (tree_Paths.calls k _ _ t397 _ _ t400 (fun k_ => ((P1_ k_ ∨ w.heap.size ≤ k_) ∧ (some k_ ≠ (.slice Ao97 t397.length co97 : Value).ownBlock ∧ (some k_ ≠ (.slice Ao99 t400.length co99 : Value).ownBlock ∧ (k_ ≠ gb394 ∧ k_ ≠ gb395))))) _ _ y403 t439 _ ?side1 ?side2 ?side3 ?side4 ?side5 A87.out).mono ?_
      (case side1 => exact cc_ (Kd.R_reads' HO399.out).2.2)
      (case side2 => exact (Kd.R_reads' HO399.out).2.1)
      (case side3 => exact cc_ (Kd.R_reads' HO402.out).2.2)
      (case side4 => exact (Kd.R_reads' HO402.out).2.1)
      (case side5 => exact HO407.out)
      rintro e w105 ⟨v440, rfl, ho0, hb⟩
      refine ⟨_, rfl, ?_⟩
      have n0_ := Aside0.mk (Kd.V_elder' (vv_ HO1.out) (Kd.R_base ho0) hb)
      have n1_ := Aside0.mk (Kd.R_below (rr_ HO399.out) hb)
      have n2_ := Aside0.mk (Kd.R_below (rr_ HO402.out) hb)
      have n3_ := Aside0.mk (Kd.V_elder' (vv_ HO407.out) (Kd.R_base ho0) hb)
      have n4_ := Aside0.mk (Kd.R_lower (Kd.R_newM (M := fun k_ => (w.heap.size ≤ k_)) (Kd.R_mono (ok' := fun k_ => True) ho0 (fun _ hk_ => trivial)) (below_size (bt_ HB.out GE394.out GE395.out)) (fun k_ h_ => h_)) (below_size (bt_ HB.out GE394.out GE395.out)))
      have n5_ := Aside0.mk (blk_below (g := gb394) (o := .cells #[.slice Ao97 t397.length co97, .slice Ao99 t400.length co99] 25 (0, 0)) (bk_ BK394.out) hb)
      have n6_ := Aside0.mk (blk_below (g := gb395) (o := .cells #[.bool true, .int .i64 a2_1, .slice A2_2 l2_2.length c2_2] 45 (0, 0)) (bk_ BK395.out) hb)
      have n7_ := Aside0.mk (below_step (bt_ HB.out GE394.out GE395.out) hb)
      clear HO1
      clear HO399
      clear HO402
      clear HO407
      clear BK394
      clear BK395
      clear HB
      have HO1 := n0_
      have HO399 := n1_
      have HO402 := n2_
      have HO407 := n3_
      have HO441 := n4_
      have BK394 := n5_
      have BK395 := n6_
      have HB := n7_
      clear n0_ n1_ n2_ n3_ n4_ n5_ n6_ n7_
      (try clear hb)
      (try clear hb2)
      (try clear hk)
      (try clear hi)
      (try clear ho0)
      refine hK.out _ _ ⟨(blk_cell BK394.out 0).trans rfl, (blk_cell BK394.out 1).trans rfl⟩ (fun hHeld => ?_)
      clear hK K
      refine norm_ (a' := ?_) ?_ ?_
      rotate_left
      ·show Act.put _ (some 77) _ = _
       simp only [Act.put, List.setIfInBounds_toArray, List.set_cons_zero, List.set_cons_succ, i64_w, i32_w]
       rfl
      refine one_ (i := 5) (N := some 80) #[true, true, true, true, true, true, false, false] rfl rfl (one_of HT_.out (by kernel_rfl)) (by decide) (fun K hK => ?_)
      refine goes_ Try.func31 (by kernel_rfl) rfl #[.agg #[.slice Ao97 t397.length co97, .slice Ao99 t400.length co99], .slice A1 y403.length c1] (by rfl) rfl rfl ar_ ?_
      with_reducible refine (topiaryref15_Paths.calls k _ _ t397 _ _ t400 _ _ y403 t442 _ ?side1 ?side2 ?side3 ?side4 ?side5 ?side6 A88.out).mono ?_
      (case side1 => exact cc_ (Kd.R_reads' HO399.out).2.2)
      (case side2 => exact (Kd.R_reads' HO399.out).2.1)
      (case side3 => exact cc_ (Kd.R_reads' HO402.out).2.2)
      (case side4 => exact (Kd.R_reads' HO402.out).2.1)
      (case side5 => exact cc_ (Kd.V_reads' HO407.out).2.2)
      (case side6 => exact (Kd.V_reads' HO407.out).2.1)
      rintro e w106 ⟨v443, rfl, ho0, hb⟩
      refine ⟨_, rfl, ?_⟩
      have n0_ := Aside0.mk (Kd.V_elder' (vv_ HO1.out) (Kd.R_base ho0) hb)
      have n1_ := Aside0.mk (Kd.R_below (rr_ HO399.out) hb)
      have n2_ := Aside0.mk (Kd.R_below (rr_ HO402.out) hb)
      have n3_ := Aside0.mk (Kd.V_elder' (vv_ HO407.out) (Kd.R_base ho0) hb)
      have n4_ := Aside0.mk (Kd.R_elder' (rr_ HO441.out) (Kd.R_base ho0) hb)
      have n5_ := Aside0.mk (Kd.R_lower (Kd.R_new' (Kd.R_newM (M := fun k_ => (w.heap.size ≤ k_)) ho0 (below_size (bt_ HB.out GE394.out GE395.out)) (fun k_ h_ => h_)) (Kd.R_lt (rr_ HO441.out))) (below_size (bt_ HB.out GE394.out GE395.out)))
      have n6_ := Aside0.mk (blk_below (g := gb394) (o := .cells #[.slice Ao97 t397.length co97, .slice Ao99 t400.length co99] 25 (0, 0)) (bk_ BK394.out) hb)
      have n7_ := Aside0.mk (blk_below (g := gb395) (o := .cells #[.bool true, .int .i64 a2_1, .slice A2_2 l2_2.length c2_2] 45 (0, 0)) (bk_ BK395.out) hb)
      have n8_ := Aside0.mk (below_step (bt_ HB.out GE394.out GE395.out) hb)
      clear HO1
      clear HO399
      clear HO402
      clear HO407
      clear HO441
      clear BK394
      clear BK395
      clear HB
      have HO1 := n0_
      have HO399 := n1_
      have HO402 := n2_
      have HO407 := n3_
      have HO441 := n4_
      have HO444 := n5_
      have BK394 := n6_
      have BK395 := n7_
      have HB := n8_
      clear n0_ n1_ n2_ n3_ n4_ n5_ n6_ n7_ n8_
      (try clear hb)
      (try clear hb2)
      (try clear hk)
      (try clear hi)
      (try clear ho0)
      obtain ⟨Ao107, co107, eo107⟩ := Kd.R_slice HO441.out
      (first | subst eo107 | (injection eo107 with f1_ f2_ f3_; have f4_ := f1_.symm; have f5_ := f3_.symm; clear f1_ f2_ f3_; subst f4_; subst f5_))
      obtain ⟨Ao108, co108, eo108⟩ := Kd.R_slice HO444.out
      (first | subst eo108 | (injection eo108 with f1_ f2_ f3_; have f4_ := f1_.symm; have f5_ := f3_.symm; clear f1_ f2_ f3_; subst f4_; subst f5_))
      refine hK.out _ _ ⟨(blk_cell BK394.out 0).trans rfl, (blk_cell BK394.out 1).trans rfl⟩ (fun hHeld => ?_)
      clear hK K
      refine norm_ (a' := ?_) ?_ ?_
      rotate_left
      ·show Act.put _ (some 80) _ = _
       simp only [Act.put, List.setIfInBounds_toArray, List.set_cons_zero, List.set_cons_succ, i64_w, i32_w]
       rfl
      refine one_ (i := 6) (N := some 81) #[true, true, true, true, true, true, true, false] rfl rfl (one_of HT_.out (by kernel_rfl)) (by decide) (fun K hK => ?_)
      refine goes_ Try.func13 (by kernel_rfl) rfl #[.slice Ao107 t439.length co107, .slice Ao108 t442.length co108] (by rfl) rfl rfl ar_ ?_
      with_reducible refine (topiaryref02_Same.calls k _ _ t439 _ _ t442 t445 _ ?side1 ?side2 ?side3 ?side4 A89.out).mono ?_
      (case side1 => exact cc_ (Kd.R_reads' HO441.out).2.2)
      (case side2 => exact (Kd.R_reads' HO441.out).2.1)
      (case side3 => exact cc_ (Kd.R_reads' HO444.out).2.2)
      (case side4 => exact (Kd.R_reads' HO444.out).2.1)
      rintro e w' ⟨rfl, ⟨nd, rfl⟩⟩
      refine ⟨_, rfl, ?_⟩
      refine hK.out _ _ ⟨(blk_cell BK394.out 0).trans rfl, (blk_cell BK394.out 1).trans rfl⟩ (fun hHeld => ?_)
      clear hK K
      refine norm_ (a' := ?_) ?_ ?_
      rotate_left
      ·show Act.put _ (some 81) _ = _
       simp only [Act.put, List.setIfInBounds_toArray, List.set_cons_zero, List.set_cons_succ, i64_w, i32_w]
       rfl
      refine pure_ (i := 7) (N := some 12) (v := ?_) (a' := ?_) #[true, true, true, true, true, true, true, true] rfl rfl (any_of HT_.out (by kernel_rfl)) (fun _ _ _ h => h) (Or.inl ⟨by rfl, ?_⟩) ?_ ?_
      rotate_left
      ·intro w'
       go_simp
       with_reducible rfl
      rotate_left
      ·simp only [Act.put, List.setIfInBounds_toArray, List.set_cons_zero, List.set_cons_succ, i64_w, i32_w]
       rfl
      refine done_ (done_of HT_.out (by kernel_rfl)) ?_
      try go_wp2
      go_ret
      exact ⟨by first | rfl | (simp [errW_none, errW_some] <;> rfl) | (simp [*, errW_none, errW_some] <;> rfl), bt_ HB.out GE394.out GE395.out⟩
     ·replace c90 := Bool.eq_false_iff.mpr c90
      subst c90
      rw [if_neg (show ¬ (false = true) by decide)] at H
      have H1 := H
      clear H
      have H := H1
      clear H1
      exact absurd ((Option.some.inj H).trans HRT.out) (by decide)
   ·replace c8 := Bool.eq_false_iff.mpr c8
    subst c8
    rw [if_neg (show ¬ (false = true) by decide)] at H
    have H1 := H
    clear H
    have H := H1
    clear H1
    replace H := Option.bind_eq_some_iff.mp H
    obtain ⟨t446, A1270, H⟩ := H
    try dsimp only at H
    have A127 := Aside0.mk A1270
    clear A1270
    replace H := Option.bind_eq_some_iff.mp H
    obtain ⟨t449, A1280, H⟩ := H
    try dsimp only at H
    have A128 := Aside0.mk A1280
    clear A1280
    replace H := Option.bind_eq_some_iff.mp H
    obtain ⟨t452, A1290, H⟩ := H
    try dsimp only at H
    have A129 := Aside0.mk A1290
    clear A1290
    by_cases c130 : t396 = true
    ·subst c130
     rw [if_pos rfl] at H
     have H1 := H
     clear H
     have H := H1
     clear H1
     obtain rfl := Option.some.inj H
     go_enter Try.func6, Try.ntmps6
     try go_wp2_with (first | ((with_reducible refine gate_dst (N := 3) rfl ?_); (try (refine gate_guard (by rfl) ?_; dsimp only)); refine box_event ?hg (N := 3) ?hd (cs := #[.slice A0_0 l0_0.length c0_0, .slice A0_1 l0_1.length c0_1]) (t := 25) ?hr ?_; (case hd => rfl); (case hg => rfl); (case hr => first | (go_simp; done) | (go_simp; rfl)); intro gb394 hg w131 hbox hb; have n0_ := Aside0.mk (Kd.V_below (Kd.V_elderB (vv_ HO1.out) gb394 (Nat.le_of_eq hg.symm)) hb); have n1_ := Aside0.mk (below_step (bb_ HB.out) hb); have n2_ := Aside0.mk (hbox); have n3_ := Aside0.mk ((by rw [hg]; exact (below_size (bb_ HB.out)) : w.heap.size ≤ gb394)); have n4_ := Aside0.mk ((by rw [hg]; exact (below_size (bb_ HB.out)) : w.heap.size ≤ gb394)); clear HO1; clear HB; have HO1 := n0_; have HB := n1_; have BK394 := n2_; have GW394 := n3_; have GE394 := n4_; clear n0_ n1_ n2_ n3_ n4_; clear hb hbox hg) | ((with_reducible refine gate_dst (N := 5) rfl ?_); (try (refine gate_guard (by rfl) ?_; dsimp only)); refine box_event ?hg (N := 5) ?hd (cs := #[.bool false, .int .i64 a2_1, .slice A2_2 l2_2.length c2_2]) (t := 45) ?hr ?_; (case hd => rfl); (case hg => rfl); (case hr => first | (go_simp; done) | (go_simp; rfl)); intro gb395 hg w132 hbox hb; have n0_ := Aside0.mk (Kd.V_below (Kd.V_elderB (vv_ HO1.out) gb395 (Nat.le_of_eq hg.symm)) hb); have n1_ := Aside0.mk (blk_below (g := gb394) (o := .cells #[.slice A0_0 l0_0.length c0_0, .slice A0_1 l0_1.length c0_1] 25 (0, 0)) (bk_ BK394.out) hb); have n2_ := Aside0.mk (below_step (bs_ HB.out GE394.out) hb); have n3_ := Aside0.mk (hbox); have n4_ := Aside0.mk ((by rw [hg]; exact (below_size (bs_ HB.out GE394.out)) : w.heap.size ≤ gb395)); have n5_ := Aside0.mk ((by rw [hg]; exact (below_size (bs_ HB.out GE394.out)) : w.heap.size ≤ gb395)); have n6_ := Aside0.mk ((by rw [hg]; exact Nat.ne_of_lt (blk_lt (g := gb394) (o := .cells #[.slice A0_0 l0_0.length c0_0, .slice A0_1 l0_1.length c0_1] 25 (0, 0)) (bk_ BK394.out)) : gb394 ≠ gb395)); have n7_ := Aside0.mk ((by rw [hg]; exact Nat.ne_of_gt (blk_lt (g := gb394) (o := .cells #[.slice A0_0 l0_0.length c0_0, .slice A0_1 l0_1.length c0_1] 25 (0, 0)) (bk_ BK394.out)) : gb395 ≠ gb394)); clear HO1; clear BK394; clear HB; have HO1 := n0_; have BK394 := n1_; have HB := n2_; have BK395 := n3_; have GW395 := n4_; have GE395 := n5_; have NB394_395 := n6_; have NB395_394 := n7_; clear n0_ n1_ n2_ n3_ n4_ n5_ n6_ n7_; clear hb hbox hg) | ((with_reducible refine gate_callee (f := 9) rfl ?_); refine goesL_ (some 13) rfl rfl Try.func9 (by kernel_rfl) rfl #[] rfl ar_ ?_; (with_reducible refine (topiarylaw15_awake.calls k  true _ A4.out).mono ?_); rintro e w133 ⟨rfl, hb⟩; refine ⟨_, rfl, ?_⟩; have n0_ := Aside0.mk (Kd.V_below (vv_ HO1.out) hb); have n1_ := Aside0.mk (blk_below (g := gb394) (o := .cells #[.slice A0_0 l0_0.length c0_0, .slice A0_1 l0_1.length c0_1] 25 (0, 0)) (bk_ BK394.out) hb); have n2_ := Aside0.mk (blk_below (g := gb395) (o := .cells #[.bool false, .int .i64 a2_1, .slice A2_2 l2_2.length c2_2] 45 (0, 0)) (bk_ BK395.out) hb); have n3_ := Aside0.mk (below_step (bt_ HB.out GE394.out GE395.out) hb); clear HO1; clear BK394; clear BK395; clear HB; have HO1 := n0_; have BK394 := n1_; have BK395 := n2_; have HB := n3_; clear n0_ n1_ n2_ n3_; (try clear hb); (try clear hb2); (try clear hk); (try clear hi); have hnb134 := NB394_395.out; have hnc134 := NB395_394.out; have hcz135_0 : w133.cell? ⟨gb394, 0, none⟩ = some (.slice A0_0 l0_0.length c0_0) := (blk_cell BK394.out 0).trans rfl; have hcz135_1 : w133.cell? ⟨gb394, 1, none⟩ = some (.slice A0_1 l0_1.length c0_1) := (blk_cell BK394.out 1).trans rfl; have hfz135_0 := blk_frozen BK394.out 0; have hfz135_1 := blk_frozen BK394.out 1) | ((with_reducible refine gate_callee (f := 10) rfl ?_); refine goesL_ (some 15) rfl rfl Try.func10 (by kernel_rfl) rfl #[.agg #[.slice A0_0 l0_0.length c0_0, .slice A0_1 l0_1.length c0_1]] rfl ar_ ?_; (with_reducible refine (topiarylaw15_small.calls k _ _ l0_0 _ _ l0_1 t397 t400 _ ?side1 ?side2 ?side3 ?side4 A5.out).mono ?_); (case side1 => exact cc_ (Kd.C_below HR0_0.out HB.out)); (case side2 => exact HC0_0.out); (case side3 => exact cc_ (Kd.C_below HR0_1.out HB.out)); (case side4 => exact HC0_1.out); rintro e w136 ⟨v398, v401, rfl, ho0, ho1, hb⟩; refine ⟨_, rfl, ?_⟩; have n0_ := Aside0.mk (Kd.V_mono (Kd.V_told (Kd.V_told (Kd.V_old (vv_ HO1.out) hb) (Kd.R_base ho0)) (Kd.R_base ho1)) (fun _ h_ => h_.1)); have n1_ := Aside0.mk (Kd.R_lower (Kd.R_newM (M := fun k_ => (w.heap.size ≤ k_)) ho0 (below_size (bt_ HB.out GE394.out GE395.out)) (fun k_ h_ => h_)) (below_size (bt_ HB.out GE394.out GE395.out))); have n2_ := Aside0.mk (Kd.R_lower (Kd.R_newM (M := fun k_ => (w.heap.size ≤ k_)) ho1 (below_size (bt_ HB.out GE394.out GE395.out)) (fun k_ h_ => h_)) (below_size (bt_ HB.out GE394.out GE395.out))); have n3_ := Aside0.mk (blk_below (g := gb394) (o := .cells #[.slice A0_0 l0_0.length c0_0, .slice A0_1 l0_1.length c0_1] 25 (0, 0)) (bk_ BK394.out) hb); have n4_ := Aside0.mk (blk_below (g := gb395) (o := .cells #[.bool false, .int .i64 a2_1, .slice A2_2 l2_2.length c2_2] 45 (0, 0)) (bk_ BK395.out) hb); have n5_ := Aside0.mk (below_step (bt_ HB.out GE394.out GE395.out) hb); clear HO1; clear BK394; clear BK395; clear HB; have HO1 := n0_; have HO399 := n1_; have HO402 := n2_; have BK394 := n3_; have BK395 := n4_; have HB := n5_; clear n0_ n1_ n2_ n3_ n4_ n5_; (try clear hb); (try clear hb2); (try clear hk); (try clear hi); (try clear ho0); (try clear ho1); obtain ⟨Ao137, co137, eo137⟩ := Kd.R_slice HO399.out; subst eo137; have hcz138_0 : w136.cell? ⟨gb394, 0, none⟩ = some (.slice A0_0 l0_0.length c0_0) := (blk_cell BK394.out 0).trans rfl; have hcz138_1 : w136.cell? ⟨gb394, 1, none⟩ = some (.slice A0_1 l0_1.length c0_1) := (blk_cell BK394.out 1).trans rfl; have hfz138_0 := blk_frozen BK394.out 0; have hfz138_1 := blk_frozen BK394.out 1; obtain ⟨Ao139, co139, eo139⟩ := Kd.R_slice HO402.out; subst eo139) | ((with_reducible refine gate_store (t := 25) (p := 3) rfl ?_); refine store_event (t := 25) (p := 3) (v := ?vo_w140) (w1 := ((w136.setCell ⟨gb394, 0, none⟩ (.slice Ao137 t397.length co137)).setCell ⟨gb394, 1, none⟩ (.slice Ao139 t400.length co139))) ?hg ?ho ?hn ?hr ?_; (case ho => rfl); (case hg => rfl); (case hn => rfl); (case hr => first | (go_simp; done) | (go_simp; rfl)); intro w140 hw; have n0_ : Aside0 (Kd.V (Kd.int .i64) 3 w140 w.heap.size (fun k_ => (P1_ k_ ∨ w.heap.size ≤ k_) ∧ some k_ ≠ (.slice Ao137 t397.length co137 : Value).ownBlock ∧ some k_ ≠ (.slice Ao139 t400.length co139 : Value).ownBlock ∧ k_ ≠ gb394 ∧ k_ ≠ gb395) (.slice A1 l1.length c1) l1) := ⟨(by rw [hw]; exact (by (with_reducible repeat (first | apply Kd.V_alloc | apply Kd.V_drewN | apply Kd.V_drew)); exact Kd.V_mono (Kd.V_far (p := ⟨gb394, 1, none⟩) (Kd.V_far (p := ⟨gb394, 0, none⟩) (Kd.V_mono HO1.out (fun k_ hk => (⟨hk, hk.1.1.1.2⟩ : _ ∧ k_ ≠ gb394))) (fun _ hk => hk.2) (.slice Ao137 t397.length co137)) (fun _ hk => hk.2) (.slice Ao139 t400.length co139)) (fun _ hk => ⟨hk.1.1.1.1.1, ⟨hk.1.1.2, ⟨hk.1.2, ⟨hk.1.1.1.1.2, hk.1.1.1.2⟩⟩⟩⟩)))⟩; have n1_ : Aside0 (Kd.R Kd.string 9 w140 w.heap.size (fun k_ => (w.heap.size ≤ k_)) (.slice Ao137 t397.length co137) t397) := ⟨(by rw [hw]; exact (by (with_reducible repeat (first | apply Kd.R_alloc | apply Kd.R_drewN | apply Kd.R_drew)); exact Kd.R_mono (Kd.R_far (p := ⟨gb394, 1, none⟩) (Kd.R_far (p := ⟨gb394, 0, none⟩) (Kd.R_types HO399.out BK394.out (by decide)) (fun _ hk => hk.2) (.slice Ao137 t397.length co137)) (fun _ hk => hk.2) (.slice Ao139 t400.length co139)) (fun _ hk => hk.1.1)))⟩; have n2_ : Aside0 (Kd.R k52 52 w140 w.heap.size (fun k_ => (w.heap.size ≤ k_)) (.slice Ao139 t400.length co139) t400) := ⟨(by rw [hw]; exact (by (with_reducible repeat (first | apply Kd.R_alloc | apply Kd.R_drewN | apply Kd.R_drew)); exact Kd.R_mono (Kd.R_far (p := ⟨gb394, 1, none⟩) (Kd.R_far (p := ⟨gb394, 0, none⟩) (Kd.R_types HO402.out BK394.out (by decide)) (fun _ hk => hk.2) (.slice Ao137 t397.length co137)) (fun _ hk => hk.2) (.slice Ao139 t400.length co139)) (fun _ hk => hk.1.1)))⟩; have n3_ : Aside0 (w140.heap[gb394]? = some (.cells #[.slice Ao137 t397.length co137, .slice Ao139 t400.length co139] 25 (0, 0))) := ⟨(by rw [hw]; exact (by (with_reducible repeat (first | refine blk_drewN ?_ _ | refine blk_drew ?_ | refine blk_alloc ?_ _)); refine blk_put (cs := #[.slice Ao137 t397.length co137, .slice A0_1 l0_1.length c0_1]) ?_ 1 _ rfl; (with_reducible repeat (first | refine blk_drewN ?_ _ | refine blk_drew ?_ | refine blk_alloc ?_ _)); refine blk_put (cs := #[.slice A0_0 l0_0.length c0_0, .slice A0_1 l0_1.length c0_1]) ?_ 0 _ rfl; exact bk_ BK394.out))⟩; have n4_ : Aside0 (w140.heap[gb395]? = some (.cells #[.bool false, .int .i64 a2_1, .slice A2_2 l2_2.length c2_2] 45 (0, 0))) := ⟨(by rw [hw]; exact (by (with_reducible repeat (first | refine blk_drewN ?_ _ | refine blk_drew ?_ | refine blk_alloc ?_ _)); refine blk_far ?_ NB395_394.out _; (with_reducible repeat (first | refine blk_drewN ?_ _ | refine blk_drew ?_ | refine blk_alloc ?_ _)); refine blk_far ?_ NB395_394.out _; exact bk_ BK395.out))⟩; have n5_ : Aside0 (Below w.heap.size w w140) := ⟨(by rw [hw]; exact (bt_ HB.out GE394.out GE395.out))⟩; clear hw; clear HO1; clear HO399; clear HO402; clear BK394; clear BK395; clear HB; have HO1 := n0_; have HO399 := n1_; have HO402 := n2_; have BK394 := n3_; have BK395 := n4_; have HB := n5_; clear n0_ n1_ n2_ n3_ n4_ n5_; have q141 : (6 : Int) ≤ ((l1.length : Int) : Int) := of_decide_eq_true as_; obtain ⟨i0141, hi0141, _, hsz141, _⟩ := info_parts info3; have hroom141 : l1.length ≤ c1 := (Kd.V_reads' HO1.out).2.1; have hC141 : Kd.F (Kd.int .i64) _ _ A1 l1.length l1 := (Kd.V_at (base := w.heap.size) HO1.out).2.2; have hcut141 := cut_to (P := Try.prog) 29 3 .i64 Try.underlying29 hi0141 A1 l1.length c1 6 (by omega) q141 hroom141; have hr141 := Kd.F_take (m := 6) hC141 (by omega); have hy141 : y403.length = (6 : Int).toNat := (by rw [Ny403.out, List.length_take]; omega); rw [← Ny403.out] at hr141; rw [← hy141] at hcut141; have HO407 := Aside0.mk (show Kd.V (Kd.int .i64) 3 _ w.heap.size _ (.slice A1 y403.length c1) y403 from Kd.V_mk (by omega) hr141); have HC407 := Aside0.mk (show y403.length ≤ c1 from by omega); clear hr141 hC141 hroom141 hi0141 hsz141; have KY141 := Aside0.mk hy141; clear hy141; replace q141 := eq_true q141; have hcz142_0 : w140.cell? ⟨gb395, 0, none⟩ = some (.bool false) := (blk_cell BK395.out 0).trans rfl; have hcz142_1 : w140.cell? ⟨gb395, 1, none⟩ = some (.int .i64 a2_1) := (blk_cell BK395.out 1).trans rfl; have hcz142_2 : w140.cell? ⟨gb395, 2, none⟩ = some (.slice A2_2 l2_2.length c2_2) := (blk_cell BK395.out 2).trans rfl; have hfz142_0 := blk_frozen BK395.out 0; have hfz142_1 := blk_frozen BK395.out 1; have hfz142_2 := blk_frozen BK395.out 2))
     have n0_ := Aside0.mk (Kd.V_drew HO1.out)
     have n1_ := Aside0.mk (Kd.R_drew HO399.out)
     have n2_ := Aside0.mk (Kd.R_drew HO402.out)
     have n3_ := Aside0.mk (Kd.V_drew HO407.out)
     have n4_ := Aside0.mk (blk_drew BK394.out)
     have n5_ := Aside0.mk (blk_drew BK395.out)
     have n6_ := Aside0.mk (below_drew1 HB.out)
     clear HO1
     clear HO399
     clear HO402
     clear HO407
     clear BK394
     clear BK395
     clear HB
     have HO1 := n0_
     have HO399 := n1_
     have HO402 := n2_
     have HO407 := n3_
     have BK394 := n4_
     have BK395 := n5_
     have HB := n6_
     clear n0_ n1_ n2_ n3_ n4_ n5_ n6_
     refine start_ (n := 8) (S := fun w' => w'.cell? ⟨gb394, 0, none⟩ = some (.slice Ao137 t397.length co137) ∧ w'.cell? ⟨gb394, 1, none⟩ = some (.slice Ao139 t400.length co139)) (ds := []) #[false, false, false, false, false, false, false, false] (by kernel_rfl) rfl rfl ⟨(blk_cell BK394.out 0).trans rfl, (blk_cell BK394.out 1).trans rfl⟩ (fun hHeld => ?_); refine with_tabW topiarylaw15_TreePaths.tab16 topiarylaw15_TreePaths.bits16 (fun HT_ HW_ => ?_)
     generalize w140.drew = w143 at HO1 HO399 HO402 HO407 BK394 BK395 HB hHeld ⊢
     refine pure_ (i := 1) (N := some 76) (v := ?_) (a' := ?_) #[false, true, false, false, false, false, false, false] rfl rfl (any_of HT_.out (by kernel_rfl)) (fun _ _ _ h => h) (Or.inl ⟨by rfl, ?_⟩) ?_ ?_
     rotate_left
     ·intro w'
      go_simp
      with_reducible rfl
     rotate_left
     ·simp only [Act.put, List.setIfInBounds_toArray, List.set_cons_zero, List.set_cons_succ, i64_w, i32_w]
      rfl
     refine pure_ (i := 4) (N := some 79) (v := ?_) (a' := ?_) #[false, true, false, false, true, false, false, false] rfl rfl (any_of HT_.out (by kernel_rfl)) (fun _ _ _ h => h) (Or.inl ⟨by rfl, ?_⟩) ?_ ?_
     rotate_left
     ·intro w'
      go_simp
      with_reducible rfl
     rotate_left
     ·simp only [Act.put, List.setIfInBounds_toArray, List.set_cons_zero, List.set_cons_succ, i64_w, i32_w]
      rfl
     refine take_ (i := 0) (N := some 75) (v := ?_) (a' := ?_) #[true, true, false, false, true, false, false, false] rfl rfl (take_ofW HT_.out HW_.out (by kernel_rfl)) (fun _ _ _ h => h) (Or.inl ⟨by rfl, ?_⟩) hHeld ?_ ?_
     rotate_left
     ·rintro w' ⟨s0, s1⟩
      go_simp
      with_reducible rfl
     rotate_left
     ·simp only [Act.put, List.setIfInBounds_toArray, List.set_cons_zero, List.set_cons_succ, i64_w, i32_w]
      rfl
     refine take_ (i := 3) (N := some 78) (v := ?_) (a' := ?_) #[true, true, false, true, true, false, false, false] rfl rfl (take_ofW HT_.out HW_.out (by kernel_rfl)) (fun _ _ _ h => h) (Or.inl ⟨by rfl, ?_⟩) hHeld ?_ ?_
     rotate_left
     ·rintro w' ⟨s0, s1⟩
      go_simp
      with_reducible rfl
     rotate_left
     ·simp only [Act.put, List.setIfInBounds_toArray, List.set_cons_zero, List.set_cons_succ, i64_w, i32_w]
      rfl
     refine one_ (i := 2) (N := some 77) #[true, true, true, true, true, false, false, false] rfl rfl (one_of HT_.out (by kernel_rfl)) (by decide) (fun K hK => ?_)
     refine goes_ Try.func30 (by kernel_rfl) rfl #[.agg #[.slice Ao137 t397.length co137, .slice Ao139 t400.length co139], .slice A1 y403.length c1] (by rfl) rfl rfl ar_ ?_
     with_reducible refine (tree_Paths.calls k _ _ t397 _ _ t400 (fun k_ => ((P1_ k_ ∨ w.heap.size ≤ k_) ∧ (some k_ ≠ (.slice Ao137 t397.length co137 : Value).ownBlock ∧ (some k_ ≠ (.slice Ao139 t400.length co139 : Value).ownBlock ∧ (k_ ≠ gb394 ∧ k_ ≠ gb395))))) _ _ y403 t446 _ ?side1 ?side2 ?side3 ?side4 ?side5 A127.out).mono ?_
     (case side1 => exact cc_ (Kd.R_reads' HO399.out).2.2)
     (case side2 => exact (Kd.R_reads' HO399.out).2.1)
     (case side3 => exact cc_ (Kd.R_reads' HO402.out).2.2)
     (case side4 => exact (Kd.R_reads' HO402.out).2.1)
     (case side5 => exact HO407.out)
     rintro e w144 ⟨v447, rfl, ho0, hb⟩
     refine ⟨_, rfl, ?_⟩
     have n0_ := Aside0.mk (Kd.V_elder' (vv_ HO1.out) (Kd.R_base ho0) hb)
     have n1_ := Aside0.mk (Kd.R_below (rr_ HO399.out) hb)
     have n2_ := Aside0.mk (Kd.R_below (rr_ HO402.out) hb)
     have n3_ := Aside0.mk (Kd.V_elder' (vv_ HO407.out) (Kd.R_base ho0) hb)
     have n4_ := Aside0.mk (Kd.R_lower (Kd.R_newM (M := fun k_ => (w.heap.size ≤ k_)) (Kd.R_mono (ok' := fun k_ => True) ho0 (fun _ hk_ => trivial)) (below_size (bt_ HB.out GE394.out GE395.out)) (fun k_ h_ => h_)) (below_size (bt_ HB.out GE394.out GE395.out)))
     have n5_ := Aside0.mk (blk_below (g := gb394) (o := .cells #[.slice Ao137 t397.length co137, .slice Ao139 t400.length co139] 25 (0, 0)) (bk_ BK394.out) hb)
     have n6_ := Aside0.mk (blk_below (g := gb395) (o := .cells #[.bool false, .int .i64 a2_1, .slice A2_2 l2_2.length c2_2] 45 (0, 0)) (bk_ BK395.out) hb)
     have n7_ := Aside0.mk (below_step (bt_ HB.out GE394.out GE395.out) hb)
     clear HO1
     clear HO399
     clear HO402
     clear HO407
     clear BK394
     clear BK395
     clear HB
     have HO1 := n0_
     have HO399 := n1_
     have HO402 := n2_
     have HO407 := n3_
     have HO448 := n4_
     have BK394 := n5_
     have BK395 := n6_
     have HB := n7_
     clear n0_ n1_ n2_ n3_ n4_ n5_ n6_ n7_
     (try clear hb)
     (try clear hb2)
     (try clear hk)
     (try clear hi)
     (try clear ho0)
     refine hK.out _ _ ⟨(blk_cell BK394.out 0).trans rfl, (blk_cell BK394.out 1).trans rfl⟩ (fun hHeld => ?_)
     clear hK K
     refine norm_ (a' := ?_) ?_ ?_
     rotate_left
     ·show Act.put _ (some 77) _ = _
      simp only [Act.put, List.setIfInBounds_toArray, List.set_cons_zero, List.set_cons_succ, i64_w, i32_w]
      rfl
     refine one_ (i := 5) (N := some 80) #[true, true, true, true, true, true, false, false] rfl rfl (one_of HT_.out (by kernel_rfl)) (by decide) (fun K hK => ?_)
     refine goes_ Try.func31 (by kernel_rfl) rfl #[.agg #[.slice Ao137 t397.length co137, .slice Ao139 t400.length co139], .slice A1 y403.length c1] (by rfl) rfl rfl ar_ ?_
     with_reducible refine (topiaryref15_Paths.calls k _ _ t397 _ _ t400 _ _ y403 t449 _ ?side1 ?side2 ?side3 ?side4 ?side5 ?side6 A128.out).mono ?_
     (case side1 => exact cc_ (Kd.R_reads' HO399.out).2.2)
     (case side2 => exact (Kd.R_reads' HO399.out).2.1)
     (case side3 => exact cc_ (Kd.R_reads' HO402.out).2.2)
     (case side4 => exact (Kd.R_reads' HO402.out).2.1)
     (case side5 => exact cc_ (Kd.V_reads' HO407.out).2.2)
     (case side6 => exact (Kd.V_reads' HO407.out).2.1)
     rintro e w145 ⟨v450, rfl, ho0, hb⟩
     refine ⟨_, rfl, ?_⟩
     have n0_ := Aside0.mk (Kd.V_elder' (vv_ HO1.out) (Kd.R_base ho0) hb)
     have n1_ := Aside0.mk (Kd.R_below (rr_ HO399.out) hb)
     have n2_ := Aside0.mk (Kd.R_below (rr_ HO402.out) hb)
     have n3_ := Aside0.mk (Kd.V_elder' (vv_ HO407.out) (Kd.R_base ho0) hb)
     have n4_ := Aside0.mk (Kd.R_elder' (rr_ HO448.out) (Kd.R_base ho0) hb)
     have n5_ := Aside0.mk (Kd.R_lower (Kd.R_new' (Kd.R_newM (M := fun k_ => (w.heap.size ≤ k_)) ho0 (below_size (bt_ HB.out GE394.out GE395.out)) (fun k_ h_ => h_)) (Kd.R_lt (rr_ HO448.out))) (below_size (bt_ HB.out GE394.out GE395.out)))
     have n6_ := Aside0.mk (blk_below (g := gb394) (o := .cells #[.slice Ao137 t397.length co137, .slice Ao139 t400.length co139] 25 (0, 0)) (bk_ BK394.out) hb)
     have n7_ := Aside0.mk (blk_below (g := gb395) (o := .cells #[.bool false, .int .i64 a2_1, .slice A2_2 l2_2.length c2_2] 45 (0, 0)) (bk_ BK395.out) hb)
     have n8_ := Aside0.mk (below_step (bt_ HB.out GE394.out GE395.out) hb)
     clear HO1
     clear HO399
     clear HO402
     clear HO407
     clear HO448
     clear BK394
     clear BK395
     clear HB
     have HO1 := n0_
     have HO399 := n1_
     have HO402 := n2_
     have HO407 := n3_
     have HO448 := n4_
     have HO451 := n5_
     have BK394 := n6_
     have BK395 := n7_
     have HB := n8_
     clear n0_ n1_ n2_ n3_ n4_ n5_ n6_ n7_ n8_
     (try clear hb)
     (try clear hb2)
     (try clear hk)
     (try clear hi)
     (try clear ho0)
     obtain ⟨Ao146, co146, eo146⟩ := Kd.R_slice HO448.out
     (first | subst eo146 | (injection eo146 with f1_ f2_ f3_; have f4_ := f1_.symm; have f5_ := f3_.symm; clear f1_ f2_ f3_; subst f4_; subst f5_))
     obtain ⟨Ao147, co147, eo147⟩ := Kd.R_slice HO451.out
     (first | subst eo147 | (injection eo147 with f1_ f2_ f3_; have f4_ := f1_.symm; have f5_ := f3_.symm; clear f1_ f2_ f3_; subst f4_; subst f5_))
     refine hK.out _ _ ⟨(blk_cell BK394.out 0).trans rfl, (blk_cell BK394.out 1).trans rfl⟩ (fun hHeld => ?_)
     clear hK K
     refine norm_ (a' := ?_) ?_ ?_
     rotate_left
     ·show Act.put _ (some 80) _ = _
      simp only [Act.put, List.setIfInBounds_toArray, List.set_cons_zero, List.set_cons_succ, i64_w, i32_w]
      rfl
     refine one_ (i := 6) (N := some 81) #[true, true, true, true, true, true, true, false] rfl rfl (one_of HT_.out (by kernel_rfl)) (by decide) (fun K hK => ?_)
     refine goes_ Try.func13 (by kernel_rfl) rfl #[.slice Ao146 t446.length co146, .slice Ao147 t449.length co147] (by rfl) rfl rfl ar_ ?_
     with_reducible refine (topiaryref02_Same.calls k _ _ t446 _ _ t449 t452 _ ?side1 ?side2 ?side3 ?side4 A129.out).mono ?_
     (case side1 => exact cc_ (Kd.R_reads' HO448.out).2.2)
     (case side2 => exact (Kd.R_reads' HO448.out).2.1)
     (case side3 => exact cc_ (Kd.R_reads' HO451.out).2.2)
     (case side4 => exact (Kd.R_reads' HO451.out).2.1)
     rintro e w' ⟨rfl, ⟨nd, rfl⟩⟩
     refine ⟨_, rfl, ?_⟩
     refine hK.out _ _ ⟨(blk_cell BK394.out 0).trans rfl, (blk_cell BK394.out 1).trans rfl⟩ (fun hHeld => ?_)
     clear hK K
     refine norm_ (a' := ?_) ?_ ?_
     rotate_left
     ·show Act.put _ (some 81) _ = _
      simp only [Act.put, List.setIfInBounds_toArray, List.set_cons_zero, List.set_cons_succ, i64_w, i32_w]
      rfl
     refine pure_ (i := 7) (N := some 12) (v := ?_) (a' := ?_) #[true, true, true, true, true, true, true, true] rfl rfl (any_of HT_.out (by kernel_rfl)) (fun _ _ _ h => h) (Or.inl ⟨by rfl, ?_⟩) ?_ ?_
     rotate_left
     ·intro w'
      go_simp
      with_reducible rfl
     rotate_left
     ·simp only [Act.put, List.setIfInBounds_toArray, List.set_cons_zero, List.set_cons_succ, i64_w, i32_w]
      rfl
     refine done_ (done_of HT_.out (by kernel_rfl)) ?_
     try go_wp2
     go_ret
     exact ⟨by first | rfl | (simp [errW_none, errW_some] <;> rfl) | (simp [*, errW_none, errW_some] <;> rfl), bt_ HB.out GE394.out GE395.out⟩
    ·replace c130 := Bool.eq_false_iff.mpr c130
     subst c130
     rw [if_neg (show ¬ (false = true) by decide)] at H
     have H1 := H
     clear H
     have H := H1
     clear H1
     exact absurd ((Option.some.inj H).trans HRT.out) (by decide)
  ·rw [if_neg c7] at H
   exact absurd H (by simp)
 ·rw [if_neg c6] at H
  have c6b0 : decide (6 < (l1.length : Int)) = false := decide_eq_false c6
  have c6b1 : decide (6 < l1.length) = false := decide_eq_false (by omega)
  clear c6
  by_cases c165 : a2_0 = true
  ·subst c165
   rw [if_pos rfl] at H
   have H1 := H
   clear H
   have H := H1
   clear H1
   by_cases c166 : (t400.length : Int) > 0
   ·rw [if_pos c166] at H
    have c166b0 : decide (0 < (t400.length : Int)) = true := decide_eq_true c166
    have c166b1 : decide (0 < t400.length) = true := decide_eq_true (by omega)
    clear c166
    by_cases c167 : (t400.length : Int) = 0
    ·rw [if_pos c167] at H
     exact absurd H (by simp)
    ·rw [if_neg c167] at H
     have c167b0 : ((t400.length : Int) == 0) = false := beq_eq_false_iff_ne.mpr c167
     have c167b1 : ((t400.length : Int) != 0) = true := bne_iff_ne.mpr c167
     have c167b2 : ¬ (t400 = []) := fun h_ => c167 (by rw [h_]; rfl)
     replace H := Option.bind_eq_some_iff.mp H
     obtain ⟨t453, A1680, H⟩ := H
     try dsimp only at H
     have A168 := Aside0.mk A1680
     clear A1680
     obtain ⟨y454, hy454⟩ : ∃ y_ : List Int, y_ = (([t453] : List Int)) := ⟨_, rfl⟩
     replace H : ((topiaryref15_Up.f k t397 t400 (Int.tmod (wrap64 ((Int.tmod a2_1 (t400.length : Int)) + (t400.length : Int))) (t400.length : Int))).bind fun t457 => (if y454.length + t457.length < 17592186044416 then (topiarylaw15_TreePaths.l0 k ([] : List Int) t396 (y454 ++ t457) 0 t397 t400 true a2_1 l2_2) else (none))) = some r := by first | (rw [hy454]; with_reducible exact H) | (have H2_ := (Option.bind_some _ _).symm.trans H; rw [hy454]; with_reducible exact H2_) | (have H2_ := (Option.bind_some _ _).symm.trans H; with_reducible exact H2_) | with_reducible exact H | (rw [hy454]; exact H) | exact H
     have Ny454 := Aside0.mk hy454
     clear hy454
     replace H := Option.bind_eq_some_iff.mp H
     obtain ⟨t457, A1690, H⟩ := H
     try dsimp only at H
     have A169 := Aside0.mk A1690
     clear A1690
     by_cases c170 : y454.length + t457.length < 17592186044416
     ·rw [if_pos c170] at H
      have LMc170 := Aside0.mk c170
      clear c170
      obtain ⟨y460, hy460⟩ : ∃ y_ : List Int, y_ = (y454 ++ t457) := ⟨_, rfl⟩
      replace H : (topiarylaw15_TreePaths.l0 k ([] : List Int) t396 y460 0 t397 t400 true a2_1 l2_2) = some r := by first | (rw [hy460]; with_reducible exact H) | (have H2_ := (Option.bind_some _ _).symm.trans H; rw [hy460]; with_reducible exact H2_) | (have H2_ := (Option.bind_some _ _).symm.trans H; with_reducible exact H2_) | with_reducible exact H | (rw [hy460]; exact H) | exact H
      have Ny460 := Aside0.mk hy460
      clear hy460
      have H' := Aside0.mk H
      clear H
      go_enter Try.func6, Try.ntmps6
      try go_wp2_with (first | ((with_reducible refine gate_dst (N := 3) rfl ?_); (try (refine gate_guard (by rfl) ?_; dsimp only)); refine box_event ?hg (N := 3) ?hd (cs := #[.slice A0_0 l0_0.length c0_0, .slice A0_1 l0_1.length c0_1]) (t := 25) ?hr ?_; (case hd => rfl); (case hg => rfl); (case hr => first | (go_simp; done) | (go_simp; rfl)); intro gb394 hg w171 hbox hb; have n0_ := Aside0.mk (Kd.V_below (Kd.V_elderB (vv_ HO1.out) gb394 (Nat.le_of_eq hg.symm)) hb); have n1_ := Aside0.mk (below_step (bb_ HB.out) hb); have n2_ := Aside0.mk (hbox); have n3_ := Aside0.mk ((by rw [hg]; exact (below_size (bb_ HB.out)) : w.heap.size ≤ gb394)); have n4_ := Aside0.mk ((by rw [hg]; exact (below_size (bb_ HB.out)) : w.heap.size ≤ gb394)); clear HO1; clear HB; have HO1 := n0_; have HB := n1_; have BK394 := n2_; have GW394 := n3_; have GE394 := n4_; clear n0_ n1_ n2_ n3_ n4_; clear hb hbox hg) | ((with_reducible refine gate_dst (N := 5) rfl ?_); (try (refine gate_guard (by rfl) ?_; dsimp only)); refine box_event ?hg (N := 5) ?hd (cs := #[.bool true, .int .i64 a2_1, .slice A2_2 l2_2.length c2_2]) (t := 45) ?hr ?_; (case hd => rfl); (case hg => rfl); (case hr => first | (go_simp; done) | (go_simp; rfl)); intro gb395 hg w172 hbox hb; have n0_ := Aside0.mk (Kd.V_below (Kd.V_elderB (vv_ HO1.out) gb395 (Nat.le_of_eq hg.symm)) hb); have n1_ := Aside0.mk (blk_below (g := gb394) (o := .cells #[.slice A0_0 l0_0.length c0_0, .slice A0_1 l0_1.length c0_1] 25 (0, 0)) (bk_ BK394.out) hb); have n2_ := Aside0.mk (below_step (bs_ HB.out GE394.out) hb); have n3_ := Aside0.mk (hbox); have n4_ := Aside0.mk ((by rw [hg]; exact (below_size (bs_ HB.out GE394.out)) : w.heap.size ≤ gb395)); have n5_ := Aside0.mk ((by rw [hg]; exact (below_size (bs_ HB.out GE394.out)) : w.heap.size ≤ gb395)); have n6_ := Aside0.mk ((by rw [hg]; exact Nat.ne_of_lt (blk_lt (g := gb394) (o := .cells #[.slice A0_0 l0_0.length c0_0, .slice A0_1 l0_1.length c0_1] 25 (0, 0)) (bk_ BK394.out)) : gb394 ≠ gb395)); have n7_ := Aside0.mk ((by rw [hg]; exact Nat.ne_of_gt (blk_lt (g := gb394) (o := .cells #[.slice A0_0 l0_0.length c0_0, .slice A0_1 l0_1.length c0_1] 25 (0, 0)) (bk_ BK394.out)) : gb395 ≠ gb394)); clear HO1; clear BK394; clear HB; have HO1 := n0_; have BK394 := n1_; have HB := n2_; have BK395 := n3_; have GW395 := n4_; have GE395 := n5_; have NB394_395 := n6_; have NB395_394 := n7_; clear n0_ n1_ n2_ n3_ n4_ n5_ n6_ n7_; clear hb hbox hg) | ((with_reducible refine gate_callee (f := 9) rfl ?_); refine goesL_ (some 13) rfl rfl Try.func9 (by kernel_rfl) rfl #[] rfl ar_ ?_; (with_reducible refine (topiarylaw15_awake.calls k  t396 _ A4.out).mono ?_); rintro e w173 ⟨rfl, hb⟩; refine ⟨_, rfl, ?_⟩; have n0_ := Aside0.mk (Kd.V_below (vv_ HO1.out) hb); have n1_ := Aside0.mk (blk_below (g := gb394) (o := .cells #[.slice A0_0 l0_0.length c0_0, .slice A0_1 l0_1.length c0_1] 25 (0, 0)) (bk_ BK394.out) hb); have n2_ := Aside0.mk (blk_below (g := gb395) (o := .cells #[.bool true, .int .i64 a2_1, .slice A2_2 l2_2.length c2_2] 45 (0, 0)) (bk_ BK395.out) hb); have n3_ := Aside0.mk (below_step (bt_ HB.out GE394.out GE395.out) hb); clear HO1; clear BK394; clear BK395; clear HB; have HO1 := n0_; have BK394 := n1_; have BK395 := n2_; have HB := n3_; clear n0_ n1_ n2_ n3_; (try clear hb); (try clear hb2); (try clear hk); (try clear hi); have hnb174 := NB394_395.out; have hnc174 := NB395_394.out; have hcz175_0 : w173.cell? ⟨gb394, 0, none⟩ = some (.slice A0_0 l0_0.length c0_0) := (blk_cell BK394.out 0).trans rfl; have hcz175_1 : w173.cell? ⟨gb394, 1, none⟩ = some (.slice A0_1 l0_1.length c0_1) := (blk_cell BK394.out 1).trans rfl; have hfz175_0 := blk_frozen BK394.out 0; have hfz175_1 := blk_frozen BK394.out 1) | ((with_reducible refine gate_callee (f := 10) rfl ?_); refine goesL_ (some 15) rfl rfl Try.func10 (by kernel_rfl) rfl #[.agg #[.slice A0_0 l0_0.length c0_0, .slice A0_1 l0_1.length c0_1]] rfl ar_ ?_; (with_reducible refine (topiarylaw15_small.calls k _ _ l0_0 _ _ l0_1 t397 t400 _ ?side1 ?side2 ?side3 ?side4 A5.out).mono ?_); (case side1 => exact cc_ (Kd.C_below HR0_0.out HB.out)); (case side2 => exact HC0_0.out); (case side3 => exact cc_ (Kd.C_below HR0_1.out HB.out)); (case side4 => exact HC0_1.out); rintro e w176 ⟨v398, v401, rfl, ho0, ho1, hb⟩; refine ⟨_, rfl, ?_⟩; have n0_ := Aside0.mk (Kd.V_mono (Kd.V_told (Kd.V_told (Kd.V_old (vv_ HO1.out) hb) (Kd.R_base ho0)) (Kd.R_base ho1)) (fun _ h_ => h_.1)); have n1_ := Aside0.mk (Kd.R_lower (Kd.R_newM (M := fun k_ => (w.heap.size ≤ k_)) ho0 (below_size (bt_ HB.out GE394.out GE395.out)) (fun k_ h_ => h_)) (below_size (bt_ HB.out GE394.out GE395.out))); have n2_ := Aside0.mk (Kd.R_lower (Kd.R_newM (M := fun k_ => (w.heap.size ≤ k_)) ho1 (below_size (bt_ HB.out GE394.out GE395.out)) (fun k_ h_ => h_)) (below_size (bt_ HB.out GE394.out GE395.out))); have n3_ := Aside0.mk (blk_below (g := gb394) (o := .cells #[.slice A0_0 l0_0.length c0_0, .slice A0_1 l0_1.length c0_1] 25 (0, 0)) (bk_ BK394.out) hb); have n4_ := Aside0.mk (blk_below (g := gb395) (o := .cells #[.bool true, .int .i64 a2_1, .slice A2_2 l2_2.length c2_2] 45 (0, 0)) (bk_ BK395.out) hb); have n5_ := Aside0.mk (below_step (bt_ HB.out GE394.out GE395.out) hb); clear HO1; clear BK394; clear BK395; clear HB; have HO1 := n0_; have HO399 := n1_; have HO402 := n2_; have BK394 := n3_; have BK395 := n4_; have HB := n5_; clear n0_ n1_ n2_ n3_ n4_ n5_; (try clear hb); (try clear hb2); (try clear hk); (try clear hi); (try clear ho0); (try clear ho1); obtain ⟨Ao177, co177, eo177⟩ := Kd.R_slice HO399.out; subst eo177; have hcz178_0 : w176.cell? ⟨gb394, 0, none⟩ = some (.slice A0_0 l0_0.length c0_0) := (blk_cell BK394.out 0).trans rfl; have hcz178_1 : w176.cell? ⟨gb394, 1, none⟩ = some (.slice A0_1 l0_1.length c0_1) := (blk_cell BK394.out 1).trans rfl; have hfz178_0 := blk_frozen BK394.out 0; have hfz178_1 := blk_frozen BK394.out 1; obtain ⟨Ao179, co179, eo179⟩ := Kd.R_slice HO402.out; subst eo179; have hcz180_0 : w176.cell? ⟨gb395, 0, none⟩ = some (.bool true) := (blk_cell BK395.out 0).trans rfl; have hcz180_1 : w176.cell? ⟨gb395, 1, none⟩ = some (.int .i64 a2_1) := (blk_cell BK395.out 1).trans rfl; have hcz180_2 : w176.cell? ⟨gb395, 2, none⟩ = some (.slice A2_2 l2_2.length c2_2) := (blk_cell BK395.out 2).trans rfl; have hfz180_0 := blk_frozen BK395.out 0; have hfz180_1 := blk_frozen BK395.out 1; have hfz180_2 := blk_frozen BK395.out 2))
      have n0_ : Aside0 (Kd.V (Kd.int .i64) 3 ((w176.setCell ⟨gb394, 0, none⟩ (.slice Ao177 t397.length co177)).setCell ⟨gb394, 1, none⟩ (.slice Ao179 t400.length co179)) w.heap.size (fun k_ => (P1_ k_ ∨ w.heap.size ≤ k_) ∧ some k_ ≠ (.slice Ao177 t397.length co177 : Value).ownBlock ∧ some k_ ≠ (.slice Ao179 t400.length co179 : Value).ownBlock ∧ k_ ≠ gb394 ∧ k_ ≠ gb395) (.slice A1 l1.length c1) l1) := ⟨by (with_reducible repeat (first | apply Kd.V_alloc | apply Kd.V_drewN | apply Kd.V_drew)); exact Kd.V_mono (Kd.V_far (p := ⟨gb394, 1, none⟩) (Kd.V_far (p := ⟨gb394, 0, none⟩) (Kd.V_mono HO1.out (fun k_ hk => (⟨hk, hk.1.1.1.2⟩ : _ ∧ k_ ≠ gb394))) (fun _ hk => hk.2) (.slice Ao177 t397.length co177)) (fun _ hk => hk.2) (.slice Ao179 t400.length co179)) (fun _ hk => ⟨hk.1.1.1.1.1, ⟨hk.1.1.2, ⟨hk.1.2, ⟨hk.1.1.1.1.2, hk.1.1.1.2⟩⟩⟩⟩)⟩
      have n1_ : Aside0 (Kd.R Kd.string 9 ((w176.setCell ⟨gb394, 0, none⟩ (.slice Ao177 t397.length co177)).setCell ⟨gb394, 1, none⟩ (.slice Ao179 t400.length co179)) w.heap.size (fun k_ => (w.heap.size ≤ k_)) (.slice Ao177 t397.length co177) t397) := ⟨by (with_reducible repeat (first | apply Kd.R_alloc | apply Kd.R_drewN | apply Kd.R_drew)); exact Kd.R_mono (Kd.R_far (p := ⟨gb394, 1, none⟩) (Kd.R_far (p := ⟨gb394, 0, none⟩) (Kd.R_types HO399.out BK394.out (by decide)) (fun _ hk => hk.2) (.slice Ao177 t397.length co177)) (fun _ hk => hk.2) (.slice Ao179 t400.length co179)) (fun _ hk => hk.1.1)⟩
      have n2_ : Aside0 (Kd.R k52 52 ((w176.setCell ⟨gb394, 0, none⟩ (.slice Ao177 t397.length co177)).setCell ⟨gb394, 1, none⟩ (.slice Ao179 t400.length co179)) w.heap.size (fun k_ => (w.heap.size ≤ k_)) (.slice Ao179 t400.length co179) t400) := ⟨by (with_reducible repeat (first | apply Kd.R_alloc | apply Kd.R_drewN | apply Kd.R_drew)); exact Kd.R_mono (Kd.R_far (p := ⟨gb394, 1, none⟩) (Kd.R_far (p := ⟨gb394, 0, none⟩) (Kd.R_types HO402.out BK394.out (by decide)) (fun _ hk => hk.2) (.slice Ao177 t397.length co177)) (fun _ hk => hk.2) (.slice Ao179 t400.length co179)) (fun _ hk => hk.1.1)⟩
      have n3_ : Aside0 (((w176.setCell ⟨gb394, 0, none⟩ (.slice Ao177 t397.length co177)).setCell ⟨gb394, 1, none⟩ (.slice Ao179 t400.length co179)).heap[gb394]? = some (.cells #[.slice Ao177 t397.length co177, .slice Ao179 t400.length co179] 25 (0, 0))) := ⟨by (with_reducible repeat (first | refine blk_drewN ?_ _ | refine blk_drew ?_ | refine blk_alloc ?_ _)); refine blk_put (cs := #[.slice Ao177 t397.length co177, .slice A0_1 l0_1.length c0_1]) ?_ 1 _ rfl; (with_reducible repeat (first | refine blk_drewN ?_ _ | refine blk_drew ?_ | refine blk_alloc ?_ _)); refine blk_put (cs := #[.slice A0_0 l0_0.length c0_0, .slice A0_1 l0_1.length c0_1]) ?_ 0 _ rfl; exact bk_ BK394.out⟩
      have n4_ : Aside0 (((w176.setCell ⟨gb394, 0, none⟩ (.slice Ao177 t397.length co177)).setCell ⟨gb394, 1, none⟩ (.slice Ao179 t400.length co179)).heap[gb395]? = some (.cells #[.bool true, .int .i64 a2_1, .slice A2_2 l2_2.length c2_2] 45 (0, 0))) := ⟨by (with_reducible repeat (first | refine blk_drewN ?_ _ | refine blk_drew ?_ | refine blk_alloc ?_ _)); refine blk_far ?_ NB395_394.out _; (with_reducible repeat (first | refine blk_drewN ?_ _ | refine blk_drew ?_ | refine blk_alloc ?_ _)); refine blk_far ?_ NB395_394.out _; exact bk_ BK395.out⟩
      have n5_ : Aside0 (Below w.heap.size w ((w176.setCell ⟨gb394, 0, none⟩ (.slice Ao177 t397.length co177)).setCell ⟨gb394, 1, none⟩ (.slice Ao179 t400.length co179))) := ⟨bt_ HB.out GE394.out GE395.out⟩
      (try clear HO1)
      (try clear HO399)
      (try clear HO402)
      (try clear BK394)
      (try clear BK395)
      (try clear HB)
      generalize ((w176.setCell ⟨gb394, 0, none⟩ (.slice Ao177 t397.length co177)).setCell ⟨gb394, 1, none⟩ (.slice Ao179 t400.length co179)) = w181 at n0_ n1_ n2_ n3_ n4_ n5_ ⊢
      have HO1 := n0_
      have HO399 := n1_
      have HO402 := n2_
      have BK394 := n3_
      have BK395 := n4_
      have HB := n5_
      clear n0_ n1_ n2_ n3_ n4_ n5_
      have n0_ := Aside0.mk (Kd.V_drew HO1.out)
      have n1_ := Aside0.mk (Kd.R_drew HO399.out)
      have n2_ := Aside0.mk (Kd.R_drew HO402.out)
      have n3_ := Aside0.mk (blk_drew BK394.out)
      have n4_ := Aside0.mk (blk_drew BK395.out)
      have n5_ := Aside0.mk (below_drew1 HB.out)
      clear HO1
      clear HO399
      clear HO402
      clear BK394
      clear BK395
      clear HB
      have HO1 := n0_
      have HO399 := n1_
      have HO402 := n2_
      have BK394 := n3_
      have BK395 := n4_
      have HB := n5_
      clear n0_ n1_ n2_ n3_ n4_ n5_
      refine start_ (n := 15) (S := fun w' => w'.cell? ⟨gb395, 0, none⟩ = some (.bool true) ∧ w'.cell? ⟨gb395, 1, none⟩ = some (.int .i64 a2_1) ∧ w'.cell? ⟨gb395, 2, none⟩ = some (.slice A2_2 l2_2.length c2_2) ∧ w'.cell? ⟨gb394, 0, none⟩ = some (.slice Ao177 t397.length co177) ∧ w'.cell? ⟨gb394, 1, none⟩ = some (.slice Ao179 t400.length co179)) (ds := []) #[false, false, false, false, false, false, false, false, false, false, false, false, false, false, false] (by kernel_rfl) rfl rfl ⟨(blk_cell BK395.out 0).trans rfl, (blk_cell BK395.out 1).trans rfl, (blk_cell BK395.out 2).trans rfl, (blk_cell BK394.out 0).trans rfl, (blk_cell BK394.out 1).trans rfl⟩ (fun hHeld => ?_); refine with_tabW topiarylaw15_TreePaths.tab6 topiarylaw15_TreePaths.bits6 (fun HT_ HW_ => ?_)
      generalize w181.drew = w182 at HO1 HO399 HO402 BK394 BK395 HB hHeld ⊢
      refine pure_ (i := 0) (N := some 29) (v := ?_) (a' := ?_) #[true, false, false, false, false, false, false, false, false, false, false, false, false, false, false] rfl rfl (any_of HT_.out (by kernel_rfl)) (fun _ _ _ h => h) (Or.inl ⟨by rfl, ?_⟩) ?_ ?_
      rotate_left
      ·intro w'
       go_simp
       with_reducible rfl
      rotate_left
      ·simp only [Act.put, List.setIfInBounds_toArray, List.set_cons_zero, List.set_cons_succ, i64_w, i32_w]
       rfl
      refine pure_ (i := 2) (N := some 31) (v := ?_) (a' := ?_) #[true, false, true, false, false, false, false, false, false, false, false, false, false, false, false] rfl rfl (any_of HT_.out (by kernel_rfl)) (fun _ _ _ h => h) (Or.inl ⟨by rfl, ?_⟩) ?_ ?_
      rotate_left
      ·intro w'
       go_simp
       with_reducible rfl
      rotate_left
      ·simp only [Act.put, List.setIfInBounds_toArray, List.set_cons_zero, List.set_cons_succ, i64_w, i32_w]
       rfl
      refine pure_ (i := 6) (N := some 35) (v := ?_) (a' := ?_) #[true, false, true, false, false, false, true, false, false, false, false, false, false, false, false] rfl rfl (any_of HT_.out (by kernel_rfl)) (fun _ _ _ h => h) (Or.inl ⟨by rfl, ?_⟩) ?_ ?_
      rotate_left
      ·intro w'
       go_simp
       with_reducible rfl
      rotate_left
      ·simp only [Act.put, List.setIfInBounds_toArray, List.set_cons_zero, List.set_cons_succ, i64_w, i32_w]
       rfl
      refine pure_ (i := 10) (N := some 39) (v := ?_) (a' := ?_) #[true, false, true, false, false, false, true, false, false, false, true, false, false, false, false] rfl rfl (any_of HT_.out (by kernel_rfl)) (fun _ _ _ h => h) (Or.inl ⟨by rfl, ?_⟩) ?_ ?_
      rotate_left
      ·intro w'
       go_simp
       with_reducible rfl
      rotate_left
      ·simp only [Act.put, List.setIfInBounds_toArray, List.set_cons_zero, List.set_cons_succ, i64_w, i32_w]
       rfl
      refine take_ (i := 1) (N := some 30) (v := ?_) (a' := ?_) #[true, true, true, false, false, false, true, false, false, false, true, false, false, false, false] rfl rfl (take_ofW HT_.out HW_.out (by kernel_rfl)) (fun _ _ _ h => h) (Or.inl ⟨by rfl, ?_⟩) hHeld ?_ ?_
      rotate_left
      ·rintro w' ⟨s0, s1, s2, s3, s4⟩
       go_simp
       with_reducible rfl
      rotate_left
      ·simp only [Act.put, List.setIfInBounds_toArray, List.set_cons_zero, List.set_cons_succ, i64_w, i32_w]
       rfl
      refine take_ (i := 3) (N := some 32) (v := ?_) (a' := ?_) #[true, true, true, true, false, false, true, false, false, false, true, false, false, false, false] rfl rfl (take_ofW HT_.out HW_.out (by kernel_rfl)) (fun _ _ _ h => h) (Or.inl ⟨by rfl, ?_⟩) hHeld ?_ ?_
      rotate_left
      ·rintro w' ⟨s0, s1, s2, s3, s4⟩
       go_simp
       with_reducible rfl
      rotate_left
      ·simp only [Act.put, List.setIfInBounds_toArray, List.set_cons_zero, List.set_cons_succ, i64_w, i32_w]
       rfl
      refine pure_ (i := 4) (N := some 33) (v := ?_) (a' := ?_) #[true, true, true, true, true, false, true, false, false, false, true, false, false, false, false] rfl rfl (any_of HT_.out (by kernel_rfl)) (fun _ _ _ h => h) (Or.inl ⟨by rfl, ?_⟩) ?_ ?_
      rotate_left
      ·intro w'
       go_simp
       with_reducible rfl
      rotate_left
      ·simp only [Act.put, List.setIfInBounds_toArray, List.set_cons_zero, List.set_cons_succ, i64_w, i32_w]
       rfl
      refine pure_ (i := 5) (N := some 34) (v := ?_) (a' := ?_) #[true, true, true, true, true, true, true, false, false, false, true, false, false, false, false] rfl rfl (any_of HT_.out (by kernel_rfl)) (fun _ _ _ h => h) (Or.inl ⟨by rfl, ?_⟩) ?_ ?_
      rotate_left
      ·intro w'
       go_simp
       with_reducible rfl
      rotate_left
      ·simp only [Act.put, List.setIfInBounds_toArray, List.set_cons_zero, List.set_cons_succ, i64_w, i32_w]
       rfl
      refine take_ (i := 7) (N := some 36) (v := ?_) (a' := ?_) #[true, true, true, true, true, true, true, true, false, false, true, false, false, false, false] rfl rfl (take_ofW HT_.out HW_.out (by kernel_rfl)) (fun _ _ _ h => h) (Or.inl ⟨by rfl, ?_⟩) hHeld ?_ ?_
      rotate_left
      ·rintro w' ⟨s0, s1, s2, s3, s4⟩
       go_simp
       with_reducible rfl
      rotate_left
      ·simp only [Act.put, List.setIfInBounds_toArray, List.set_cons_zero, List.set_cons_succ, i64_w, i32_w]
       rfl
      refine pure_ (i := 8) (N := some 37) (v := ?_) (a' := ?_) #[true, true, true, true, true, true, true, true, true, false, true, false, false, false, false] rfl rfl (any_of HT_.out (by kernel_rfl)) (fun _ _ _ h => h) (Or.inl ⟨by rfl, ?_⟩) ?_ ?_
      rotate_left
      ·intro w'
       go_simp
       with_reducible rfl
      rotate_left
      ·simp only [Act.put, List.setIfInBounds_toArray, List.set_cons_zero, List.set_cons_succ, i64_w, i32_w]
       rfl
      refine pure_ (i := 9) (N := some 38) (v := ?_) (a' := ?_) #[true, true, true, true, true, true, true, true, true, true, true, false, false, false, false] rfl rfl (any_of HT_.out (by kernel_rfl)) (fun _ _ _ h => h) (Or.inl ⟨by rfl, ?_⟩) ?_ ?_
      rotate_left
      ·intro w'
       go_simp
       with_reducible rfl
      rotate_left
      ·simp only [Act.put, List.setIfInBounds_toArray, List.set_cons_zero, List.set_cons_succ, i64_w, i32_w]
       rfl
      refine take_ (i := 11) (N := some 40) (v := ?_) (a' := ?_) #[true, true, true, true, true, true, true, true, true, true, true, true, false, false, false] rfl rfl (take_ofW HT_.out HW_.out (by kernel_rfl)) (fun _ _ _ h => h) (Or.inl ⟨by rfl, ?_⟩) hHeld ?_ ?_
      rotate_left
      ·rintro w' ⟨s0, s1, s2, s3, s4⟩
       go_simp
       with_reducible rfl
      rotate_left
      ·simp only [Act.put, List.setIfInBounds_toArray, List.set_cons_zero, List.set_cons_succ, i64_w, i32_w]
       rfl
      refine pure_ (i := 12) (N := some 41) (v := ?_) (a' := ?_) #[true, true, true, true, true, true, true, true, true, true, true, true, true, false, false] rfl rfl (any_of HT_.out (by kernel_rfl)) (fun _ _ _ h => h) (Or.inl ⟨by rfl, ?_⟩) ?_ ?_
      rotate_left
      ·intro w'
       go_simp
       with_reducible rfl
      rotate_left
      ·simp only [Act.put, List.setIfInBounds_toArray, List.set_cons_zero, List.set_cons_succ, i64_w, i32_w]
       rfl
      refine pure_ (i := 13) (N := some 42) (v := ?_) (a' := ?_) #[true, true, true, true, true, true, true, true, true, true, true, true, true, true, false] rfl rfl (any_of HT_.out (by kernel_rfl)) (fun _ _ _ h => h) (Or.inl ⟨by rfl, ?_⟩) ?_ ?_
      rotate_left
      ·intro w'
       go_simp
       with_reducible rfl
      rotate_left
      ·simp only [Act.put, List.setIfInBounds_toArray, List.set_cons_zero, List.set_cons_succ, i64_w, i32_w]
       rfl
      refine pure_ (i := 14) (N := some 8) (v := ?_) (a' := ?_) #[true, true, true, true, true, true, true, true, true, true, true, true, true, true, true] rfl rfl (any_of HT_.out (by kernel_rfl)) (fun _ _ _ h => h) (Or.inl ⟨by rfl, ?_⟩) ?_ ?_
      rotate_left
      ·intro w'
       go_simp
       with_reducible rfl
      rotate_left
      ·simp only [Act.put, List.setIfInBounds_toArray, List.set_cons_zero, List.set_cons_succ, i64_w, i32_w]
       rfl
      refine done_ (done_of HT_.out (by kernel_rfl)) ?_
      have hcz183_0 : w182.cell? ⟨gb394, 0, none⟩ = some (.slice Ao177 t397.length co177) := (blk_cell BK394.out 0).trans rfl
      have hcz183_1 : w182.cell? ⟨gb394, 1, none⟩ = some (.slice Ao179 t400.length co179) := (blk_cell BK394.out 1).trans rfl
      have hfz183_0 := blk_frozen BK394.out 0
      have hfz183_1 := blk_frozen BK394.out 1
      try go_wp2_with (first | ((with_reducible refine gate_callee (f := 12) rfl ?_); refine goesL_ (some 45) rfl rfl Try.func12 (by kernel_rfl) rfl #[.agg #[.slice Ao177 t397.length co177, .slice Ao179 t400.length co179], .int .i64 (Int.tmod (wrap64 ((Int.tmod a2_1 (t400.length : Int)) + (t400.length : Int))) (t400.length : Int))] rfl ar_ ?_; (with_reducible refine (topiaryref15_Symbol.calls k _ _ t397 _ _ t400 (Int.tmod (wrap64 ((Int.tmod a2_1 (t400.length : Int)) + (t400.length : Int))) (t400.length : Int)) t453 _ ?side1 ?side2 ?side3 ?side4 A168.out).mono ?_); (case side1 => exact cc_ (Kd.R_reads' HO399.out).2.2); (case side2 => exact (Kd.R_reads' HO399.out).2.1); (case side3 => exact cc_ (Kd.R_reads' HO402.out).2.2); (case side4 => exact (Kd.R_reads' HO402.out).2.1); rintro e w184 ⟨rfl, hb⟩; refine ⟨_, rfl, ?_⟩; have n0_ := Aside0.mk (Kd.V_below (vv_ HO1.out) hb); have n1_ := Aside0.mk (Kd.R_below (rr_ HO399.out) hb); have n2_ := Aside0.mk (Kd.R_below (rr_ HO402.out) hb); have n3_ := Aside0.mk (blk_below (g := gb394) (o := .cells #[.slice Ao177 t397.length co177, .slice Ao179 t400.length co179] 25 (0, 0)) (bk_ BK394.out) hb); have n4_ := Aside0.mk (blk_below (g := gb395) (o := .cells #[.bool true, .int .i64 a2_1, .slice A2_2 l2_2.length c2_2] 45 (0, 0)) (bk_ BK395.out) hb); have n5_ := Aside0.mk (below_step (bt_ HB.out GE394.out GE395.out) hb); clear HO1; clear HO399; clear HO402; clear BK394; clear BK395; clear HB; have HO1 := n0_; have HO399 := n1_; have HO402 := n2_; have BK394 := n3_; have BK395 := n4_; have HB := n5_; clear n0_ n1_ n2_ n3_ n4_ n5_; (try clear hb); (try clear hb2); (try clear hk); (try clear hi)) | ((with_reducible refine gate_dst (N := 46) rfl ?_); (try (refine gate_guard (by rfl) ?_; dsimp only)); refine Kd.R_lit (Kd.int .i64) _ 3 ?hg (N := 46) ?hd (xs := ([t453] : List Int)) (inner := [.int .i64 t453]) (ok := fun _ => True) (okp := fun _ => True) ?hr ?hp (fun _ hk => hk) trivial (Below.refl _ _) (Nat.le_refl _) (by simp) ?_; (case hd => rfl); (case hg => rfl); (case hr => first | (go_simp; done) | (go_simp; rfl)); (case hp => exact (Reps.one (show Kd.M (Kd.int .i64) _ _ _ t453 [.int .i64 t453] from rfl) (Reps.none _ _))); intro v455 w185 ho186 hb hg_ hnew_; clear hg_ hnew_; (first | rw [← Ny454.out] at ho186 | (simp only [Int.reduceToNat] at ho186; rw [← Ny454.out] at ho186)); have n0_ := Aside0.mk (Kd.V_elder' (vv_ HO1.out) (Kd.R_base ho186) hb); have n1_ := Aside0.mk (Kd.R_below (rr_ HO399.out) hb); have n2_ := Aside0.mk (Kd.R_below (rr_ HO402.out) hb); have n3_ := Aside0.mk (Kd.R_lower (Kd.R_newM (M := fun k_ => (w.heap.size ≤ k_)) ho186 (below_size (bt_ HB.out GE394.out GE395.out)) (fun k_ h_ => h_)) (below_size (bt_ HB.out GE394.out GE395.out))); have n4_ := Aside0.mk (blk_below (g := gb394) (o := .cells #[.slice Ao177 t397.length co177, .slice Ao179 t400.length co179] 25 (0, 0)) (bk_ BK394.out) hb); have n5_ := Aside0.mk (blk_below (g := gb395) (o := .cells #[.bool true, .int .i64 a2_1, .slice A2_2 l2_2.length c2_2] 45 (0, 0)) (bk_ BK395.out) hb); have n6_ := Aside0.mk (below_step (bt_ HB.out GE394.out GE395.out) hb); clear HO1; clear HO399; clear HO402; clear BK394; clear BK395; clear HB; have HO1 := n0_; have HO399 := n1_; have HO402 := n2_; have HO456 := n3_; have BK394 := n4_; have BK395 := n5_; have HB := n6_; clear n0_ n1_ n2_ n3_ n4_ n5_ n6_; clear hb ho186; have hcz187_0 : w185.cell? ⟨gb394, 0, none⟩ = some (.slice Ao177 t397.length co177) := (blk_cell BK394.out 0).trans rfl; have hcz187_1 : w185.cell? ⟨gb394, 1, none⟩ = some (.slice Ao179 t400.length co179) := (blk_cell BK394.out 1).trans rfl; have hfz187_0 := blk_frozen BK394.out 0; have hfz187_1 := blk_frozen BK394.out 1) | ((with_reducible refine gate_callee (f := 23) rfl ?_); refine goesL_ (some 50) rfl rfl Try.func23 (by kernel_rfl) rfl #[.agg #[.slice Ao177 t397.length co177, .slice Ao179 t400.length co179], .int .i64 (Int.tmod (wrap64 ((Int.tmod a2_1 (t400.length : Int)) + (t400.length : Int))) (t400.length : Int))] rfl ar_ ?_; (with_reducible refine (topiaryref15_Up.calls k _ _ t397 _ _ t400 (Int.tmod (wrap64 ((Int.tmod a2_1 (t400.length : Int)) + (t400.length : Int))) (t400.length : Int)) t457 _ ?side1 ?side2 ?side3 ?side4 A169.out).mono ?_); (case side1 => exact cc_ (Kd.R_reads' HO399.out).2.2); (case side2 => exact (Kd.R_reads' HO399.out).2.1); (case side3 => exact cc_ (Kd.R_reads' HO402.out).2.2); (case side4 => exact (Kd.R_reads' HO402.out).2.1); rintro e w188 ⟨v458, rfl, ho0, hb⟩; refine ⟨_, rfl, ?_⟩; have n0_ := Aside0.mk (Kd.V_elder' (vv_ HO1.out) (Kd.R_base ho0) hb); have n1_ := Aside0.mk (Kd.R_below (rr_ HO399.out) hb); have n2_ := Aside0.mk (Kd.R_below (rr_ HO402.out) hb); have n3_ := Aside0.mk (Kd.R_elder' (rr_ HO456.out) (Kd.R_base ho0) hb); have n4_ := Aside0.mk (Kd.R_lower (Kd.R_new' (Kd.R_newM (M := fun k_ => (w.heap.size ≤ k_)) ho0 (below_size (bt_ HB.out GE394.out GE395.out)) (fun k_ h_ => h_)) (Kd.R_lt (rr_ HO456.out))) (below_size (bt_ HB.out GE394.out GE395.out))); have n5_ := Aside0.mk (blk_below (g := gb394) (o := .cells #[.slice Ao177 t397.length co177, .slice Ao179 t400.length co179] 25 (0, 0)) (bk_ BK394.out) hb); have n6_ := Aside0.mk (blk_below (g := gb395) (o := .cells #[.bool true, .int .i64 a2_1, .slice A2_2 l2_2.length c2_2] 45 (0, 0)) (bk_ BK395.out) hb); have n7_ := Aside0.mk (below_step (bt_ HB.out GE394.out GE395.out) hb); clear HO1; clear HO399; clear HO402; clear HO456; clear BK394; clear BK395; clear HB; have HO1 := n0_; have HO399 := n1_; have HO402 := n2_; have HO456 := n3_; have HO459 := n4_; have BK394 := n5_; have BK395 := n6_; have HB := n7_; clear n0_ n1_ n2_ n3_ n4_ n5_ n6_ n7_; (try clear hb); (try clear hb2); (try clear hk); (try clear hi); (try clear ho0); obtain ⟨Ao190, co190, eo190⟩ := Kd.R_slice HO459.out; subst eo190) | ((with_reducible refine gate_builtin (b := .append) (xs := #[.tmp 47, .tmp 50]) rfl ?_); (try (refine gate_guard (by rfl) ?_; dsimp only)); at_builtin; refine Kd.R_append_rows (Kd.int .i64) (w0 := w) w.heap.size rfl (.tmp 47) (.tmp 50) 29 3 (.int .i64 0) 8 rfl Try.underlying29 info3 rfl (by decide) (by omega) v455 y454 t457 _ _ _ (fun k_ => (w.heap.size ≤ k_) ∧ some k_ ≠ (.slice Ao190 t457.length co190 : Value).ownBlock) (fun _ => False) rfl rfl ?aO ?aR (fun _ _ h => h) (fun _ h => h.elim) ?aF ?aB ?aS ?aL ?_; (case aR => exact cc_ (Kd.R_reads' HO459.out).2.2); (case aB => exact (bt_ HB.out GE394.out GE395.out)); (case aF => exact (fun k_ hk => ⟨(Nat.le_trans (below_size (bt_ HB.out GE394.out GE395.out)) hk), Kd.fresh' (Kd.R_lt (rr_ HO459.out)) k_ hk⟩)); (case aO => exact (by (with_reducible repeat (first | apply Kd.R_alloc | apply Kd.R_drewN | apply Kd.R_drew)); exact Kd.R_mono HO456.out (fun _ hk => ⟨hk.1.1, hk.2⟩))); (case aS => exact (below_size (bt_ HB.out GE394.out GE395.out))); (case aL => have := LMc170.out; omega); intro v461 w189 ho hb hg hat; rw [← Ny460.out] at ho; have n0_ := Aside0.mk (Kd.V_afterv (ok := (fun k_ => (P1_ k_ ∨ w.heap.size ≤ k_) ∧ some k_ ≠ (.slice Ao177 t397.length co177 : Value).ownBlock ∧ some k_ ≠ (.slice Ao179 t400.length co179 : Value).ownBlock ∧ some k_ ≠ (.slice Ao190 t457.length co190 : Value).ownBlock ∧ k_ ≠ gb394 ∧ k_ ≠ gb395)) (by (with_reducible repeat (first | apply Kd.V_alloc | apply Kd.V_drewN | apply Kd.V_drew)); exact Kd.V_mono HO1.out (fun _ hk => ⟨⟨hk.1.1.1, ⟨hk.1.1.2.1, ⟨hk.1.1.2.2.1, ⟨hk.2, ⟨hk.1.1.2.2.2.1, hk.1.1.2.2.2.2⟩⟩⟩⟩⟩, hk.1.2⟩)) hg hat); have n1_ := Aside0.mk (blk_grown (g := gb394) (o := .cells #[.slice Ao177 t397.length co177, .slice Ao179 t400.length co179] 25 (0, 0)) (bk_ BK394.out) hg (Kd.R_ne HO456.out BK394.out (by decide))); have n2_ := Aside0.mk (blk_grown (g := gb395) (o := .cells #[.bool true, .int .i64 a2_1, .slice A2_2 l2_2.length c2_2] 45 (0, 0)) (bk_ BK395.out) hg (Kd.R_ne HO456.out BK395.out (by decide))); have n3_ := Aside0.mk (Kd.R_over' (rr_ HO399.out) (Kd.R_typed (rr_ HO456.out)) (by decide) hg); have n4_ := Aside0.mk (Kd.R_over' (rr_ HO402.out) (Kd.R_typed (rr_ HO456.out)) (by decide) hg); have n5_ := Aside0.mk (Kd.R_after (ok := (fun k_ => (w.heap.size ≤ k_))) (by (with_reducible repeat (first | apply Kd.R_alloc | apply Kd.R_drewN | apply Kd.R_drew)); exact Kd.R_mono HO459.out (fun _ hk => ⟨hk.1.1, hk.2⟩)) hg hat); have n6_ := Aside0.mk (hb); have n7_ := Aside0.mk (ho); clear HO1; clear BK394; clear BK395; clear HO399; clear HO402; clear HO459; clear HB; clear HO456; have HO1 := n0_; have BK394 := n1_; have BK395 := n2_; have HO399 := n3_; have HO402 := n4_; have HO459 := n5_; have HB := n6_; have HO462 := n7_; clear n0_ n1_ n2_ n3_ n4_ n5_ n6_ n7_; clear ho hb hg hat))
      go_loopg [1, 10] k (fun kq v1 v10 w' => ∃ (x1_1 : List Int) (x10_1 : Int), v10 = .int .i64 x10_1 ∧ Aside0 (topiarylaw15_TreePaths.l0 kq x1_1 t396 y460 x10_1 t397 t400 true a2_1 l2_2 = some r) ∧ Aside0 (kq ≤ k) ∧ Aside0 (Kd.R (Kd.int .i64) 3 w' w.heap.size (fun k_ => (w.heap.size ≤ k_) ∧ some k_ ≠ (v461 : Value).ownBlock) v1 x1_1) ∧ Aside0 (Kd.R (Kd.int .i64) 3 w' w.heap.size (fun k_ => (w.heap.size ≤ k_) ∧ some k_ ≠ (v1 : Value).ownBlock) v461 y460) ∧ Aside0 (Kd.R Kd.string 9 w' w.heap.size (fun k_ => (w.heap.size ≤ k_)) (.slice Ao177 t397.length co177) t397) ∧ Aside0 (Kd.R k52 52 w' w.heap.size (fun k_ => (w.heap.size ≤ k_)) (.slice Ao179 t400.length co179) t400) ∧ Aside0 (w'.heap[gb394]? = some (.cells #[(.slice Ao177 t397.length co177), (.slice Ao179 t400.length co179)] 25 (0, 0))) ∧ Aside0 (w'.heap[gb395]? = some (.cells #[.bool true, .int .i64 a2_1, (.slice A2_2 l2_2.length c2_2)] 45 (0, 0))) ∧ Aside0 (Below w.heap.size w w'))
      case atStart => exact ⟨(([] : List Int)), (0), sm_, H', ⟨Nat.le_refl _⟩, ⟨by first | exact Kd.R_nil _ _ _ _ _ | exact Kd.N_nil _ _ _ _ _ | exact Kd.V_nil _ _ _ _ _ | exact Kd.Q_nil _ _ _ _ _ | exact Kd.S_nil _ _ _ _ _⟩, ⟨by (with_reducible repeat (first | apply Kd.R_alloc | apply Kd.R_drewN | apply Kd.R_drew)); exact Kd.R_mono HO462.out (fun _ hk => ⟨hk.1, (by simp [Value.ownBlock])⟩)⟩, ⟨rr_ HO399.out⟩, ⟨rr_ HO402.out⟩, ⟨bk_ BK394.out⟩, ⟨bk_ BK395.out⟩, ⟨bt_ HB.out GE394.out GE395.out⟩⟩
      case round =>
       clear H'
       try clear c1
       try clear q1
       try clear c2
       try clear p2
       try clear c3
       try clear c6
       try clear c6b0
       try clear c6b1
       try clear p6
       try clear c7
       try clear c9
       try clear c10
       try clear c12
       try clear c13
       try clear q14
       try clear c15
       try clear q15
       try clear c16
       try clear c17
       try clear c23
       try clear c30
       try clear c31
       try clear p64
       try clear c130
       try clear c134
       try clear q141
       try clear c151
       try clear q158
       try clear c165
       try clear c166
       try clear c166b0
       try clear c166b1
       try clear c167
       try clear c167b0
       try clear c167b1
       try clear c167b2
       try clear c170
       try clear c174
       try clear hcz135_0
       try clear hcz135_1
       try clear hcz138_0
       try clear hcz138_1
       try clear hcz142_0
       try clear hcz142_1
       try clear hcz142_2
       try clear hcz152_0
       try clear hcz152_1
       try clear hcz155_0
       try clear hcz155_1
       try clear hcz159_0
       try clear hcz159_1
       try clear hcz159_2
       try clear hcz175_0
       try clear hcz175_1
       try clear hcz178_0
       try clear hcz178_1
       try clear hcz180_0
       try clear hcz180_1
       try clear hcz180_2
       try clear hcz183_0
       try clear hcz183_1
       try clear hcz187_0
       try clear hcz187_1
       try clear hfz135_0
       try clear hfz135_1
       try clear hfz138_0
       try clear hfz138_1
       try clear hfz142_0
       try clear hfz142_1
       try clear hfz142_2
       try clear hfz152_0
       try clear hfz152_1
       try clear hfz155_0
       try clear hfz155_1
       try clear hfz159_0
       try clear hfz159_1
       try clear hfz159_2
       try clear hfz175_0
       try clear hfz175_1
       try clear hfz178_0
       try clear hfz178_1
       try clear hfz180_0
       try clear hfz180_1
       try clear hfz180_2
       try clear hfz183_0
       try clear hfz183_1
       try clear hfz187_0
       try clear hfz187_1
       try clear q141
       try clear q158
       obtain ⟨x1_1, x10_1, rfl, HA, HK1, HO_1, HO_9, HO_395000, HO_395001, BK394, BK395, HB⟩ := hrel
       cases gk with
       | zero => exact absurd HA.out (by simp [topiarylaw15_TreePaths.l0])
       | succ k1 =>
        have H := HA.out
        clear HA
        simp only [topiarylaw15_TreePaths.l0] at H
        by_cases c191 : x10_1 < (y460.length : Int)
        ·rw [if_pos c191] at H
         have c191b0 : decide (x10_1 < (y460.length : Int)) = true := decide_eq_true c191
         clear c191
         by_cases c192 : x10_1 < (l2_2.length : Int)
         ·rw [if_pos c192] at H
          have c192b0 : decide (x10_1 < (l2_2.length : Int)) = true := decide_eq_true c192
          clear c192
          by_cases c193 : 0 ≤ x10_1
          ·rw [if_pos c193] at H
           have c193b0 : decide (0 ≤ x10_1) = true := decide_eq_true c193
           clear c193
           by_cases c194 : ([] : List Int).length < 17592186044416
           ·rw [if_pos c194] at H
            have LMc194 := Aside0.mk c194
            clear c194
            obtain ⟨y419, hy419⟩ : ∃ y_ : List Int, y_ = (([] : List Int) ++ [rd y460 x10_1]) := ⟨_, rfl⟩
            replace H : (if y419.length + x1_1.length < 17592186044416 then (topiarylaw15_TreePaths.l0 k1 (y419 ++ x1_1) t396 y460 (wrap64 (x10_1 + 1)) t397 t400 true a2_1 l2_2) else (none)) = some r := by first | (rw [hy419]; with_reducible exact H) | (have H2_ := (Option.bind_some _ _).symm.trans H; rw [hy419]; with_reducible exact H2_) | (have H2_ := (Option.bind_some _ _).symm.trans H; with_reducible exact H2_) | with_reducible exact H | (rw [hy419]; exact H) | exact H
            have Ny419 := Aside0.mk hy419
            clear hy419
            by_cases c195 : y419.length + x1_1.length < 17592186044416
            ·rw [if_pos c195] at H
             have LMc195 := Aside0.mk c195
             clear c195
             obtain ⟨y422, hy422⟩ : ∃ y_ : List Int, y_ = (y419 ++ x1_1) := ⟨_, rfl⟩
             replace H : (topiarylaw15_TreePaths.l0 k1 y422 t396 y460 (wrap64 (x10_1 + 1)) t397 t400 true a2_1 l2_2) = some r := by first | (rw [hy422]; with_reducible exact H) | (have H2_ := (Option.bind_some _ _).symm.trans H; rw [hy422]; with_reducible exact H2_) | (have H2_ := (Option.bind_some _ _).symm.trans H; with_reducible exact H2_) | with_reducible exact H | (rw [hy422]; exact H) | exact H
             have Ny422 := Aside0.mk hy422
             clear hy422
             have H' := Aside0.mk H
             clear H
             obtain ⟨Ao196, co196, eo196⟩ := Kd.R_slice HO_9.out
             subst eo196
             have hnb197 := NB395_394.out
             have hnc197 := NB394_395.out
             have hcz198_0 : wr.cell? ⟨gb395, 0, none⟩ = some (.bool true) := (blk_cell BK395.out 0).trans rfl
             have hcz198_1 : wr.cell? ⟨gb395, 1, none⟩ = some (.int .i64 a2_1) := (blk_cell BK395.out 1).trans rfl
             have hcz198_2 : wr.cell? ⟨gb395, 2, none⟩ = some (.slice A2_2 l2_2.length c2_2) := (blk_cell BK395.out 2).trans rfl
             have hfz198_0 := blk_frozen BK395.out 0
             have hfz198_1 := blk_frozen BK395.out 1
             have hfz198_2 := blk_frozen BK395.out 2
             have p418 : 0 ≤ (x10_1 : Int) := of_decide_eq_true as_
             have q418 : x10_1 < (y460.length : Int) := of_decide_eq_true as_
             obtain ⟨ad418, e418, hx418_0⟩ := Kd.at_int (Kd.R_reads' HO_9.out).2.2 x10_1 p418 q418
             cases e418
             replace p418 := eq_true p418
             replace q418 := eq_true q418
             go_wp2_with (first | ((with_reducible refine gate_builtin (b := .append) (xs := #[.tmp 65, .tmp 70]) rfl ?_); (try (refine gate_guard (by rfl) ?_; dsimp only)); at_builtin; refine Kd.R_append (Kd.int .i64) (w0 := w) w.heap.size rfl (.tmp 65) (.tmp 70) 29 3 (.int .i64 0) 8 rfl Try.underlying29 info3 rfl (by decide) (by omega) (.slice none 0 0) ([] : List Int) (rd y460 x10_1) [.int .i64 (rd y460 x10_1)] (fun k_ => (w.heap.size ≤ k_) ∧ some k_ ≠ (u1 : Value).ownBlock ∧ some k_ ≠ (.slice (some ad418) y460.length co196 : Value).ownBlock) (fun _ => False) rfl rfl ?aP (fun _ hk => hk.elim) ?aF ?aO ?aB ?aS ?aL ?_; (case aP => exact rfl); (case aB => exact (bt_ HB.out GE394.out GE395.out)); (case aF => exact (fun k_ hk => ⟨(Nat.le_trans (below_size (bt_ HB.out GE394.out GE395.out)) hk), Kd.fresh' (Kd.R_lt (rr_ HO_1.out)) k_ hk, Kd.fresh' (Kd.R_lt (rr_ HO_9.out)) k_ hk⟩)); (case aO => exact ((Kd.R_nil _ _ _ _ (fun k_ => (w.heap.size ≤ k_) ∧ some k_ ≠ (u1 : Value).ownBlock ∧ some k_ ≠ (.slice (some ad418) y460.length co196 : Value).ownBlock)))); (case aS => exact (below_size (bt_ HB.out GE394.out GE395.out))); (case aL => have := LMc194.out; omega); intro v420 w199 ho hb hg hat; rw [← Ny419.out] at ho; have n0_ := Aside0.mk (Kd.R_after (Kd.R_apart_nil (rr_ HO_1.out)) hg hat); have n1_ := Aside0.mk (Kd.R_after (Kd.R_apart_nil (rr_ HO_9.out)) hg hat); have n2_ := Aside0.mk (Kd.R_grown (rr_ HO_395000.out) hg (fun _ _ => by simp [Value.ownBlock])); have n3_ := Aside0.mk (Kd.R_grown (rr_ HO_395001.out) hg (fun _ _ => by simp [Value.ownBlock])); have n4_ := Aside0.mk (blk_grown (g := gb394) (o := .cells #[.slice Ao177 t397.length co177, .slice Ao179 t400.length co179] 25 (0, 0)) (bk_ BK394.out) hg (by simp [Value.ownBlock])); have n5_ := Aside0.mk (blk_grown (g := gb395) (o := .cells #[.bool true, .int .i64 a2_1, .slice A2_2 l2_2.length c2_2] 45 (0, 0)) (bk_ BK395.out) hg (by simp [Value.ownBlock])); have n6_ := Aside0.mk (hb); have n7_ := Aside0.mk (ho); clear HO_1; clear HO_9; clear HO_395000; clear HO_395001; clear BK394; clear BK395; clear HB; have HO_1 := n0_; have HO_9 := n1_; have HO_395000 := n2_; have HO_395001 := n3_; have BK394 := n4_; have BK395 := n5_; have HB := n6_; have HO421 := n7_; clear n0_ n1_ n2_ n3_ n4_ n5_ n6_ n7_; clear ho hb hg hat; obtain ⟨Ao201, co201, eo201⟩ := Kd.R_slice HO_1.out; subst eo201) | ((with_reducible refine gate_builtin (b := .append) (xs := #[.tmp 72, .tmp 73]) rfl ?_); (try (refine gate_guard (by rfl) ?_; dsimp only)); at_builtin; refine Kd.R_append_rows (Kd.int .i64) (w0 := w) w.heap.size rfl (.tmp 72) (.tmp 73) 29 3 (.int .i64 0) 8 rfl Try.underlying29 info3 rfl (by decide) (by omega) v420 y419 x1_1 _ _ _ (fun k_ => (w.heap.size ≤ k_) ∧ some k_ ≠ (.slice Ao201 x1_1.length co201 : Value).ownBlock ∧ some k_ ≠ (.slice (some ad418) y460.length co196 : Value).ownBlock) (fun _ => False) rfl rfl ?aO ?aR (fun _ _ h => h) (fun _ h => h.elim) ?aF ?aB ?aS ?aL ?_; (case aR => exact cc_ (Kd.R_reads' HO_1.out).2.2); (case aB => exact (bt_ HB.out GE394.out GE395.out)); (case aF => exact (fun k_ hk => ⟨(Nat.le_trans (below_size (bt_ HB.out GE394.out GE395.out)) hk), Kd.fresh' (Kd.R_lt (rr_ HO_1.out)) k_ hk, Kd.fresh' (Kd.R_lt (rr_ HO_9.out)) k_ hk⟩)); (case aO => exact (rr_ HO421.out)); (case aS => exact (below_size (bt_ HB.out GE394.out GE395.out))); (case aL => have := LMc195.out; omega); intro v423 w200 ho hb hg hat; rw [← Ny422.out] at ho; have n0_ := Aside0.mk (Kd.R_after (ok := (fun k_ => (w.heap.size ≤ k_) ∧ some k_ ≠ (.slice (some ad418) y460.length co196 : Value).ownBlock)) (rr_ HO_1.out) hg hat); have n1_ := Aside0.mk (Kd.R_after (ok := (fun k_ => (w.heap.size ≤ k_) ∧ some k_ ≠ (.slice Ao201 x1_1.length co201 : Value).ownBlock)) (rr_ HO_9.out) hg hat); have n2_ := Aside0.mk (Kd.R_over' (rr_ HO_395000.out) (Kd.R_typed (rr_ HO421.out)) (by decide) hg); have n3_ := Aside0.mk (Kd.R_over' (rr_ HO_395001.out) (Kd.R_typed (rr_ HO421.out)) (by decide) hg); have n4_ := Aside0.mk (blk_grown (g := gb394) (o := .cells #[.slice Ao177 t397.length co177, .slice Ao179 t400.length co179] 25 (0, 0)) (bk_ BK394.out) hg (Kd.R_ne HO421.out BK394.out (by decide))); have n5_ := Aside0.mk (blk_grown (g := gb395) (o := .cells #[.bool true, .int .i64 a2_1, .slice A2_2 l2_2.length c2_2] 45 (0, 0)) (bk_ BK395.out) hg (Kd.R_ne HO421.out BK395.out (by decide))); have n6_ := Aside0.mk (hb); have n7_ := Aside0.mk (ho); clear HO_1; clear HO_9; clear HO_395000; clear HO_395001; clear BK394; clear BK395; clear HB; clear HO421; have HO_1 := n0_; have HO_9 := n1_; have HO_395000 := n2_; have HO_395001 := n3_; have BK394 := n4_; have BK395 := n5_; have HB := n6_; have HO424 := n7_; clear n0_ n1_ n2_ n3_ n4_ n5_ n6_ n7_; clear ho hb hg hat))
             go_roundg k1
             case measure => have := HK1.out; omega
             case rel => exact ⟨(y422), (wrap64 (x10_1 + 1)), sm_, H', ⟨by have := HK1.out; omega⟩, ⟨by (with_reducible repeat (first | apply Kd.R_alloc | apply Kd.R_drewN | apply Kd.R_drew)); exact Kd.R_mono HO424.out (fun _ hk => ⟨hk.1, hk.2.2⟩)⟩, ⟨by (with_reducible repeat (first | apply Kd.R_alloc | apply Kd.R_drewN | apply Kd.R_drew)); exact Kd.R_mono HO_9.out (fun _ hk => ⟨hk.1.1, hk.2⟩)⟩, ⟨rr_ HO_395000.out⟩, ⟨rr_ HO_395001.out⟩, ⟨bk_ BK394.out⟩, ⟨bk_ BK395.out⟩, ⟨bt_ HB.out GE394.out GE395.out⟩⟩
            ·rw [if_neg c195] at H
             exact absurd H (by simp)
           ·rw [if_neg c194] at H
            exact absurd H (by simp)
          ·rw [if_neg c193] at H
           exact absurd H (by simp)
         ·rw [if_neg c192] at H
          have c192b0 : decide (x10_1 < (l2_2.length : Int)) = false := decide_eq_false c192
          clear c192
          replace H := Option.bind_eq_some_iff.mp H
          obtain ⟨t425, A2020, H⟩ := H
          try dsimp only at H
          have A202 := Aside0.mk A2020
          clear A2020
          replace H := Option.bind_eq_some_iff.mp H
          obtain ⟨t428, A2030, H⟩ := H
          try dsimp only at H
          have A203 := Aside0.mk A2030
          clear A2030
          replace H := Option.bind_eq_some_iff.mp H
          obtain ⟨t431, A2040, H⟩ := H
          try dsimp only at H
          have A204 := Aside0.mk A2040
          clear A2040
          by_cases c205 : t396 = true
          ·subst c205
           rw [if_pos rfl] at H
           have H1 := H
           clear H
           have H := H1
           clear H1
           obtain rfl := Option.some.inj H
           obtain ⟨Ao206, co206, eo206⟩ := Kd.R_slice HO_9.out
           subst eo206
           have hnb207 := NB395_394.out
           have hnc207 := NB394_395.out
           have hcz208_0 : wr.cell? ⟨gb395, 0, none⟩ = some (.bool true) := (blk_cell BK395.out 0).trans rfl
           have hcz208_1 : wr.cell? ⟨gb395, 1, none⟩ = some (.int .i64 a2_1) := (blk_cell BK395.out 1).trans rfl
           have hcz208_2 : wr.cell? ⟨gb395, 2, none⟩ = some (.slice A2_2 l2_2.length c2_2) := (blk_cell BK395.out 2).trans rfl
           have hfz208_0 := blk_frozen BK395.out 0
           have hfz208_1 := blk_frozen BK395.out 1
           have hfz208_2 := blk_frozen BK395.out 2
           try go_wp2
           have n0_ := Aside0.mk (Kd.R_drew HO_1.out)
           have n1_ := Aside0.mk (Kd.R_drew HO_9.out)
           have n2_ := Aside0.mk (Kd.R_drew HO_395000.out)
           have n3_ := Aside0.mk (Kd.R_drew HO_395001.out)
           have n4_ := Aside0.mk (blk_drew BK394.out)
           have n5_ := Aside0.mk (blk_drew BK395.out)
           have n6_ := Aside0.mk (below_drew1 HB.out)
           clear HO_1
           clear HO_9
           clear HO_395000
           clear HO_395001
           clear BK394
           clear BK395
           clear HB
           have HO_1 := n0_
           have HO_9 := n1_
           have HO_395000 := n2_
           have HO_395001 := n3_
           have BK394 := n4_
           have BK395 := n5_
           have HB := n6_
           clear n0_ n1_ n2_ n3_ n4_ n5_ n6_
           obtain ⟨Ao210, co210, eo210⟩ := Kd.R_slice HO_1.out
           (first | subst eo210 | (injection eo210 with f1_ f2_ f3_; have f4_ := f1_.symm; have f5_ := f3_.symm; clear f1_ f2_ f3_; subst f4_; subst f5_))
           refine start_ (n := 8) (S := fun w' => w'.cell? ⟨gb394, 0, none⟩ = some (.slice Ao177 t397.length co177) ∧ w'.cell? ⟨gb394, 1, none⟩ = some (.slice Ao179 t400.length co179)) (ds := []) #[false, false, false, false, false, false, false, false] (by kernel_rfl) rfl rfl ⟨(blk_cell BK394.out 0).trans rfl, (blk_cell BK394.out 1).trans rfl⟩ (fun hHeld => ?_); refine with_tabW topiarylaw15_TreePaths.tab16 topiarylaw15_TreePaths.bits16 (fun HT_ HW_ => ?_)
           generalize wr.drew = w209 at HO_1 HO_9 HO_395000 HO_395001 BK394 BK395 HB hHeld ⊢
           refine pure_ (i := 1) (N := some 76) (v := ?_) (a' := ?_) #[false, true, false, false, false, false, false, false] rfl rfl (any_of HT_.out (by kernel_rfl)) (fun _ _ _ h => h) (Or.inl ⟨by rfl, ?_⟩) ?_ ?_
           rotate_left
           ·intro w'
            go_simp
            with_reducible rfl
           rotate_left
           ·simp only [Act.put, List.setIfInBounds_toArray, List.set_cons_zero, List.set_cons_succ, i64_w, i32_w]
            rfl
           refine pure_ (i := 4) (N := some 79) (v := ?_) (a' := ?_) #[false, true, false, false, true, false, false, false] rfl rfl (any_of HT_.out (by kernel_rfl)) (fun _ _ _ h => h) (Or.inl ⟨by rfl, ?_⟩) ?_ ?_
           rotate_left
           ·intro w'
            go_simp
            with_reducible rfl
           rotate_left
           ·simp only [Act.put, List.setIfInBounds_toArray, List.set_cons_zero, List.set_cons_succ, i64_w, i32_w]
            rfl
           refine take_ (i := 0) (N := some 75) (v := ?_) (a' := ?_) #[true, true, false, false, true, false, false, false] rfl rfl (take_ofW HT_.out HW_.out (by kernel_rfl)) (fun _ _ _ h => h) (Or.inl ⟨by rfl, ?_⟩) hHeld ?_ ?_
           rotate_left
           ·rintro w' ⟨s0, s1⟩
            go_simp
            with_reducible rfl
           rotate_left
           ·simp only [Act.put, List.setIfInBounds_toArray, List.set_cons_zero, List.set_cons_succ, i64_w, i32_w]
            rfl
           refine take_ (i := 3) (N := some 78) (v := ?_) (a' := ?_) #[true, true, false, true, true, false, false, false] rfl rfl (take_ofW HT_.out HW_.out (by kernel_rfl)) (fun _ _ _ h => h) (Or.inl ⟨by rfl, ?_⟩) hHeld ?_ ?_
           rotate_left
           ·rintro w' ⟨s0, s1⟩
            go_simp
            with_reducible rfl
           rotate_left
           ·simp only [Act.put, List.setIfInBounds_toArray, List.set_cons_zero, List.set_cons_succ, i64_w, i32_w]
            rfl
           refine one_ (i := 2) (N := some 77) #[true, true, true, true, true, false, false, false] rfl rfl (one_of HT_.out (by kernel_rfl)) (by decide) (fun K hK => ?_)
           refine goes_ Try.func30 (by kernel_rfl) rfl #[.agg #[.slice Ao177 t397.length co177, .slice Ao179 t400.length co179], .slice Ao210 x1_1.length co210] (by rfl) rfl rfl ar_ ?_
           with_reducible refine (tree_Paths.calls k1 _ _ t397 _ _ t400 (fun k_ => some k_ = (.slice Ao210 x1_1.length co210 : Value).ownBlock) _ _ x1_1 t425 _ ?side1 ?side2 ?side3 ?side4 ?side5 A202.out).mono ?_
           (case side1 => exact cc_ (Kd.R_reads' HO_395000.out).2.2)
           (case side2 => exact (Kd.R_reads' HO_395000.out).2.1)
           (case side3 => exact cc_ (Kd.R_reads' HO_395001.out).2.2)
           (case side4 => exact (Kd.R_reads' HO_395001.out).2.1)
           (case side5 => exact Kd.R_V (Kd.R_tight rfl (Kd.R_types (Kd.R_types (Kd.R_apart' (Kd.R_apart' (HO_1.out) (Kd.R_typed HO_395000.out) (by decide)) (Kd.R_typed HO_395001.out) (by decide)) BK394.out (by decide)) BK395.out (by decide))))
           rintro e w211 ⟨v426, rfl, ho0, hb⟩
           refine ⟨_, rfl, ?_⟩
           have n0_ := Aside0.mk (Kd.R_elder' (rr_ HO_1.out) (Kd.R_base ho0) hb)
           have n1_ := Aside0.mk (Kd.R_elder' (rr_ HO_9.out) (Kd.R_base ho0) hb)
           have n2_ := Aside0.mk (Kd.R_below (rr_ HO_395000.out) hb)
           have n3_ := Aside0.mk (Kd.R_below (rr_ HO_395001.out) hb)
           have n4_ := Aside0.mk (Kd.R_lower (Kd.R_new' (Kd.R_new' (Kd.R_newM (M := fun k_ => (w.heap.size ≤ k_)) (Kd.R_mono (ok' := fun k_ => True) ho0 (fun _ hk_ => trivial)) (below_size (bt_ HB.out GE394.out GE395.out)) (fun k_ h_ => h_)) (Kd.R_lt (rr_ HO_1.out))) (Kd.R_lt (rr_ HO_9.out))) (below_size (bt_ HB.out GE394.out GE395.out)))
           have n5_ := Aside0.mk (blk_below (g := gb394) (o := .cells #[.slice Ao177 t397.length co177, .slice Ao179 t400.length co179] 25 (0, 0)) (bk_ BK394.out) hb)
           have n6_ := Aside0.mk (blk_below (g := gb395) (o := .cells #[.bool true, .int .i64 a2_1, .slice A2_2 l2_2.length c2_2] 45 (0, 0)) (bk_ BK395.out) hb)
           have n7_ := Aside0.mk (below_step (bt_ HB.out GE394.out GE395.out) hb)
           clear HO_1
           clear HO_9
           clear HO_395000
           clear HO_395001
           clear BK394
           clear BK395
           clear HB
           have HO_1 := n0_
           have HO_9 := n1_
           have HO_395000 := n2_
           have HO_395001 := n3_
           have HO427 := n4_
           have BK394 := n5_
           have BK395 := n6_
           have HB := n7_
           clear n0_ n1_ n2_ n3_ n4_ n5_ n6_ n7_
           (try clear hb)
           (try clear hb2)
           (try clear hk)
           (try clear hi)
           (try clear ho0)
           refine hK.out _ _ ⟨(blk_cell BK394.out 0).trans rfl, (blk_cell BK394.out 1).trans rfl⟩ (fun hHeld => ?_)
           clear hK K
           refine norm_ (a' := ?_) ?_ ?_
           rotate_left
           ·show Act.put _ (some 77) _ = _
            simp only [Act.put, List.setIfInBounds_toArray, List.set_cons_zero, List.set_cons_succ, i64_w, i32_w]
            rfl
           refine one_ (i := 5) (N := some 80) #[true, true, true, true, true, true, false, false] rfl rfl (one_of HT_.out (by kernel_rfl)) (by decide) (fun K hK => ?_)
           refine goes_ Try.func31 (by kernel_rfl) rfl #[.agg #[.slice Ao177 t397.length co177, .slice Ao179 t400.length co179], .slice Ao210 x1_1.length co210] (by rfl) rfl rfl ar_ ?_
           with_reducible refine (topiaryref15_Paths.calls k1 _ _ t397 _ _ t400 _ _ x1_1 t428 _ ?side1 ?side2 ?side3 ?side4 ?side5 ?side6 A203.out).mono ?_
           (case side1 => exact cc_ (Kd.R_reads' HO_395000.out).2.2)
           (case side2 => exact (Kd.R_reads' HO_395000.out).2.1)
           (case side3 => exact cc_ (Kd.R_reads' HO_395001.out).2.2)
           (case side4 => exact (Kd.R_reads' HO_395001.out).2.1)
           (case side5 => exact cc_ (Kd.R_reads' HO_1.out).2.2)
           (case side6 => exact (Kd.R_reads' HO_1.out).2.1)
           rintro e w212 ⟨v429, rfl, ho0, hb⟩
           refine ⟨_, rfl, ?_⟩
           have n0_ := Aside0.mk (Kd.R_elder' (rr_ HO_1.out) (Kd.R_base ho0) hb)
           have n1_ := Aside0.mk (Kd.R_elder' (rr_ HO_9.out) (Kd.R_base ho0) hb)
           have n2_ := Aside0.mk (Kd.R_below (rr_ HO_395000.out) hb)
           have n3_ := Aside0.mk (Kd.R_below (rr_ HO_395001.out) hb)
           have n4_ := Aside0.mk (Kd.R_elder' (rr_ HO427.out) (Kd.R_base ho0) hb)
           have n5_ := Aside0.mk (Kd.R_lower (Kd.R_new' (Kd.R_new' (Kd.R_new' (Kd.R_newM (M := fun k_ => (w.heap.size ≤ k_)) ho0 (below_size (bt_ HB.out GE394.out GE395.out)) (fun k_ h_ => h_)) (Kd.R_lt (rr_ HO_1.out))) (Kd.R_lt (rr_ HO_9.out))) (Kd.R_lt (rr_ HO427.out))) (below_size (bt_ HB.out GE394.out GE395.out)))
           have n6_ := Aside0.mk (blk_below (g := gb394) (o := .cells #[.slice Ao177 t397.length co177, .slice Ao179 t400.length co179] 25 (0, 0)) (bk_ BK394.out) hb)
           have n7_ := Aside0.mk (blk_below (g := gb395) (o := .cells #[.bool true, .int .i64 a2_1, .slice A2_2 l2_2.length c2_2] 45 (0, 0)) (bk_ BK395.out) hb)
           have n8_ := Aside0.mk (below_step (bt_ HB.out GE394.out GE395.out) hb)
           clear HO_1
           clear HO_9
           clear HO_395000
           clear HO_395001
           clear HO427
           clear BK394
           clear BK395
           clear HB
           have HO_1 := n0_
           have HO_9 := n1_
           have HO_395000 := n2_
           have HO_395001 := n3_
           have HO427 := n4_
           have HO430 := n5_
           have BK394 := n6_
           have BK395 := n7_
           have HB := n8_
           clear n0_ n1_ n2_ n3_ n4_ n5_ n6_ n7_ n8_
           (try clear hb)
           (try clear hb2)
           (try clear hk)
           (try clear hi)
           (try clear ho0)
           obtain ⟨Ao213, co213, eo213⟩ := Kd.R_slice HO427.out
           (first | subst eo213 | (injection eo213 with f1_ f2_ f3_; have f4_ := f1_.symm; have f5_ := f3_.symm; clear f1_ f2_ f3_; subst f4_; subst f5_))
           obtain ⟨Ao214, co214, eo214⟩ := Kd.R_slice HO430.out
           (first | subst eo214 | (injection eo214 with f1_ f2_ f3_; have f4_ := f1_.symm; have f5_ := f3_.symm; clear f1_ f2_ f3_; subst f4_; subst f5_))
           refine hK.out _ _ ⟨(blk_cell BK394.out 0).trans rfl, (blk_cell BK394.out 1).trans rfl⟩ (fun hHeld => ?_)
           clear hK K
           refine norm_ (a' := ?_) ?_ ?_
           rotate_left
           ·show Act.put _ (some 80) _ = _
            simp only [Act.put, List.setIfInBounds_toArray, List.set_cons_zero, List.set_cons_succ, i64_w, i32_w]
            rfl
           refine one_ (i := 6) (N := some 81) #[true, true, true, true, true, true, true, false] rfl rfl (one_of HT_.out (by kernel_rfl)) (by decide) (fun K hK => ?_)
           refine goes_ Try.func13 (by kernel_rfl) rfl #[.slice Ao213 t425.length co213, .slice Ao214 t428.length co214] (by rfl) rfl rfl ar_ ?_
           with_reducible refine (topiaryref02_Same.calls k1 _ _ t425 _ _ t428 t431 _ ?side1 ?side2 ?side3 ?side4 A204.out).mono ?_
           (case side1 => exact cc_ (Kd.R_reads' HO427.out).2.2)
           (case side2 => exact (Kd.R_reads' HO427.out).2.1)
           (case side3 => exact cc_ (Kd.R_reads' HO430.out).2.2)
           (case side4 => exact (Kd.R_reads' HO430.out).2.1)
           rintro e w' ⟨rfl, ⟨nd, rfl⟩⟩
           refine ⟨_, rfl, ?_⟩
           refine hK.out _ _ ⟨(blk_cell BK394.out 0).trans rfl, (blk_cell BK394.out 1).trans rfl⟩ (fun hHeld => ?_)
           clear hK K
           refine norm_ (a' := ?_) ?_ ?_
           rotate_left
           ·show Act.put _ (some 81) _ = _
            simp only [Act.put, List.setIfInBounds_toArray, List.set_cons_zero, List.set_cons_succ, i64_w, i32_w]
            rfl
           refine pure_ (i := 7) (N := some 12) (v := ?_) (a' := ?_) #[true, true, true, true, true, true, true, true] rfl rfl (any_of HT_.out (by kernel_rfl)) (fun _ _ _ h => h) (Or.inl ⟨by rfl, ?_⟩) ?_ ?_
           rotate_left
           ·intro w'
            go_simp
            with_reducible rfl
           rotate_left
           ·simp only [Act.put, List.setIfInBounds_toArray, List.set_cons_zero, List.set_cons_succ, i64_w, i32_w]
            rfl
           refine done_ (done_of HT_.out (by kernel_rfl)) ?_
           try go_wp2
           go_ret
           exact ⟨by first | rfl | (simp [errW_none, errW_some] <;> rfl) | (simp [*, errW_none, errW_some] <;> rfl), bt_ HB.out GE394.out GE395.out⟩
          ·replace c205 := Bool.eq_false_iff.mpr c205
           subst c205
           rw [if_neg (show ¬ (false = true) by decide)] at H
           have H1 := H
           clear H
           have H := H1
           clear H1
           exact absurd ((Option.some.inj H).trans HRT.out) (by decide)
        ·rw [if_neg c191] at H
         have c191b0 : decide (x10_1 < (y460.length : Int)) = false := decide_eq_false c191
         clear c191
         replace H := Option.bind_eq_some_iff.mp H
         obtain ⟨t432, A2240, H⟩ := H
         try dsimp only at H
         have A224 := Aside0.mk A2240
         clear A2240
         replace H := Option.bind_eq_some_iff.mp H
         obtain ⟨t435, A2250, H⟩ := H
         try dsimp only at H
         have A225 := Aside0.mk A2250
         clear A2250
         replace H := Option.bind_eq_some_iff.mp H
         obtain ⟨t438, A2260, H⟩ := H
         try dsimp only at H
         have A226 := Aside0.mk A2260
         clear A2260
         by_cases c227 : t396 = true
         ·subst c227
          rw [if_pos rfl] at H
          have H1 := H
          clear H
          have H := H1
          clear H1
          obtain rfl := Option.some.inj H
          obtain ⟨Ao228, co228, eo228⟩ := Kd.R_slice HO_9.out
          subst eo228
          try go_wp2
          have n0_ := Aside0.mk (Kd.R_drew HO_1.out)
          have n1_ := Aside0.mk (Kd.R_drew HO_9.out)
          have n2_ := Aside0.mk (Kd.R_drew HO_395000.out)
          have n3_ := Aside0.mk (Kd.R_drew HO_395001.out)
          have n4_ := Aside0.mk (blk_drew BK394.out)
          have n5_ := Aside0.mk (blk_drew BK395.out)
          have n6_ := Aside0.mk (below_drew1 HB.out)
          clear HO_1
          clear HO_9
          clear HO_395000
          clear HO_395001
          clear BK394
          clear BK395
          clear HB
          have HO_1 := n0_
          have HO_9 := n1_
          have HO_395000 := n2_
          have HO_395001 := n3_
          have BK394 := n4_
          have BK395 := n5_
          have HB := n6_
          clear n0_ n1_ n2_ n3_ n4_ n5_ n6_
          obtain ⟨Ao230, co230, eo230⟩ := Kd.R_slice HO_1.out
          (first | subst eo230 | (injection eo230 with f1_ f2_ f3_; have f4_ := f1_.symm; have f5_ := f3_.symm; clear f1_ f2_ f3_; subst f4_; subst f5_))
          refine start_ (n := 8) (S := fun w' => w'.cell? ⟨gb394, 0, none⟩ = some (.slice Ao177 t397.length co177) ∧ w'.cell? ⟨gb394, 1, none⟩ = some (.slice Ao179 t400.length co179)) (ds := []) #[false, false, false, false, false, false, false, false] (by kernel_rfl) rfl rfl ⟨(blk_cell BK394.out 0).trans rfl, (blk_cell BK394.out 1).trans rfl⟩ (fun hHeld => ?_); refine with_tabW topiarylaw15_TreePaths.tab16 topiarylaw15_TreePaths.bits16 (fun HT_ HW_ => ?_)
          generalize wr.drew = w229 at HO_1 HO_9 HO_395000 HO_395001 BK394 BK395 HB hHeld ⊢
          refine pure_ (i := 1) (N := some 76) (v := ?_) (a' := ?_) #[false, true, false, false, false, false, false, false] rfl rfl (any_of HT_.out (by kernel_rfl)) (fun _ _ _ h => h) (Or.inl ⟨by rfl, ?_⟩) ?_ ?_
          rotate_left
          ·intro w'
           go_simp
           with_reducible rfl
          rotate_left
          ·simp only [Act.put, List.setIfInBounds_toArray, List.set_cons_zero, List.set_cons_succ, i64_w, i32_w]
           rfl
          refine pure_ (i := 4) (N := some 79) (v := ?_) (a' := ?_) #[false, true, false, false, true, false, false, false] rfl rfl (any_of HT_.out (by kernel_rfl)) (fun _ _ _ h => h) (Or.inl ⟨by rfl, ?_⟩) ?_ ?_
          rotate_left
          ·intro w'
           go_simp
           with_reducible rfl
          rotate_left
          ·simp only [Act.put, List.setIfInBounds_toArray, List.set_cons_zero, List.set_cons_succ, i64_w, i32_w]
           rfl
          refine take_ (i := 0) (N := some 75) (v := ?_) (a' := ?_) #[true, true, false, false, true, false, false, false] rfl rfl (take_ofW HT_.out HW_.out (by kernel_rfl)) (fun _ _ _ h => h) (Or.inl ⟨by rfl, ?_⟩) hHeld ?_ ?_
          rotate_left
          ·rintro w' ⟨s0, s1⟩
           go_simp
           with_reducible rfl
          rotate_left
          ·simp only [Act.put, List.setIfInBounds_toArray, List.set_cons_zero, List.set_cons_succ, i64_w, i32_w]
           rfl
          refine take_ (i := 3) (N := some 78) (v := ?_) (a' := ?_) #[true, true, false, true, true, false, false, false] rfl rfl (take_ofW HT_.out HW_.out (by kernel_rfl)) (fun _ _ _ h => h) (Or.inl ⟨by rfl, ?_⟩) hHeld ?_ ?_
          rotate_left
          ·rintro w' ⟨s0, s1⟩
           go_simp
           with_reducible rfl
          rotate_left
          ·simp only [Act.put, List.setIfInBounds_toArray, List.set_cons_zero, List.set_cons_succ, i64_w, i32_w]
           rfl
          refine one_ (i := 2) (N := some 77) #[true, true, true, true, true, false, false, false] rfl rfl (one_of HT_.out (by kernel_rfl)) (by decide) (fun K hK => ?_)
          refine goes_ Try.func30 (by kernel_rfl) rfl #[.agg #[.slice Ao177 t397.length co177, .slice Ao179 t400.length co179], .slice Ao230 x1_1.length co230] (by rfl) rfl rfl ar_ ?_
          with_reducible refine (tree_Paths.calls k1 _ _ t397 _ _ t400 (fun k_ => some k_ = (.slice Ao230 x1_1.length co230 : Value).ownBlock) _ _ x1_1 t432 _ ?side1 ?side2 ?side3 ?side4 ?side5 A224.out).mono ?_
          (case side1 => exact cc_ (Kd.R_reads' HO_395000.out).2.2)
          (case side2 => exact (Kd.R_reads' HO_395000.out).2.1)
          (case side3 => exact cc_ (Kd.R_reads' HO_395001.out).2.2)
          (case side4 => exact (Kd.R_reads' HO_395001.out).2.1)
          (case side5 => exact Kd.R_V (Kd.R_tight rfl (Kd.R_types (Kd.R_types (Kd.R_apart' (Kd.R_apart' (HO_1.out) (Kd.R_typed HO_395000.out) (by decide)) (Kd.R_typed HO_395001.out) (by decide)) BK394.out (by decide)) BK395.out (by decide))))
          rintro e w231 ⟨v433, rfl, ho0, hb⟩
          refine ⟨_, rfl, ?_⟩
          have n0_ := Aside0.mk (Kd.R_elder' (rr_ HO_1.out) (Kd.R_base ho0) hb)
          have n1_ := Aside0.mk (Kd.R_elder' (rr_ HO_9.out) (Kd.R_base ho0) hb)
          have n2_ := Aside0.mk (Kd.R_below (rr_ HO_395000.out) hb)
          have n3_ := Aside0.mk (Kd.R_below (rr_ HO_395001.out) hb)
          have n4_ := Aside0.mk (Kd.R_lower (Kd.R_new' (Kd.R_new' (Kd.R_newM (M := fun k_ => (w.heap.size ≤ k_)) (Kd.R_mono (ok' := fun k_ => True) ho0 (fun _ hk_ => trivial)) (below_size (bt_ HB.out GE394.out GE395.out)) (fun k_ h_ => h_)) (Kd.R_lt (rr_ HO_1.out))) (Kd.R_lt (rr_ HO_9.out))) (below_size (bt_ HB.out GE394.out GE395.out)))
          have n5_ := Aside0.mk (blk_below (g := gb394) (o := .cells #[.slice Ao177 t397.length co177, .slice Ao179 t400.length co179] 25 (0, 0)) (bk_ BK394.out) hb)
          have n6_ := Aside0.mk (blk_below (g := gb395) (o := .cells #[.bool true, .int .i64 a2_1, .slice A2_2 l2_2.length c2_2] 45 (0, 0)) (bk_ BK395.out) hb)
          have n7_ := Aside0.mk (below_step (bt_ HB.out GE394.out GE395.out) hb)
          clear HO_1
          clear HO_9
          clear HO_395000
          clear HO_395001
          clear BK394
          clear BK395
          clear HB
          have HO_1 := n0_
          have HO_9 := n1_
          have HO_395000 := n2_
          have HO_395001 := n3_
          have HO434 := n4_
          have BK394 := n5_
          have BK395 := n6_
          have HB := n7_
          clear n0_ n1_ n2_ n3_ n4_ n5_ n6_ n7_
          (try clear hb)
          (try clear hb2)
          (try clear hk)
          (try clear hi)
          (try clear ho0)
          refine hK.out _ _ ⟨(blk_cell BK394.out 0).trans rfl, (blk_cell BK394.out 1).trans rfl⟩ (fun hHeld => ?_)
          clear hK K
          refine norm_ (a' := ?_) ?_ ?_
          rotate_left
          ·show Act.put _ (some 77) _ = _
           simp only [Act.put, List.setIfInBounds_toArray, List.set_cons_zero, List.set_cons_succ, i64_w, i32_w]
           rfl
          refine one_ (i := 5) (N := some 80) #[true, true, true, true, true, true, false, false] rfl rfl (one_of HT_.out (by kernel_rfl)) (by decide) (fun K hK => ?_)
          refine goes_ Try.func31 (by kernel_rfl) rfl #[.agg #[.slice Ao177 t397.length co177, .slice Ao179 t400.length co179], .slice Ao230 x1_1.length co230] (by rfl) rfl rfl ar_ ?_
          with_reducible refine (topiaryref15_Paths.calls k1 _ _ t397 _ _ t400 _ _ x1_1 t435 _ ?side1 ?side2 ?side3 ?side4 ?side5 ?side6 A225.out).mono ?_
          (case side1 => exact cc_ (Kd.R_reads' HO_395000.out).2.2)
          (case side2 => exact (Kd.R_reads' HO_395000.out).2.1)
          (case side3 => exact cc_ (Kd.R_reads' HO_395001.out).2.2)
          (case side4 => exact (Kd.R_reads' HO_395001.out).2.1)
          (case side5 => exact cc_ (Kd.R_reads' HO_1.out).2.2)
          (case side6 => exact (Kd.R_reads' HO_1.out).2.1)
          rintro e w232 ⟨v436, rfl, ho0, hb⟩
          refine ⟨_, rfl, ?_⟩
          have n0_ := Aside0.mk (Kd.R_elder' (rr_ HO_1.out) (Kd.R_base ho0) hb)
          have n1_ := Aside0.mk (Kd.R_elder' (rr_ HO_9.out) (Kd.R_base ho0) hb)
          have n2_ := Aside0.mk (Kd.R_below (rr_ HO_395000.out) hb)
          have n3_ := Aside0.mk (Kd.R_below (rr_ HO_395001.out) hb)
          have n4_ := Aside0.mk (Kd.R_elder' (rr_ HO434.out) (Kd.R_base ho0) hb)
          have n5_ := Aside0.mk (Kd.R_lower (Kd.R_new' (Kd.R_new' (Kd.R_new' (Kd.R_newM (M := fun k_ => (w.heap.size ≤ k_)) ho0 (below_size (bt_ HB.out GE394.out GE395.out)) (fun k_ h_ => h_)) (Kd.R_lt (rr_ HO_1.out))) (Kd.R_lt (rr_ HO_9.out))) (Kd.R_lt (rr_ HO434.out))) (below_size (bt_ HB.out GE394.out GE395.out)))
          have n6_ := Aside0.mk (blk_below (g := gb394) (o := .cells #[.slice Ao177 t397.length co177, .slice Ao179 t400.length co179] 25 (0, 0)) (bk_ BK394.out) hb)
          have n7_ := Aside0.mk (blk_below (g := gb395) (o := .cells #[.bool true, .int .i64 a2_1, .slice A2_2 l2_2.length c2_2] 45 (0, 0)) (bk_ BK395.out) hb)
          have n8_ := Aside0.mk (below_step (bt_ HB.out GE394.out GE395.out) hb)
          clear HO_1
          clear HO_9
          clear HO_395000
          clear HO_395001
          clear HO434
          clear BK394
          clear BK395
          clear HB
          have HO_1 := n0_
          have HO_9 := n1_
          have HO_395000 := n2_
          have HO_395001 := n3_
          have HO434 := n4_
          have HO437 := n5_
          have BK394 := n6_
          have BK395 := n7_
          have HB := n8_
          clear n0_ n1_ n2_ n3_ n4_ n5_ n6_ n7_ n8_
          (try clear hb)
          (try clear hb2)
          (try clear hk)
          (try clear hi)
          (try clear ho0)
          obtain ⟨Ao233, co233, eo233⟩ := Kd.R_slice HO434.out
          (first | subst eo233 | (injection eo233 with f1_ f2_ f3_; have f4_ := f1_.symm; have f5_ := f3_.symm; clear f1_ f2_ f3_; subst f4_; subst f5_))
          obtain ⟨Ao234, co234, eo234⟩ := Kd.R_slice HO437.out
          (first | subst eo234 | (injection eo234 with f1_ f2_ f3_; have f4_ := f1_.symm; have f5_ := f3_.symm; clear f1_ f2_ f3_; subst f4_; subst f5_))
          refine hK.out _ _ ⟨(blk_cell BK394.out 0).trans rfl, (blk_cell BK394.out 1).trans rfl⟩ (fun hHeld => ?_)
          clear hK K
          refine norm_ (a' := ?_) ?_ ?_
          rotate_left
          ·show Act.put _ (some 80) _ = _
           simp only [Act.put, List.setIfInBounds_toArray, List.set_cons_zero, List.set_cons_succ, i64_w, i32_w]
           rfl
          refine one_ (i := 6) (N := some 81) #[true, true, true, true, true, true, true, false] rfl rfl (one_of HT_.out (by kernel_rfl)) (by decide) (fun K hK => ?_)
          refine goes_ Try.func13 (by kernel_rfl) rfl #[.slice Ao233 t432.length co233, .slice Ao234 t435.length co234] (by rfl) rfl rfl ar_ ?_
          with_reducible refine (topiaryref02_Same.calls k1 _ _ t432 _ _ t435 t438 _ ?side1 ?side2 ?side3 ?side4 A226.out).mono ?_
          (case side1 => exact cc_ (Kd.R_reads' HO434.out).2.2)
          (case side2 => exact (Kd.R_reads' HO434.out).2.1)
          (case side3 => exact cc_ (Kd.R_reads' HO437.out).2.2)
          (case side4 => exact (Kd.R_reads' HO437.out).2.1)
          rintro e w' ⟨rfl, ⟨nd, rfl⟩⟩
          refine ⟨_, rfl, ?_⟩
          refine hK.out _ _ ⟨(blk_cell BK394.out 0).trans rfl, (blk_cell BK394.out 1).trans rfl⟩ (fun hHeld => ?_)
          clear hK K
          refine norm_ (a' := ?_) ?_ ?_
          rotate_left
          ·show Act.put _ (some 81) _ = _
           simp only [Act.put, List.setIfInBounds_toArray, List.set_cons_zero, List.set_cons_succ, i64_w, i32_w]
           rfl
          refine pure_ (i := 7) (N := some 12) (v := ?_) (a' := ?_) #[true, true, true, true, true, true, true, true] rfl rfl (any_of HT_.out (by kernel_rfl)) (fun _ _ _ h => h) (Or.inl ⟨by rfl, ?_⟩) ?_ ?_
          rotate_left
          ·intro w'
           go_simp
           with_reducible rfl
          rotate_left
          ·simp only [Act.put, List.setIfInBounds_toArray, List.set_cons_zero, List.set_cons_succ, i64_w, i32_w]
           rfl
          refine done_ (done_of HT_.out (by kernel_rfl)) ?_
          try go_wp2
          go_ret
          exact ⟨by first | rfl | (simp [errW_none, errW_some] <;> rfl) | (simp [*, errW_none, errW_some] <;> rfl), bt_ HB.out GE394.out GE395.out⟩
         ·replace c227 := Bool.eq_false_iff.mpr c227
          subst c227
          rw [if_neg (show ¬ (false = true) by decide)] at H
          have H1 := H
          clear H
          have H := H1
          clear H1
          exact absurd ((Option.some.inj H).trans HRT.out) (by decide)
     ·rw [if_neg c170] at H
      exact absurd H (by simp)
   ·rw [if_neg c166] at H
    have c166b0 : decide (0 < (t400.length : Int)) = false := decide_eq_false c166
    have c166b1 : decide (0 < t400.length) = false := decide_eq_false (by omega)
    clear c166
    replace H := Option.bind_eq_some_iff.mp H
    obtain ⟨t463, A2420, H⟩ := H
    try dsimp only at H
    have A242 := Aside0.mk A2420
    clear A2420
    replace H := Option.bind_eq_some_iff.mp H
    obtain ⟨t466, A2430, H⟩ := H
    try dsimp only at H
    have A243 := Aside0.mk A2430
    clear A2430
    replace H := Option.bind_eq_some_iff.mp H
    obtain ⟨t469, A2440, H⟩ := H
    try dsimp only at H
    have A244 := Aside0.mk A2440
    clear A2440
    by_cases c245 : t396 = true
    ·subst c245
     rw [if_pos rfl] at H
     have H1 := H
     clear H
     have H := H1
     clear H1
     obtain rfl := Option.some.inj H
     go_enter Try.func6, Try.ntmps6
     try go_wp2_with (first | ((with_reducible refine gate_dst (N := 3) rfl ?_); (try (refine gate_guard (by rfl) ?_; dsimp only)); refine box_event ?hg (N := 3) ?hd (cs := #[.slice A0_0 l0_0.length c0_0, .slice A0_1 l0_1.length c0_1]) (t := 25) ?hr ?_; (case hd => rfl); (case hg => rfl); (case hr => first | (go_simp; done) | (go_simp; rfl)); intro gb394 hg w246 hbox hb; have n0_ := Aside0.mk (Kd.V_below (Kd.V_elderB (vv_ HO1.out) gb394 (Nat.le_of_eq hg.symm)) hb); have n1_ := Aside0.mk (below_step (bb_ HB.out) hb); have n2_ := Aside0.mk (hbox); have n3_ := Aside0.mk ((by rw [hg]; exact (below_size (bb_ HB.out)) : w.heap.size ≤ gb394)); have n4_ := Aside0.mk ((by rw [hg]; exact (below_size (bb_ HB.out)) : w.heap.size ≤ gb394)); clear HO1; clear HB; have HO1 := n0_; have HB := n1_; have BK394 := n2_; have GW394 := n3_; have GE394 := n4_; clear n0_ n1_ n2_ n3_ n4_; clear hb hbox hg) | ((with_reducible refine gate_dst (N := 5) rfl ?_); (try (refine gate_guard (by rfl) ?_; dsimp only)); refine box_event ?hg (N := 5) ?hd (cs := #[.bool true, .int .i64 a2_1, .slice A2_2 l2_2.length c2_2]) (t := 45) ?hr ?_; (case hd => rfl); (case hg => rfl); (case hr => first | (go_simp; done) | (go_simp; rfl)); intro gb395 hg w247 hbox hb; have n0_ := Aside0.mk (Kd.V_below (Kd.V_elderB (vv_ HO1.out) gb395 (Nat.le_of_eq hg.symm)) hb); have n1_ := Aside0.mk (blk_below (g := gb394) (o := .cells #[.slice A0_0 l0_0.length c0_0, .slice A0_1 l0_1.length c0_1] 25 (0, 0)) (bk_ BK394.out) hb); have n2_ := Aside0.mk (below_step (bs_ HB.out GE394.out) hb); have n3_ := Aside0.mk (hbox); have n4_ := Aside0.mk ((by rw [hg]; exact (below_size (bs_ HB.out GE394.out)) : w.heap.size ≤ gb395)); have n5_ := Aside0.mk ((by rw [hg]; exact (below_size (bs_ HB.out GE394.out)) : w.heap.size ≤ gb395)); have n6_ := Aside0.mk ((by rw [hg]; exact Nat.ne_of_lt (blk_lt (g := gb394) (o := .cells #[.slice A0_0 l0_0.length c0_0, .slice A0_1 l0_1.length c0_1] 25 (0, 0)) (bk_ BK394.out)) : gb394 ≠ gb395)); have n7_ := Aside0.mk ((by rw [hg]; exact Nat.ne_of_gt (blk_lt (g := gb394) (o := .cells #[.slice A0_0 l0_0.length c0_0, .slice A0_1 l0_1.length c0_1] 25 (0, 0)) (bk_ BK394.out)) : gb395 ≠ gb394)); clear HO1; clear BK394; clear HB; have HO1 := n0_; have BK394 := n1_; have HB := n2_; have BK395 := n3_; have GW395 := n4_; have GE395 := n5_; have NB394_395 := n6_; have NB395_394 := n7_; clear n0_ n1_ n2_ n3_ n4_ n5_ n6_ n7_; clear hb hbox hg) | ((with_reducible refine gate_callee (f := 9) rfl ?_); refine goesL_ (some 13) rfl rfl Try.func9 (by kernel_rfl) rfl #[] rfl ar_ ?_; (with_reducible refine (topiarylaw15_awake.calls k  true _ A4.out).mono ?_); rintro e w248 ⟨rfl, hb⟩; refine ⟨_, rfl, ?_⟩; have n0_ := Aside0.mk (Kd.V_below (vv_ HO1.out) hb); have n1_ := Aside0.mk (blk_below (g := gb394) (o := .cells #[.slice A0_0 l0_0.length c0_0, .slice A0_1 l0_1.length c0_1] 25 (0, 0)) (bk_ BK394.out) hb); have n2_ := Aside0.mk (blk_below (g := gb395) (o := .cells #[.bool true, .int .i64 a2_1, .slice A2_2 l2_2.length c2_2] 45 (0, 0)) (bk_ BK395.out) hb); have n3_ := Aside0.mk (below_step (bt_ HB.out GE394.out GE395.out) hb); clear HO1; clear BK394; clear BK395; clear HB; have HO1 := n0_; have BK394 := n1_; have BK395 := n2_; have HB := n3_; clear n0_ n1_ n2_ n3_; (try clear hb); (try clear hb2); (try clear hk); (try clear hi); have hnb249 := NB394_395.out; have hnc249 := NB395_394.out; have hcz250_0 : w248.cell? ⟨gb394, 0, none⟩ = some (.slice A0_0 l0_0.length c0_0) := (blk_cell BK394.out 0).trans rfl; have hcz250_1 : w248.cell? ⟨gb394, 1, none⟩ = some (.slice A0_1 l0_1.length c0_1) := (blk_cell BK394.out 1).trans rfl; have hfz250_0 := blk_frozen BK394.out 0; have hfz250_1 := blk_frozen BK394.out 1) | ((with_reducible refine gate_callee (f := 10) rfl ?_); refine goesL_ (some 15) rfl rfl Try.func10 (by kernel_rfl) rfl #[.agg #[.slice A0_0 l0_0.length c0_0, .slice A0_1 l0_1.length c0_1]] rfl ar_ ?_; (with_reducible refine (topiarylaw15_small.calls k _ _ l0_0 _ _ l0_1 t397 t400 _ ?side1 ?side2 ?side3 ?side4 A5.out).mono ?_); (case side1 => exact cc_ (Kd.C_below HR0_0.out HB.out)); (case side2 => exact HC0_0.out); (case side3 => exact cc_ (Kd.C_below HR0_1.out HB.out)); (case side4 => exact HC0_1.out); rintro e w251 ⟨v398, v401, rfl, ho0, ho1, hb⟩; refine ⟨_, rfl, ?_⟩; have n0_ := Aside0.mk (Kd.V_mono (Kd.V_told (Kd.V_told (Kd.V_old (vv_ HO1.out) hb) (Kd.R_base ho0)) (Kd.R_base ho1)) (fun _ h_ => h_.1)); have n1_ := Aside0.mk (Kd.R_lower (Kd.R_newM (M := fun k_ => (w.heap.size ≤ k_)) ho0 (below_size (bt_ HB.out GE394.out GE395.out)) (fun k_ h_ => h_)) (below_size (bt_ HB.out GE394.out GE395.out))); have n2_ := Aside0.mk (Kd.R_lower (Kd.R_newM (M := fun k_ => (w.heap.size ≤ k_)) ho1 (below_size (bt_ HB.out GE394.out GE395.out)) (fun k_ h_ => h_)) (below_size (bt_ HB.out GE394.out GE395.out))); have n3_ := Aside0.mk (blk_below (g := gb394) (o := .cells #[.slice A0_0 l0_0.length c0_0, .slice A0_1 l0_1.length c0_1] 25 (0, 0)) (bk_ BK394.out) hb); have n4_ := Aside0.mk (blk_below (g := gb395) (o := .cells #[.bool true, .int .i64 a2_1, .slice A2_2 l2_2.length c2_2] 45 (0, 0)) (bk_ BK395.out) hb); have n5_ := Aside0.mk (below_step (bt_ HB.out GE394.out GE395.out) hb); clear HO1; clear BK394; clear BK395; clear HB; have HO1 := n0_; have HO399 := n1_; have HO402 := n2_; have BK394 := n3_; have BK395 := n4_; have HB := n5_; clear n0_ n1_ n2_ n3_ n4_ n5_; (try clear hb); (try clear hb2); (try clear hk); (try clear hi); (try clear ho0); (try clear ho1); obtain ⟨Ao252, co252, eo252⟩ := Kd.R_slice HO399.out; subst eo252; have hcz253_0 : w251.cell? ⟨gb394, 0, none⟩ = some (.slice A0_0 l0_0.length c0_0) := (blk_cell BK394.out 0).trans rfl; have hcz253_1 : w251.cell? ⟨gb394, 1, none⟩ = some (.slice A0_1 l0_1.length c0_1) := (blk_cell BK394.out 1).trans rfl; have hfz253_0 := blk_frozen BK394.out 0; have hfz253_1 := blk_frozen BK394.out 1; obtain ⟨Ao254, co254, eo254⟩ := Kd.R_slice HO402.out; subst eo254; have hcz255_0 : w251.cell? ⟨gb395, 0, none⟩ = some (.bool true) := (blk_cell BK395.out 0).trans rfl; have hcz255_1 : w251.cell? ⟨gb395, 1, none⟩ = some (.int .i64 a2_1) := (blk_cell BK395.out 1).trans rfl; have hcz255_2 : w251.cell? ⟨gb395, 2, none⟩ = some (.slice A2_2 l2_2.length c2_2) := (blk_cell BK395.out 2).trans rfl; have hfz255_0 := blk_frozen BK395.out 0; have hfz255_1 := blk_frozen BK395.out 1; have hfz255_2 := blk_frozen BK395.out 2))
     have n0_ : Aside0 (Kd.V (Kd.int .i64) 3 ((w251.setCell ⟨gb394, 0, none⟩ (.slice Ao252 t397.length co252)).setCell ⟨gb394, 1, none⟩ (.slice Ao254 t400.length co254)) w.heap.size (fun k_ => (P1_ k_ ∨ w.heap.size ≤ k_) ∧ some k_ ≠ (.slice Ao252 t397.length co252 : Value).ownBlock ∧ some k_ ≠ (.slice Ao254 t400.length co254 : Value).ownBlock ∧ k_ ≠ gb394 ∧ k_ ≠ gb395) (.slice A1 l1.length c1) l1) := ⟨by (with_reducible repeat (first | apply Kd.V_alloc | apply Kd.V_drewN | apply Kd.V_drew)); exact Kd.V_mono (Kd.V_far (p := ⟨gb394, 1, none⟩) (Kd.V_far (p := ⟨gb394, 0, none⟩) (Kd.V_mono HO1.out (fun k_ hk => (⟨hk, hk.1.1.1.2⟩ : _ ∧ k_ ≠ gb394))) (fun _ hk => hk.2) (.slice Ao252 t397.length co252)) (fun _ hk => hk.2) (.slice Ao254 t400.length co254)) (fun _ hk => ⟨hk.1.1.1.1.1, ⟨hk.1.1.2, ⟨hk.1.2, ⟨hk.1.1.1.1.2, hk.1.1.1.2⟩⟩⟩⟩)⟩
     have n1_ : Aside0 (Kd.R Kd.string 9 ((w251.setCell ⟨gb394, 0, none⟩ (.slice Ao252 t397.length co252)).setCell ⟨gb394, 1, none⟩ (.slice Ao254 t400.length co254)) w.heap.size (fun k_ => (w.heap.size ≤ k_)) (.slice Ao252 t397.length co252) t397) := ⟨by (with_reducible repeat (first | apply Kd.R_alloc | apply Kd.R_drewN | apply Kd.R_drew)); exact Kd.R_mono (Kd.R_far (p := ⟨gb394, 1, none⟩) (Kd.R_far (p := ⟨gb394, 0, none⟩) (Kd.R_types HO399.out BK394.out (by decide)) (fun _ hk => hk.2) (.slice Ao252 t397.length co252)) (fun _ hk => hk.2) (.slice Ao254 t400.length co254)) (fun _ hk => hk.1.1)⟩
     have n2_ : Aside0 (Kd.R k52 52 ((w251.setCell ⟨gb394, 0, none⟩ (.slice Ao252 t397.length co252)).setCell ⟨gb394, 1, none⟩ (.slice Ao254 t400.length co254)) w.heap.size (fun k_ => (w.heap.size ≤ k_)) (.slice Ao254 t400.length co254) t400) := ⟨by (with_reducible repeat (first | apply Kd.R_alloc | apply Kd.R_drewN | apply Kd.R_drew)); exact Kd.R_mono (Kd.R_far (p := ⟨gb394, 1, none⟩) (Kd.R_far (p := ⟨gb394, 0, none⟩) (Kd.R_types HO402.out BK394.out (by decide)) (fun _ hk => hk.2) (.slice Ao252 t397.length co252)) (fun _ hk => hk.2) (.slice Ao254 t400.length co254)) (fun _ hk => hk.1.1)⟩
     have n3_ : Aside0 (((w251.setCell ⟨gb394, 0, none⟩ (.slice Ao252 t397.length co252)).setCell ⟨gb394, 1, none⟩ (.slice Ao254 t400.length co254)).heap[gb394]? = some (.cells #[.slice Ao252 t397.length co252, .slice Ao254 t400.length co254] 25 (0, 0))) := ⟨by (with_reducible repeat (first | refine blk_drewN ?_ _ | refine blk_drew ?_ | refine blk_alloc ?_ _)); refine blk_put (cs := #[.slice Ao252 t397.length co252, .slice A0_1 l0_1.length c0_1]) ?_ 1 _ rfl; (with_reducible repeat (first | refine blk_drewN ?_ _ | refine blk_drew ?_ | refine blk_alloc ?_ _)); refine blk_put (cs := #[.slice A0_0 l0_0.length c0_0, .slice A0_1 l0_1.length c0_1]) ?_ 0 _ rfl; exact bk_ BK394.out⟩
     have n4_ : Aside0 (((w251.setCell ⟨gb394, 0, none⟩ (.slice Ao252 t397.length co252)).setCell ⟨gb394, 1, none⟩ (.slice Ao254 t400.length co254)).heap[gb395]? = some (.cells #[.bool true, .int .i64 a2_1, .slice A2_2 l2_2.length c2_2] 45 (0, 0))) := ⟨by (with_reducible repeat (first | refine blk_drewN ?_ _ | refine blk_drew ?_ | refine blk_alloc ?_ _)); refine blk_far ?_ NB395_394.out _; (with_reducible repeat (first | refine blk_drewN ?_ _ | refine blk_drew ?_ | refine blk_alloc ?_ _)); refine blk_far ?_ NB395_394.out _; exact bk_ BK395.out⟩
     have n5_ : Aside0 (Below w.heap.size w ((w251.setCell ⟨gb394, 0, none⟩ (.slice Ao252 t397.length co252)).setCell ⟨gb394, 1, none⟩ (.slice Ao254 t400.length co254))) := ⟨bt_ HB.out GE394.out GE395.out⟩
     (try clear HO1)
     (try clear HO399)
     (try clear HO402)
     (try clear BK394)
     (try clear BK395)
     (try clear HB)
     generalize ((w251.setCell ⟨gb394, 0, none⟩ (.slice Ao252 t397.length co252)).setCell ⟨gb394, 1, none⟩ (.slice Ao254 t400.length co254)) = w256 at n0_ n1_ n2_ n3_ n4_ n5_ ⊢
     have HO1 := n0_
     have HO399 := n1_
     have HO402 := n2_
     have BK394 := n3_
     have BK395 := n4_
     have HB := n5_
     clear n0_ n1_ n2_ n3_ n4_ n5_
     have n0_ := Aside0.mk (Kd.V_drew HO1.out)
     have n1_ := Aside0.mk (Kd.R_drew HO399.out)
     have n2_ := Aside0.mk (Kd.R_drew HO402.out)
     have n3_ := Aside0.mk (blk_drew BK394.out)
     have n4_ := Aside0.mk (blk_drew BK395.out)
     have n5_ := Aside0.mk (below_drew1 HB.out)
     clear HO1
     clear HO399
     clear HO402
     clear BK394
     clear BK395
     clear HB
     have HO1 := n0_
     have HO399 := n1_
     have HO402 := n2_
     have BK394 := n3_
     have BK395 := n4_
     have HB := n5_
     clear n0_ n1_ n2_ n3_ n4_ n5_
     refine start_ (n := 8) (S := fun w' => w'.cell? ⟨gb394, 0, none⟩ = some (.slice Ao252 t397.length co252) ∧ w'.cell? ⟨gb394, 1, none⟩ = some (.slice Ao254 t400.length co254)) (ds := []) #[false, false, false, false, false, false, false, false] (by kernel_rfl) rfl rfl ⟨(blk_cell BK394.out 0).trans rfl, (blk_cell BK394.out 1).trans rfl⟩ (fun hHeld => ?_); refine with_tabW topiarylaw15_TreePaths.tab16 topiarylaw15_TreePaths.bits16 (fun HT_ HW_ => ?_)
     generalize w256.drew = w257 at HO1 HO399 HO402 BK394 BK395 HB hHeld ⊢
     refine pure_ (i := 1) (N := some 76) (v := ?_) (a' := ?_) #[false, true, false, false, false, false, false, false] rfl rfl (any_of HT_.out (by kernel_rfl)) (fun _ _ _ h => h) (Or.inl ⟨by rfl, ?_⟩) ?_ ?_
     rotate_left
     ·intro w'
      go_simp
      with_reducible rfl
     rotate_left
     ·simp only [Act.put, List.setIfInBounds_toArray, List.set_cons_zero, List.set_cons_succ, i64_w, i32_w]
      rfl
     refine pure_ (i := 4) (N := some 79) (v := ?_) (a' := ?_) #[false, true, false, false, true, false, false, false] rfl rfl (any_of HT_.out (by kernel_rfl)) (fun _ _ _ h => h) (Or.inl ⟨by rfl, ?_⟩) ?_ ?_
     rotate_left
     ·intro w'
      go_simp
      with_reducible rfl
     rotate_left
     ·simp only [Act.put, List.setIfInBounds_toArray, List.set_cons_zero, List.set_cons_succ, i64_w, i32_w]
      rfl
     refine take_ (i := 0) (N := some 75) (v := ?_) (a' := ?_) #[true, true, false, false, true, false, false, false] rfl rfl (take_ofW HT_.out HW_.out (by kernel_rfl)) (fun _ _ _ h => h) (Or.inl ⟨by rfl, ?_⟩) hHeld ?_ ?_
     rotate_left
     ·rintro w' ⟨s0, s1⟩
      go_simp
      with_reducible rfl
     rotate_left
     ·simp only [Act.put, List.setIfInBounds_toArray, List.set_cons_zero, List.set_cons_succ, i64_w, i32_w]
      rfl
     refine take_ (i := 3) (N := some 78) (v := ?_) (a' := ?_) #[true, true, false, true, true, false, false, false] rfl rfl (take_ofW HT_.out HW_.out (by kernel_rfl)) (fun _ _ _ h => h) (Or.inl ⟨by rfl, ?_⟩) hHeld ?_ ?_
     rotate_left
     ·rintro w' ⟨s0, s1⟩
      go_simp
      with_reducible rfl
     rotate_left
     ·simp only [Act.put, List.setIfInBounds_toArray, List.set_cons_zero, List.set_cons_succ, i64_w, i32_w]
      rfl
     refine one_ (i := 2) (N := some 77) #[true, true, true, true, true, false, false, false] rfl rfl (one_of HT_.out (by kernel_rfl)) (by decide) (fun K hK => ?_)
     refine goes_ Try.func30 (by kernel_rfl) rfl #[.agg #[.slice Ao252 t397.length co252, .slice Ao254 t400.length co254], .slice A1 l1.length c1] (by rfl) rfl rfl ar_ ?_
     with_reducible refine (tree_Paths.calls k _ _ t397 _ _ t400 (fun k_ => ((P1_ k_ ∨ w.heap.size ≤ k_) ∧ (some k_ ≠ (.slice Ao252 t397.length co252 : Value).ownBlock ∧ (some k_ ≠ (.slice Ao254 t400.length co254 : Value).ownBlock ∧ (k_ ≠ gb394 ∧ k_ ≠ gb395))))) _ _ l1 t463 _ ?side1 ?side2 ?side3 ?side4 ?side5 A242.out).mono ?_
     (case side1 => exact cc_ (Kd.R_reads' HO399.out).2.2)
     (case side2 => exact (Kd.R_reads' HO399.out).2.1)
     (case side3 => exact cc_ (Kd.R_reads' HO402.out).2.2)
     (case side4 => exact (Kd.R_reads' HO402.out).2.1)
     (case side5 => exact HO1.out)
     rintro e w258 ⟨v464, rfl, ho0, hb⟩
     refine ⟨_, rfl, ?_⟩
     have n0_ := Aside0.mk (Kd.V_elder' (vv_ HO1.out) (Kd.R_base ho0) hb)
     have n1_ := Aside0.mk (Kd.R_below (rr_ HO399.out) hb)
     have n2_ := Aside0.mk (Kd.R_below (rr_ HO402.out) hb)
     have n3_ := Aside0.mk (Kd.R_lower (Kd.R_newM (M := fun k_ => (w.heap.size ≤ k_)) (Kd.R_mono (ok' := fun k_ => True) ho0 (fun _ hk_ => trivial)) (below_size (bt_ HB.out GE394.out GE395.out)) (fun k_ h_ => h_)) (below_size (bt_ HB.out GE394.out GE395.out)))
     have n4_ := Aside0.mk (blk_below (g := gb394) (o := .cells #[.slice Ao252 t397.length co252, .slice Ao254 t400.length co254] 25 (0, 0)) (bk_ BK394.out) hb)
     have n5_ := Aside0.mk (blk_below (g := gb395) (o := .cells #[.bool true, .int .i64 a2_1, .slice A2_2 l2_2.length c2_2] 45 (0, 0)) (bk_ BK395.out) hb)
     have n6_ := Aside0.mk (below_step (bt_ HB.out GE394.out GE395.out) hb)
     clear HO1
     clear HO399
     clear HO402
     clear BK394
     clear BK395
     clear HB
     have HO1 := n0_
     have HO399 := n1_
     have HO402 := n2_
     have HO465 := n3_
     have BK394 := n4_
     have BK395 := n5_
     have HB := n6_
     clear n0_ n1_ n2_ n3_ n4_ n5_ n6_
     (try clear hb)
     (try clear hb2)
     (try clear hk)
     (try clear hi)
     (try clear ho0)
     refine hK.out _ _ ⟨(blk_cell BK394.out 0).trans rfl, (blk_cell BK394.out 1).trans rfl⟩ (fun hHeld => ?_)
     clear hK K
     refine norm_ (a' := ?_) ?_ ?_
     rotate_left
     ·show Act.put _ (some 77) _ = _
      simp only [Act.put, List.setIfInBounds_toArray, List.set_cons_zero, List.set_cons_succ, i64_w, i32_w]
      rfl
     refine one_ (i := 5) (N := some 80) #[true, true, true, true, true, true, false, false] rfl rfl (one_of HT_.out (by kernel_rfl)) (by decide) (fun K hK => ?_)
     refine goes_ Try.func31 (by kernel_rfl) rfl #[.agg #[.slice Ao252 t397.length co252, .slice Ao254 t400.length co254], .slice A1 l1.length c1] (by rfl) rfl rfl ar_ ?_
     with_reducible refine (topiaryref15_Paths.calls k _ _ t397 _ _ t400 _ _ l1 t466 _ ?side1 ?side2 ?side3 ?side4 ?side5 ?side6 A243.out).mono ?_
     (case side1 => exact cc_ (Kd.R_reads' HO399.out).2.2)
     (case side2 => exact (Kd.R_reads' HO399.out).2.1)
     (case side3 => exact cc_ (Kd.R_reads' HO402.out).2.2)
     (case side4 => exact (Kd.R_reads' HO402.out).2.1)
     (case side5 => exact cc_ (Kd.V_reads' HO1.out).2.2)
     (case side6 => exact (Kd.V_reads' HO1.out).2.1)
     rintro e w259 ⟨v467, rfl, ho0, hb⟩
     refine ⟨_, rfl, ?_⟩
     have n0_ := Aside0.mk (Kd.V_elder' (vv_ HO1.out) (Kd.R_base ho0) hb)
     have n1_ := Aside0.mk (Kd.R_below (rr_ HO399.out) hb)
     have n2_ := Aside0.mk (Kd.R_below (rr_ HO402.out) hb)
     have n3_ := Aside0.mk (Kd.R_elder' (rr_ HO465.out) (Kd.R_base ho0) hb)
     have n4_ := Aside0.mk (Kd.R_lower (Kd.R_new' (Kd.R_newM (M := fun k_ => (w.heap.size ≤ k_)) ho0 (below_size (bt_ HB.out GE394.out GE395.out)) (fun k_ h_ => h_)) (Kd.R_lt (rr_ HO465.out))) (below_size (bt_ HB.out GE394.out GE395.out)))
     have n5_ := Aside0.mk (blk_below (g := gb394) (o := .cells #[.slice Ao252 t397.length co252, .slice Ao254 t400.length co254] 25 (0, 0)) (bk_ BK394.out) hb)
     have n6_ := Aside0.mk (blk_below (g := gb395) (o := .cells #[.bool true, .int .i64 a2_1, .slice A2_2 l2_2.length c2_2] 45 (0, 0)) (bk_ BK395.out) hb)
     have n7_ := Aside0.mk (below_step (bt_ HB.out GE394.out GE395.out) hb)
     clear HO1
     clear HO399
     clear HO402
     clear HO465
     clear BK394
     clear BK395
     clear HB
     have HO1 := n0_
     have HO399 := n1_
     have HO402 := n2_
     have HO465 := n3_
     have HO468 := n4_
     have BK394 := n5_
     have BK395 := n6_
     have HB := n7_
     clear n0_ n1_ n2_ n3_ n4_ n5_ n6_ n7_
     (try clear hb)
     (try clear hb2)
     (try clear hk)
     (try clear hi)
     (try clear ho0)
     obtain ⟨Ao260, co260, eo260⟩ := Kd.R_slice HO465.out
     (first | subst eo260 | (injection eo260 with f1_ f2_ f3_; have f4_ := f1_.symm; have f5_ := f3_.symm; clear f1_ f2_ f3_; subst f4_; subst f5_))
     obtain ⟨Ao261, co261, eo261⟩ := Kd.R_slice HO468.out
     (first | subst eo261 | (injection eo261 with f1_ f2_ f3_; have f4_ := f1_.symm; have f5_ := f3_.symm; clear f1_ f2_ f3_; subst f4_; subst f5_))
     refine hK.out _ _ ⟨(blk_cell BK394.out 0).trans rfl, (blk_cell BK394.out 1).trans rfl⟩ (fun hHeld => ?_)
     clear hK K
     refine norm_ (a' := ?_) ?_ ?_
     rotate_left
     ·show Act.put _ (some 80) _ = _
      simp only [Act.put, List.setIfInBounds_toArray, List.set_cons_zero, List.set_cons_succ, i64_w, i32_w]
      rfl
     refine one_ (i := 6) (N := some 81) #[true, true, true, true, true, true, true, false] rfl rfl (one_of HT_.out (by kernel_rfl)) (by decide) (fun K hK => ?_)
     refine goes_ Try.func13 (by kernel_rfl) rfl #[.slice Ao260 t463.length co260, .slice Ao261 t466.length co261] (by rfl) rfl rfl ar_ ?_
     with_reducible refine (topiaryref02_Same.calls k _ _ t463 _ _ t466 t469 _ ?side1 ?side2 ?side3 ?side4 A244.out).mono ?_
     (case side1 => exact cc_ (Kd.R_reads' HO465.out).2.2)
     (case side2 => exact (Kd.R_reads' HO465.out).2.1)
     (case side3 => exact cc_ (Kd.R_reads' HO468.out).2.2)
     (case side4 => exact (Kd.R_reads' HO468.out).2.1)
     rintro e w' ⟨rfl, ⟨nd, rfl⟩⟩
     refine ⟨_, rfl, ?_⟩
     refine hK.out _ _ ⟨(blk_cell BK394.out 0).trans rfl, (blk_cell BK394.out 1).trans rfl⟩ (fun hHeld => ?_)
     clear hK K
     refine norm_ (a' := ?_) ?_ ?_
     rotate_left
     ·show Act.put _ (some 81) _ = _
      simp only [Act.put, List.setIfInBounds_toArray, List.set_cons_zero, List.set_cons_succ, i64_w, i32_w]
      rfl
     refine pure_ (i := 7) (N := some 12) (v := ?_) (a' := ?_) #[true, true, true, true, true, true, true, true] rfl rfl (any_of HT_.out (by kernel_rfl)) (fun _ _ _ h => h) (Or.inl ⟨by rfl, ?_⟩) ?_ ?_
     rotate_left
     ·intro w'
      go_simp
      with_reducible rfl
     rotate_left
     ·simp only [Act.put, List.setIfInBounds_toArray, List.set_cons_zero, List.set_cons_succ, i64_w, i32_w]
      rfl
     refine done_ (done_of HT_.out (by kernel_rfl)) ?_
     try go_wp2
     go_ret
     exact ⟨by first | rfl | (simp [errW_none, errW_some] <;> rfl) | (simp [*, errW_none, errW_some] <;> rfl), bt_ HB.out GE394.out GE395.out⟩
    ·replace c245 := Bool.eq_false_iff.mpr c245
     subst c245
     rw [if_neg (show ¬ (false = true) by decide)] at H
     have H1 := H
     clear H
     have H := H1
     clear H1
     exact absurd ((Option.some.inj H).trans HRT.out) (by decide)
  ·replace c165 := Bool.eq_false_iff.mpr c165
   subst c165
   rw [if_neg (show ¬ (false = true) by decide)] at H
   have H1 := H
   clear H
   have H := H1
   clear H1
   replace H := Option.bind_eq_some_iff.mp H
   obtain ⟨t470, A2780, H⟩ := H
   try dsimp only at H
   have A278 := Aside0.mk A2780
   clear A2780
   replace H := Option.bind_eq_some_iff.mp H
   obtain ⟨t473, A2790, H⟩ := H
   try dsimp only at H
   have A279 := Aside0.mk A2790
   clear A2790
   replace H := Option.bind_eq_some_iff.mp H
   obtain ⟨t476, A2800, H⟩ := H
   try dsimp only at H
   have A280 := Aside0.mk A2800
   clear A2800
   by_cases c281 : t396 = true
   ·subst c281
    rw [if_pos rfl] at H
    have H1 := H
    clear H
    have H := H1
    clear H1
    obtain rfl := Option.some.inj H
    go_enter Try.func6, Try.ntmps6
    try go_wp2_with (first | ((with_reducible refine gate_dst (N := 3) rfl ?_); (try (refine gate_guard (by rfl) ?_; dsimp only)); refine box_event ?hg (N := 3) ?hd (cs := #[.slice A0_0 l0_0.length c0_0, .slice A0_1 l0_1.length c0_1]) (t := 25) ?hr ?_; (case hd => rfl); (case hg => rfl); (case hr => first | (go_simp; done) | (go_simp; rfl)); intro gb394 hg w282 hbox hb; have n0_ := Aside0.mk (Kd.V_below (Kd.V_elderB (vv_ HO1.out) gb394 (Nat.le_of_eq hg.symm)) hb); have n1_ := Aside0.mk (below_step (bb_ HB.out) hb); have n2_ := Aside0.mk (hbox); have n3_ := Aside0.mk ((by rw [hg]; exact (below_size (bb_ HB.out)) : w.heap.size ≤ gb394)); have n4_ := Aside0.mk ((by rw [hg]; exact (below_size (bb_ HB.out)) : w.heap.size ≤ gb394)); clear HO1; clear HB; have HO1 := n0_; have HB := n1_; have BK394 := n2_; have GW394 := n3_; have GE394 := n4_; clear n0_ n1_ n2_ n3_ n4_; clear hb hbox hg) | ((with_reducible refine gate_dst (N := 5) rfl ?_); (try (refine gate_guard (by rfl) ?_; dsimp only)); refine box_event ?hg (N := 5) ?hd (cs := #[.bool false, .int .i64 a2_1, .slice A2_2 l2_2.length c2_2]) (t := 45) ?hr ?_; (case hd => rfl); (case hg => rfl); (case hr => first | (go_simp; done) | (go_simp; rfl)); intro gb395 hg w283 hbox hb; have n0_ := Aside0.mk (Kd.V_below (Kd.V_elderB (vv_ HO1.out) gb395 (Nat.le_of_eq hg.symm)) hb); have n1_ := Aside0.mk (blk_below (g := gb394) (o := .cells #[.slice A0_0 l0_0.length c0_0, .slice A0_1 l0_1.length c0_1] 25 (0, 0)) (bk_ BK394.out) hb); have n2_ := Aside0.mk (below_step (bs_ HB.out GE394.out) hb); have n3_ := Aside0.mk (hbox); have n4_ := Aside0.mk ((by rw [hg]; exact (below_size (bs_ HB.out GE394.out)) : w.heap.size ≤ gb395)); have n5_ := Aside0.mk ((by rw [hg]; exact (below_size (bs_ HB.out GE394.out)) : w.heap.size ≤ gb395)); have n6_ := Aside0.mk ((by rw [hg]; exact Nat.ne_of_lt (blk_lt (g := gb394) (o := .cells #[.slice A0_0 l0_0.length c0_0, .slice A0_1 l0_1.length c0_1] 25 (0, 0)) (bk_ BK394.out)) : gb394 ≠ gb395)); have n7_ := Aside0.mk ((by rw [hg]; exact Nat.ne_of_gt (blk_lt (g := gb394) (o := .cells #[.slice A0_0 l0_0.length c0_0, .slice A0_1 l0_1.length c0_1] 25 (0, 0)) (bk_ BK394.out)) : gb395 ≠ gb394)); clear HO1; clear BK394; clear HB; have HO1 := n0_; have BK394 := n1_; have HB := n2_; have BK395 := n3_; have GW395 := n4_; have GE395 := n5_; have NB394_395 := n6_; have NB395_394 := n7_; clear n0_ n1_ n2_ n3_ n4_ n5_ n6_ n7_; clear hb hbox hg) | ((with_reducible refine gate_callee (f := 9) rfl ?_); refine goesL_ (some 13) rfl rfl Try.func9 (by kernel_rfl) rfl #[] rfl ar_ ?_; (with_reducible refine (topiarylaw15_awake.calls k  true _ A4.out).mono ?_); rintro e w284 ⟨rfl, hb⟩; refine ⟨_, rfl, ?_⟩; have n0_ := Aside0.mk (Kd.V_below (vv_ HO1.out) hb); have n1_ := Aside0.mk (blk_below (g := gb394) (o := .cells #[.slice A0_0 l0_0.length c0_0, .slice A0_1 l0_1.length c0_1] 25 (0, 0)) (bk_ BK394.out) hb); have n2_ := Aside0.mk (blk_below (g := gb395) (o := .cells #[.bool false, .int .i64 a2_1, .slice A2_2 l2_2.length c2_2] 45 (0, 0)) (bk_ BK395.out) hb); have n3_ := Aside0.mk (below_step (bt_ HB.out GE394.out GE395.out) hb); clear HO1; clear BK394; clear BK395; clear HB; have HO1 := n0_; have BK394 := n1_; have BK395 := n2_; have HB := n3_; clear n0_ n1_ n2_ n3_; (try clear hb); (try clear hb2); (try clear hk); (try clear hi); have hnb285 := NB394_395.out; have hnc285 := NB395_394.out; have hcz286_0 : w284.cell? ⟨gb394, 0, none⟩ = some (.slice A0_0 l0_0.length c0_0) := (blk_cell BK394.out 0).trans rfl; have hcz286_1 : w284.cell? ⟨gb394, 1, none⟩ = some (.slice A0_1 l0_1.length c0_1) := (blk_cell BK394.out 1).trans rfl; have hfz286_0 := blk_frozen BK394.out 0; have hfz286_1 := blk_frozen BK394.out 1) | ((with_reducible refine gate_callee (f := 10) rfl ?_); refine goesL_ (some 15) rfl rfl Try.func10 (by kernel_rfl) rfl #[.agg #[.slice A0_0 l0_0.length c0_0, .slice A0_1 l0_1.length c0_1]] rfl ar_ ?_; (with_reducible refine (topiarylaw15_small.calls k _ _ l0_0 _ _ l0_1 t397 t400 _ ?side1 ?side2 ?side3 ?side4 A5.out).mono ?_); (case side1 => exact cc_ (Kd.C_below HR0_0.out HB.out)); (case side2 => exact HC0_0.out); (case side3 => exact cc_ (Kd.C_below HR0_1.out HB.out)); (case side4 => exact HC0_1.out); rintro e w287 ⟨v398, v401, rfl, ho0, ho1, hb⟩; refine ⟨_, rfl, ?_⟩; have n0_ := Aside0.mk (Kd.V_mono (Kd.V_told (Kd.V_told (Kd.V_old (vv_ HO1.out) hb) (Kd.R_base ho0)) (Kd.R_base ho1)) (fun _ h_ => h_.1)); have n1_ := Aside0.mk (Kd.R_lower (Kd.R_newM (M := fun k_ => (w.heap.size ≤ k_)) ho0 (below_size (bt_ HB.out GE394.out GE395.out)) (fun k_ h_ => h_)) (below_size (bt_ HB.out GE394.out GE395.out))); have n2_ := Aside0.mk (Kd.R_lower (Kd.R_newM (M := fun k_ => (w.heap.size ≤ k_)) ho1 (below_size (bt_ HB.out GE394.out GE395.out)) (fun k_ h_ => h_)) (below_size (bt_ HB.out GE394.out GE395.out))); have n3_ := Aside0.mk (blk_below (g := gb394) (o := .cells #[.slice A0_0 l0_0.length c0_0, .slice A0_1 l0_1.length c0_1] 25 (0, 0)) (bk_ BK394.out) hb); have n4_ := Aside0.mk (blk_below (g := gb395) (o := .cells #[.bool false, .int .i64 a2_1, .slice A2_2 l2_2.length c2_2] 45 (0, 0)) (bk_ BK395.out) hb); have n5_ := Aside0.mk (below_step (bt_ HB.out GE394.out GE395.out) hb); clear HO1; clear BK394; clear BK395; clear HB; have HO1 := n0_; have HO399 := n1_; have HO402 := n2_; have BK394 := n3_; have BK395 := n4_; have HB := n5_; clear n0_ n1_ n2_ n3_ n4_ n5_; (try clear hb); (try clear hb2); (try clear hk); (try clear hi); (try clear ho0); (try clear ho1); obtain ⟨Ao288, co288, eo288⟩ := Kd.R_slice HO399.out; subst eo288; have hcz289_0 : w287.cell? ⟨gb394, 0, none⟩ = some (.slice A0_0 l0_0.length c0_0) := (blk_cell BK394.out 0).trans rfl; have hcz289_1 : w287.cell? ⟨gb394, 1, none⟩ = some (.slice A0_1 l0_1.length c0_1) := (blk_cell BK394.out 1).trans rfl; have hfz289_0 := blk_frozen BK394.out 0; have hfz289_1 := blk_frozen BK394.out 1; obtain ⟨Ao290, co290, eo290⟩ := Kd.R_slice HO402.out; subst eo290; have hcz291_0 : w287.cell? ⟨gb395, 0, none⟩ = some (.bool false) := (blk_cell BK395.out 0).trans rfl; have hcz291_1 : w287.cell? ⟨gb395, 1, none⟩ = some (.int .i64 a2_1) := (blk_cell BK395.out 1).trans rfl; have hcz291_2 : w287.cell? ⟨gb395, 2, none⟩ = some (.slice A2_2 l2_2.length c2_2) := (blk_cell BK395.out 2).trans rfl; have hfz291_0 := blk_frozen BK395.out 0; have hfz291_1 := blk_frozen BK395.out 1; have hfz291_2 := blk_frozen BK395.out 2))
    have n0_ : Aside0 (Kd.V (Kd.int .i64) 3 ((w287.setCell ⟨gb394, 0, none⟩ (.slice Ao288 t397.length co288)).setCell ⟨gb394, 1, none⟩ (.slice Ao290 t400.length co290)) w.heap.size (fun k_ => (P1_ k_ ∨ w.heap.size ≤ k_) ∧ some k_ ≠ (.slice Ao288 t397.length co288 : Value).ownBlock ∧ some k_ ≠ (.slice Ao290 t400.length co290 : Value).ownBlock ∧ k_ ≠ gb394 ∧ k_ ≠ gb395) (.slice A1 l1.length c1) l1) := ⟨by (with_reducible repeat (first | apply Kd.V_alloc | apply Kd.V_drewN | apply Kd.V_drew)); exact Kd.V_mono (Kd.V_far (p := ⟨gb394, 1, none⟩) (Kd.V_far (p := ⟨gb394, 0, none⟩) (Kd.V_mono HO1.out (fun k_ hk => (⟨hk, hk.1.1.1.2⟩ : _ ∧ k_ ≠ gb394))) (fun _ hk => hk.2) (.slice Ao288 t397.length co288)) (fun _ hk => hk.2) (.slice Ao290 t400.length co290)) (fun _ hk => ⟨hk.1.1.1.1.1, ⟨hk.1.1.2, ⟨hk.1.2, ⟨hk.1.1.1.1.2, hk.1.1.1.2⟩⟩⟩⟩)⟩
    have n1_ : Aside0 (Kd.R Kd.string 9 ((w287.setCell ⟨gb394, 0, none⟩ (.slice Ao288 t397.length co288)).setCell ⟨gb394, 1, none⟩ (.slice Ao290 t400.length co290)) w.heap.size (fun k_ => (w.heap.size ≤ k_)) (.slice Ao288 t397.length co288) t397) := ⟨by (with_reducible repeat (first | apply Kd.R_alloc | apply Kd.R_drewN | apply Kd.R_drew)); exact Kd.R_mono (Kd.R_far (p := ⟨gb394, 1, none⟩) (Kd.R_far (p := ⟨gb394, 0, none⟩) (Kd.R_types HO399.out BK394.out (by decide)) (fun _ hk => hk.2) (.slice Ao288 t397.length co288)) (fun _ hk => hk.2) (.slice Ao290 t400.length co290)) (fun _ hk => hk.1.1)⟩
    have n2_ : Aside0 (Kd.R k52 52 ((w287.setCell ⟨gb394, 0, none⟩ (.slice Ao288 t397.length co288)).setCell ⟨gb394, 1, none⟩ (.slice Ao290 t400.length co290)) w.heap.size (fun k_ => (w.heap.size ≤ k_)) (.slice Ao290 t400.length co290) t400) := ⟨by (with_reducible repeat (first | apply Kd.R_alloc | apply Kd.R_drewN | apply Kd.R_drew)); exact Kd.R_mono (Kd.R_far (p := ⟨gb394, 1, none⟩) (Kd.R_far (p := ⟨gb394, 0, none⟩) (Kd.R_types HO402.out BK394.out (by decide)) (fun _ hk => hk.2) (.slice Ao288 t397.length co288)) (fun _ hk => hk.2) (.slice Ao290 t400.length co290)) (fun _ hk => hk.1.1)⟩
    have n3_ : Aside0 (((w287.setCell ⟨gb394, 0, none⟩ (.slice Ao288 t397.length co288)).setCell ⟨gb394, 1, none⟩ (.slice Ao290 t400.length co290)).heap[gb394]? = some (.cells #[.slice Ao288 t397.length co288, .slice Ao290 t400.length co290] 25 (0, 0))) := ⟨by (with_reducible repeat (first | refine blk_drewN ?_ _ | refine blk_drew ?_ | refine blk_alloc ?_ _)); refine blk_put (cs := #[.slice Ao288 t397.length co288, .slice A0_1 l0_1.length c0_1]) ?_ 1 _ rfl; (with_reducible repeat (first | refine blk_drewN ?_ _ | refine blk_drew ?_ | refine blk_alloc ?_ _)); refine blk_put (cs := #[.slice A0_0 l0_0.length c0_0, .slice A0_1 l0_1.length c0_1]) ?_ 0 _ rfl; exact bk_ BK394.out⟩
    have n4_ : Aside0 (((w287.setCell ⟨gb394, 0, none⟩ (.slice Ao288 t397.length co288)).setCell ⟨gb394, 1, none⟩ (.slice Ao290 t400.length co290)).heap[gb395]? = some (.cells #[.bool false, .int .i64 a2_1, .slice A2_2 l2_2.length c2_2] 45 (0, 0))) := ⟨by (with_reducible repeat (first | refine blk_drewN ?_ _ | refine blk_drew ?_ | refine blk_alloc ?_ _)); refine blk_far ?_ NB395_394.out _; (with_reducible repeat (first | refine blk_drewN ?_ _ | refine blk_drew ?_ | refine blk_alloc ?_ _)); refine blk_far ?_ NB395_394.out _; exact bk_ BK395.out⟩
    have n5_ : Aside0 (Below w.heap.size w ((w287.setCell ⟨gb394, 0, none⟩ (.slice Ao288 t397.length co288)).setCell ⟨gb394, 1, none⟩ (.slice Ao290 t400.length co290))) := ⟨bt_ HB.out GE394.out GE395.out⟩
    (try clear HO1)
    (try clear HO399)
    (try clear HO402)
    (try clear BK394)
    (try clear BK395)
    (try clear HB)
    generalize ((w287.setCell ⟨gb394, 0, none⟩ (.slice Ao288 t397.length co288)).setCell ⟨gb394, 1, none⟩ (.slice Ao290 t400.length co290)) = w292 at n0_ n1_ n2_ n3_ n4_ n5_ ⊢
    have HO1 := n0_
    have HO399 := n1_
    have HO402 := n2_
    have BK394 := n3_
    have BK395 := n4_
    have HB := n5_
    clear n0_ n1_ n2_ n3_ n4_ n5_
    have n0_ := Aside0.mk (Kd.V_drew HO1.out)
    have n1_ := Aside0.mk (Kd.R_drew HO399.out)
    have n2_ := Aside0.mk (Kd.R_drew HO402.out)
    have n3_ := Aside0.mk (blk_drew BK394.out)
    have n4_ := Aside0.mk (blk_drew BK395.out)
    have n5_ := Aside0.mk (below_drew1 HB.out)
    clear HO1
    clear HO399
    clear HO402
    clear BK394
    clear BK395
    clear HB
    have HO1 := n0_
    have HO399 := n1_
    have HO402 := n2_
    have BK394 := n3_
    have BK395 := n4_
    have HB := n5_
    clear n0_ n1_ n2_ n3_ n4_ n5_
    refine start_ (n := 8) (S := fun w' => w'.cell? ⟨gb394, 0, none⟩ = some (.slice Ao288 t397.length co288) ∧ w'.cell? ⟨gb394, 1, none⟩ = some (.slice Ao290 t400.length co290)) (ds := []) #[false, false, false, false, false, false, false, false] (by kernel_rfl) rfl rfl ⟨(blk_cell BK394.out 0).trans rfl, (blk_cell BK394.out 1).trans rfl⟩ (fun hHeld => ?_); refine with_tabW topiarylaw15_TreePaths.tab16 topiarylaw15_TreePaths.bits16 (fun HT_ HW_ => ?_)
    generalize w292.drew = w293 at HO1 HO399 HO402 BK394 BK395 HB hHeld ⊢
    refine pure_ (i := 1) (N := some 76) (v := ?_) (a' := ?_) #[false, true, false, false, false, false, false, false] rfl rfl (any_of HT_.out (by kernel_rfl)) (fun _ _ _ h => h) (Or.inl ⟨by rfl, ?_⟩) ?_ ?_
    rotate_left
    ·intro w'
     go_simp
     with_reducible rfl
    rotate_left
    ·simp only [Act.put, List.setIfInBounds_toArray, List.set_cons_zero, List.set_cons_succ, i64_w, i32_w]
     rfl
    refine pure_ (i := 4) (N := some 79) (v := ?_) (a' := ?_) #[false, true, false, false, true, false, false, false] rfl rfl (any_of HT_.out (by kernel_rfl)) (fun _ _ _ h => h) (Or.inl ⟨by rfl, ?_⟩) ?_ ?_
    rotate_left
    ·intro w'
     go_simp
     with_reducible rfl
    rotate_left
    ·simp only [Act.put, List.setIfInBounds_toArray, List.set_cons_zero, List.set_cons_succ, i64_w, i32_w]
     rfl
    refine take_ (i := 0) (N := some 75) (v := ?_) (a' := ?_) #[true, true, false, false, true, false, false, false] rfl rfl (take_ofW HT_.out HW_.out (by kernel_rfl)) (fun _ _ _ h => h) (Or.inl ⟨by rfl, ?_⟩) hHeld ?_ ?_
    rotate_left
    ·rintro w' ⟨s0, s1⟩
     go_simp
     with_reducible rfl
    rotate_left
    ·simp only [Act.put, List.setIfInBounds_toArray, List.set_cons_zero, List.set_cons_succ, i64_w, i32_w]
     rfl
    refine take_ (i := 3) (N := some 78) (v := ?_) (a' := ?_) #[true, true, false, true, true, false, false, false] rfl rfl (take_ofW HT_.out HW_.out (by kernel_rfl)) (fun _ _ _ h => h) (Or.inl ⟨by rfl, ?_⟩) hHeld ?_ ?_
    rotate_left
    ·rintro w' ⟨s0, s1⟩
     go_simp
     with_reducible rfl
    rotate_left
    ·simp only [Act.put, List.setIfInBounds_toArray, List.set_cons_zero, List.set_cons_succ, i64_w, i32_w]
     rfl
    refine one_ (i := 2) (N := some 77) #[true, true, true, true, true, false, false, false] rfl rfl (one_of HT_.out (by kernel_rfl)) (by decide) (fun K hK => ?_)
    refine goes_ Try.func30 (by kernel_rfl) rfl #[.agg #[.slice Ao288 t397.length co288, .slice Ao290 t400.length co290], .slice A1 l1.length c1] (by rfl) rfl rfl ar_ ?_
    with_reducible refine (tree_Paths.calls k _ _ t397 _ _ t400 (fun k_ => ((P1_ k_ ∨ w.heap.size ≤ k_) ∧ (some k_ ≠ (.slice Ao288 t397.length co288 : Value).ownBlock ∧ (some k_ ≠ (.slice Ao290 t400.length co290 : Value).ownBlock ∧ (k_ ≠ gb394 ∧ k_ ≠ gb395))))) _ _ l1 t470 _ ?side1 ?side2 ?side3 ?side4 ?side5 A278.out).mono ?_
    (case side1 => exact cc_ (Kd.R_reads' HO399.out).2.2)
    (case side2 => exact (Kd.R_reads' HO399.out).2.1)
    (case side3 => exact cc_ (Kd.R_reads' HO402.out).2.2)
    (case side4 => exact (Kd.R_reads' HO402.out).2.1)
    (case side5 => exact HO1.out)
    rintro e w294 ⟨v471, rfl, ho0, hb⟩
    refine ⟨_, rfl, ?_⟩
    have n0_ := Aside0.mk (Kd.V_elder' (vv_ HO1.out) (Kd.R_base ho0) hb)
    have n1_ := Aside0.mk (Kd.R_below (rr_ HO399.out) hb)
    have n2_ := Aside0.mk (Kd.R_below (rr_ HO402.out) hb)
    have n3_ := Aside0.mk (Kd.R_lower (Kd.R_newM (M := fun k_ => (w.heap.size ≤ k_)) (Kd.R_mono (ok' := fun k_ => True) ho0 (fun _ hk_ => trivial)) (below_size (bt_ HB.out GE394.out GE395.out)) (fun k_ h_ => h_)) (below_size (bt_ HB.out GE394.out GE395.out)))
    have n4_ := Aside0.mk (blk_below (g := gb394) (o := .cells #[.slice Ao288 t397.length co288, .slice Ao290 t400.length co290] 25 (0, 0)) (bk_ BK394.out) hb)
    have n5_ := Aside0.mk (blk_below (g := gb395) (o := .cells #[.bool false, .int .i64 a2_1, .slice A2_2 l2_2.length c2_2] 45 (0, 0)) (bk_ BK395.out) hb)
    have n6_ := Aside0.mk (below_step (bt_ HB.out GE394.out GE395.out) hb)
    clear HO1
    clear HO399
    clear HO402
    clear BK394
    clear BK395
    clear HB
    have HO1 := n0_
    have HO399 := n1_
    have HO402 := n2_
    have HO472 := n3_
    have BK394 := n4_
    have BK395 := n5_
    have HB := n6_
    clear n0_ n1_ n2_ n3_ n4_ n5_ n6_
    (try clear hb)
    (try clear hb2)
    (try clear hk)
    (try clear hi)
    (try clear ho0)
    refine hK.out _ _ ⟨(blk_cell BK394.out 0).trans rfl, (blk_cell BK394.out 1).trans rfl⟩ (fun hHeld => ?_)
    clear hK K
    refine norm_ (a' := ?_) ?_ ?_
    rotate_left
    ·show Act.put _ (some 77) _ = _
     simp only [Act.put, List.setIfInBounds_toArray, List.set_cons_zero, List.set_cons_succ, i64_w, i32_w]
     rfl
    refine one_ (i := 5) (N := some 80) #[true, true, true, true, true, true, false, false] rfl rfl (one_of HT_.out (by kernel_rfl)) (by decide) (fun K hK => ?_)
    refine goes_ Try.func31 (by kernel_rfl) rfl #[.agg #[.slice Ao288 t397.length co288, .slice Ao290 t400.length co290], .slice A1 l1.length c1] (by rfl) rfl rfl ar_ ?_
    with_reducible refine (topiaryref15_Paths.calls k _ _ t397 _ _ t400 _ _ l1 t473 _ ?side1 ?side2 ?side3 ?side4 ?side5 ?side6 A279.out).mono ?_
    (case side1 => exact cc_ (Kd.R_reads' HO399.out).2.2)
    (case side2 => exact (Kd.R_reads' HO399.out).2.1)
    (case side3 => exact cc_ (Kd.R_reads' HO402.out).2.2)
    (case side4 => exact (Kd.R_reads' HO402.out).2.1)
    (case side5 => exact cc_ (Kd.V_reads' HO1.out).2.2)
    (case side6 => exact (Kd.V_reads' HO1.out).2.1)
    rintro e w295 ⟨v474, rfl, ho0, hb⟩
    refine ⟨_, rfl, ?_⟩
    have n0_ := Aside0.mk (Kd.V_elder' (vv_ HO1.out) (Kd.R_base ho0) hb)
    have n1_ := Aside0.mk (Kd.R_below (rr_ HO399.out) hb)
    have n2_ := Aside0.mk (Kd.R_below (rr_ HO402.out) hb)
    have n3_ := Aside0.mk (Kd.R_elder' (rr_ HO472.out) (Kd.R_base ho0) hb)
    have n4_ := Aside0.mk (Kd.R_lower (Kd.R_new' (Kd.R_newM (M := fun k_ => (w.heap.size ≤ k_)) ho0 (below_size (bt_ HB.out GE394.out GE395.out)) (fun k_ h_ => h_)) (Kd.R_lt (rr_ HO472.out))) (below_size (bt_ HB.out GE394.out GE395.out)))
    have n5_ := Aside0.mk (blk_below (g := gb394) (o := .cells #[.slice Ao288 t397.length co288, .slice Ao290 t400.length co290] 25 (0, 0)) (bk_ BK394.out) hb)
    have n6_ := Aside0.mk (blk_below (g := gb395) (o := .cells #[.bool false, .int .i64 a2_1, .slice A2_2 l2_2.length c2_2] 45 (0, 0)) (bk_ BK395.out) hb)
    have n7_ := Aside0.mk (below_step (bt_ HB.out GE394.out GE395.out) hb)
    clear HO1
    clear HO399
    clear HO402
    clear HO472
    clear BK394
    clear BK395
    clear HB
    have HO1 := n0_
    have HO399 := n1_
    have HO402 := n2_
    have HO472 := n3_
    have HO475 := n4_
    have BK394 := n5_
    have BK395 := n6_
    have HB := n7_
    clear n0_ n1_ n2_ n3_ n4_ n5_ n6_ n7_
    (try clear hb)
    (try clear hb2)
    (try clear hk)
    (try clear hi)
    (try clear ho0)
    obtain ⟨Ao296, co296, eo296⟩ := Kd.R_slice HO472.out
    (first | subst eo296 | (injection eo296 with f1_ f2_ f3_; have f4_ := f1_.symm; have f5_ := f3_.symm; clear f1_ f2_ f3_; subst f4_; subst f5_))
    obtain ⟨Ao297, co297, eo297⟩ := Kd.R_slice HO475.out
    (first | subst eo297 | (injection eo297 with f1_ f2_ f3_; have f4_ := f1_.symm; have f5_ := f3_.symm; clear f1_ f2_ f3_; subst f4_; subst f5_))
    refine hK.out _ _ ⟨(blk_cell BK394.out 0).trans rfl, (blk_cell BK394.out 1).trans rfl⟩ (fun hHeld => ?_)
    clear hK K
    refine norm_ (a' := ?_) ?_ ?_
    rotate_left
    ·show Act.put _ (some 80) _ = _
     simp only [Act.put, List.setIfInBounds_toArray, List.set_cons_zero, List.set_cons_succ, i64_w, i32_w]
     rfl
    refine one_ (i := 6) (N := some 81) #[true, true, true, true, true, true, true, false] rfl rfl (one_of HT_.out (by kernel_rfl)) (by decide) (fun K hK => ?_)
    refine goes_ Try.func13 (by kernel_rfl) rfl #[.slice Ao296 t470.length co296, .slice Ao297 t473.length co297] (by rfl) rfl rfl ar_ ?_
    with_reducible refine (topiaryref02_Same.calls k _ _ t470 _ _ t473 t476 _ ?side1 ?side2 ?side3 ?side4 A280.out).mono ?_
    (case side1 => exact cc_ (Kd.R_reads' HO472.out).2.2)
    (case side2 => exact (Kd.R_reads' HO472.out).2.1)
    (case side3 => exact cc_ (Kd.R_reads' HO475.out).2.2)
    (case side4 => exact (Kd.R_reads' HO475.out).2.1)
    rintro e w' ⟨rfl, ⟨nd, rfl⟩⟩
    refine ⟨_, rfl, ?_⟩
    refine hK.out _ _ ⟨(blk_cell BK394.out 0).trans rfl, (blk_cell BK394.out 1).trans rfl⟩ (fun hHeld => ?_)
    clear hK K
    refine norm_ (a' := ?_) ?_ ?_
    rotate_left
    ·show Act.put _ (some 81) _ = _
     simp only [Act.put, List.setIfInBounds_toArray, List.set_cons_zero, List.set_cons_succ, i64_w, i32_w]
     rfl
    refine pure_ (i := 7) (N := some 12) (v := ?_) (a' := ?_) #[true, true, true, true, true, true, true, true] rfl rfl (any_of HT_.out (by kernel_rfl)) (fun _ _ _ h => h) (Or.inl ⟨by rfl, ?_⟩) ?_ ?_
    rotate_left
    ·intro w'
     go_simp
     with_reducible rfl
    rotate_left
    ·simp only [Act.put, List.setIfInBounds_toArray, List.set_cons_zero, List.set_cons_succ, i64_w, i32_w]
     rfl
    refine done_ (done_of HT_.out (by kernel_rfl)) ?_
    try go_wp2
    go_ret
    exact ⟨by first | rfl | (simp [errW_none, errW_some] <;> rfl) | (simp [*, errW_none, errW_some] <;> rfl), bt_ HB.out GE394.out GE395.out⟩
   ·replace c281 := Bool.eq_false_iff.mpr c281
    subst c281
    rw [if_neg (show ¬ (false = true) by decide)] at H
    have H1 := H
    clear H
    have H := H1
    clear H1
    exact absurd ((Option.some.inj H).trans HRT.out) (by decide)
end Go.Proofs.Ytoanmoddppmffaa.T
