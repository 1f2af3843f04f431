/- What each function of the program comes to, and its walk: laid by a program. -/
import Derived.Test.YtoanmoddppmffaaETx0
import Derived.Test.YtoanmoddppmffaaETx1
import Derived.Test.YtoanmoddppmffaaETx2
import Derived.Test.YtoanmoddppmffaaETx3
import Derived.Test.YtoanmoddppmffaaETx4
import Derived.Test.YtoanmoddppmffaaETx5
import Derived.Test.YtoanmoddppmffaaETx6
import Derived.Test.YtoanmoddppmffaaETx7
import Derived.Test.YtoanmoddppmffaaETx8
import Derived.Test.YtoanmoddppmffaaETx9
import Derived.Test.YtoanmoddppmffaaETx10
import Derived.Test.YtoanmoddppmffaaETx11
import Derived.Test.YtoanmoddppmffaaETx12
import Derived.Test.YtoanmoddppmffaaETx13
import Derived.Test.YtoanmoddppmffaaETx14
import Derived.Test.YtoanmoddppmffaaETx15
import Derived.Test.YtoanmoddppmffaaETx16
import Derived.Test.YtoanmoddppmffaaETx17
import Derived.Test.YtoanmoddppmffaaETx18
import Derived.Test.YtoanmoddppmffaaETx19
import Derived.Test.YtoanmoddppmffaaETx20
import Derived.Test.YtoanmoddppmffaaETx21
namespace Go.Proofs.Ytoanmoddppmffaa.T
open Go.RowKit Go.Proofs.YtoanmoddppmffaaW.PrintWords Go.Proofs.YtoanmoddppmffaaW.PrintLast Go.Proofs.YtoanmoddppmffaaW.PrintMore
set_option linter.unusedVariables false
set_option linter.unusedSimpArgs false
mutual
def topiarylaw15_TreeOwn.j0 : Nat → Bool → Bool → Int → Int → List ByteArray → List (S52) → Option (Bool)
 | 0, _, _, _, _, _, _ => none
 | k + 1, x5, x31, x369000, x369001, x379000, x379001 => if x31 = true then (some x5) else (if (x379001.length : Int) = 0 then (none) else ((tree_Up.f x379000 x379001 (Int.tmod (wrap64 ((Int.tmod x369000 (x379001.length : Int)) + (x379001.length : Int))) (x379001.length : Int))).bind fun t379 => (if (wrap64 ((t379.length : Int) + 1)) = 0 then (none) else ((tree_Symbol.f k x379000 x379001 (Int.tmod (wrap64 ((Int.tmod x369000 (x379001.length : Int)) + (x379001.length : Int))) (x379001.length : Int))).bind fun t382 => (topiarylaw15_TreeOwn.l0 k x5 (Int.tmod (wrap64 ((Int.tmod x369000 (x379001.length : Int)) + (x379001.length : Int))) (x379001.length : Int)) t379 (Int.tmod (wrap64 ((wrap64 ((Int.tmod x369001 (wrap64 ((t379.length : Int) + 1))) + (t379.length : Int))) + 1)) (wrap64 ((t379.length : Int) + 1))) (([t382] : List Int)) 0 x379000 x379001)))))
def topiarylaw15_TreeOwn.l0 : Nat → Bool → Int → List Int → Int → List Int → Int → List ByteArray → List (S52) → Option (Bool)
 | 0, _, _, _, _, _, _, _, _ => none
 | k + 1, x5, x8, x9, x10, x11, x12, x379000, x379001 => if x12 < x10 then (if 0 ≤ x12 then (if x12 < (x9.length : Int) then (if ([] : List Int).length < 17592186044416 then ((some (([] : List Int) ++ [rd x9 x12] : List Int)).bind fun y387 => (if y387.length + x11.length < 17592186044416 then (topiarylaw15_TreeOwn.l0 k x5 x8 x9 x10 (y387 ++ x11) (wrap64 (x12 + 1)) x379000 x379001) else (none))) else (none)) else (none)) else (none)) else ((tree_Paths.f k x379000 x379001 x11).bind fun t393 => (topiarylaw15_TreeOwn.l1 k x5 x8 x9 x10 t393 false 0 x379000 x379001))
def topiarylaw15_TreeOwn.l1 : Nat → Bool → Int → List Int → Int → List Int → Bool → Int → List ByteArray → List (S52) → Option (Bool)
 | 0, _, _, _, _, _, _, _, _, _ => none
 | k + 1, x5, x8, x9, x10, x14, x15, x16, x379000, x379001 => if x16 < (x14.length : Int) then (if x15 = true then (topiarylaw15_TreeOwn.j3 k x5 x8 x9 x10 x14 true x16 x379000 x379001) else (if 0 ≤ x16 then (topiarylaw15_TreeOwn.j3 k x5 x8 x9 x10 x14 ((rd x14 x16) == x8) x16 x379000 x379001) else (none))) else (if x5 = true then (if x15 = true then ((tree_Depth.f x379000 x379001 x8).bind fun t396 => (some ((x9.length : Int) == t396))) else (some false)) else (some false))
def topiarylaw15_TreeOwn.j3 : Nat → Bool → Int → List Int → Int → List Int → Bool → Int → List ByteArray → List (S52) → Option (Bool)
 | 0, _, _, _, _, _, _, _, _, _ => none
 | k + 1, x5, x8, x9, x10, x14, x15, x16, x379000, x379001 => if 0 ≤ x16 then (if x16 < (x14.length : Int) then ((tree_Depth.f x379000 x379001 (rd x14 x16)).bind fun t399 => (if t399 < x10 then (some false) else ((tree_Symbol.f k x379000 x379001 (rd x14 x16)).bind fun t401 => ((tree_Symbol.f k x379000 x379001 x8).bind fun t402 => (if t401 = t402 then (topiarylaw15_TreeOwn.l1 k x5 x8 x9 x10 x14 x15 (wrap64 (x16 + 1)) x379000 x379001) else (some false)))))) else (none)) else (none)
end
def topiarylaw15_TreeOwn.f (k : Nat) (a0 : ByteArray) (a1_0 : Int) (a1_1 : Int) : Option (Bool) := (topiarylaw15_awake.f k).bind fun t369 => ((topiarylaw15_short.f a0 200).bind fun t370 => ((topiaryref13_Parse.f k t370).bind fun bt371 => (if bt371.2.2 = 0 then (topiarylaw15_TreeOwn.j0 k t369 ((bt371.2.1.length : Int) == 0) a1_0 a1_1 bt371.1 bt371.2.1) else (topiarylaw15_TreeOwn.j0 k t369 true a1_0 a1_1 bt371.1 bt371.2.1))))
def topiarylaw15_TreeOwn.T5 : Bool × List (List Nat × List Nat) := (true, [([], []), ([0], [0]), ([], []), ([2], [2]), ([3], [3]), ([1, 4], [1, 4]), ([], []), ([6], [6]), ([7], [7]), ([5, 8], [5, 8]), ([], []), ([10], [10]), ([11], [11]), ([9, 12], [9, 12]), ([13, 0, 1, 2, 3, 4, 5, 6, 7, 8, 9, 10, 11, 12, 13], [13])])
def topiarylaw15_TreeOwn.B5 : List Nat := [0, 1, 0, 4, 12, 31, 0, 64, 192, 511, 0, 1024, 3072, 8191, 16383]
theorem topiarylaw15_TreeOwn.tab5 : rtab .any (opsOf Try.f8 5) = topiarylaw15_TreeOwn.T5 := by kernel_rfl
theorem topiarylaw15_TreeOwn.bits5 : waitsOk topiarylaw15_TreeOwn.T5.2 topiarylaw15_TreeOwn.B5 = true := by kernel_rfl
def topiarylaw15_TreeOwn.T21 : Bool × List (List Nat × List Nat) := (true, [([], []), ([], []), ([], []), ([1, 2], [1, 2]), ([3], [3]), ([0, 4], [0, 4]), ([], []), ([5, 6], [5, 6]), ([7, 5], [7]), ([8], [8]), ([8], [8]), ([8], [8]), ([10, 11, 8], [8, 10, 11]), ([12, 8], [8, 12]), ([9, 13, 8, 8], [8, 9, 13]), ([8], [8]), ([8], [8]), ([15, 16, 14, 8], [8, 15, 16]), ([14, 17, 8], [8, 14, 17]), ([8, 18], [8, 18])])
def topiarylaw15_TreeOwn.B21 : List Nat := [0, 0, 0, 6, 14, 31, 0, 127, 255, 511, 511, 511, 3583, 7679, 16383, 511, 511, 131071, 262143, 524287]
theorem topiarylaw15_TreeOwn.tab21 : rtab .any (opsOf Try.f8 21) = topiarylaw15_TreeOwn.T21 := by kernel_rfl
theorem topiarylaw15_TreeOwn.bits21 : waitsOk topiarylaw15_TreeOwn.T21.2 topiarylaw15_TreeOwn.B21 = true := by kernel_rfl
set_option maxHeartbeats 8000000 in
set_option maxRecDepth 100000 in
theorem topiarylaw15_TreeOwn.calls (k : Nat) (a0 : ByteArray) (a1_0 : Int) (a1_1 : Int) (r : Bool) (w : World) (h : topiarylaw15_TreeOwn.f k a0 a1_0 a1_1 = some r) (hrt : r = true) :
  Calls Try.prog 8 #[.string a0, .agg #[.int .i64 a1_0, .int .i64 a1_1]] w fun e w' => e = .returned (.bool r) ∧ Below w.heap.size w w' := by
 have HRT := Aside0.mk hrt
 clear hrt
 have hu49 := Try.underlying49
 have hu25 := Try.underlying25
 have HB := Aside0.mk (Below.refl w.heap.size w)
 have H : ((topiarylaw15_awake.f k).bind fun t369 => ((topiarylaw15_short.f a0 200).bind fun t370 => ((topiaryref13_Parse.f k t370).bind fun bt371 => (if bt371.2.2 = 0 then (topiarylaw15_TreeOwn.j0 k t369 ((bt371.2.1.length : Int) == 0) a1_0 a1_1 bt371.1 bt371.2.1) else (topiarylaw15_TreeOwn.j0 k t369 true a1_0 a1_1 bt371.1 bt371.2.1))))) = some r := h
 clear h
 replace H := Option.bind_eq_some_iff.mp H
 obtain ⟨t369, A30, H⟩ := H
 replace H : ((topiarylaw15_short.f a0 200).bind fun t370 => ((topiaryref13_Parse.f k t370).bind fun bt371 => (if bt371.2.2 = 0 then (topiarylaw15_TreeOwn.j0 k t369 ((bt371.2.1.length : Int) == 0) a1_0 a1_1 bt371.1 bt371.2.1) else (topiarylaw15_TreeOwn.j0 k t369 true a1_0 a1_1 bt371.1 bt371.2.1)))) = some r := H
 have A3 := Aside0.mk A30
 clear A30
 replace H := Option.bind_eq_some_iff.mp H
 obtain ⟨t370, A40, H⟩ := H
 replace H : ((topiaryref13_Parse.f k t370).bind fun bt371 => (if bt371.2.2 = 0 then (topiarylaw15_TreeOwn.j0 k t369 ((bt371.2.1.length : Int) == 0) a1_0 a1_1 bt371.1 bt371.2.1) else (topiarylaw15_TreeOwn.j0 k t369 true a1_0 a1_1 bt371.1 bt371.2.1))) = some r := H
 have A4 := Aside0.mk A40
 clear A40
 replace H := Option.bind_eq_some_iff.mp H
 obtain ⟨⟨t371, t374, t377⟩, A50, H⟩ := H
 replace H : (if t377 = 0 then (topiarylaw15_TreeOwn.j0 k t369 ((t374.length : Int) == 0) a1_0 a1_1 t371 t374) else (topiarylaw15_TreeOwn.j0 k t369 true a1_0 a1_1 t371 t374)) = some r := H
 have A5 := Aside0.mk A50
 clear A50
 have HC6 := Aside0.mk H
 clear H
 go_enter Try.func8, Try.ntmps8
 go_upto_region 3 with (first | ((with_reducible refine gate_dst (N := 3) rfl ?_); (try (refine gate_guard (by rfl) ?_; dsimp only)); refine box_event ?hg (N := 3) ?hd (cs := #[.int .i64 a1_0, .int .i64 a1_1]) (t := 49) ?hr ?_; (case hd => rfl); (case hg => rfl); (case hr => first | (go_simp; done) | (go_simp; rfl)); intro gb368 hg w7 hbox hb; have n0_ := Aside0.mk (below_step (bb_ HB.out) hb); have n1_ := Aside0.mk (hbox); have n2_ := Aside0.mk ((by rw [hg]; exact (below_size (bb_ HB.out)) : w.heap.size ≤ gb368)); have n3_ := Aside0.mk ((by rw [hg]; exact (below_size (bb_ HB.out)) : w.heap.size ≤ gb368)); clear HB; have HB := n0_; have BK368 := n1_; have GW368 := n2_; have GE368 := n3_; clear n0_ n1_ n2_ n3_; clear hb hbox hg) | ((with_reducible refine gate_callee (f := 9) rfl ?_); refine goesL_ (some 17) rfl rfl Try.func9 (by kernel_rfl) rfl #[] rfl ar_ ?_; (with_reducible refine (topiarylaw15_awake.calls k  t369 _ A3.out).mono ?_); rintro e w8 ⟨rfl, hb⟩; refine ⟨_, rfl, ?_⟩; have n0_ := Aside0.mk (blk_below (g := gb368) (o := .cells #[.int .i64 a1_0, .int .i64 a1_1] 49 (0, 0)) (bk_ BK368.out) hb); have n1_ := Aside0.mk (below_step (bs_ HB.out GE368.out) hb); clear BK368; clear HB; have BK368 := n0_; have HB := n1_; clear n0_ n1_; (try clear hb); (try clear hb2); (try clear hk); (try clear hi)) | ((with_reducible refine gate_callee (f := 29) rfl ?_); refine goesL_ (some 20) rfl rfl Try.func29 (by kernel_rfl) rfl #[.string a0, .int .i64 200] rfl ar_ ?_; (with_reducible refine (topiarylaw15_short.calls a0 200 t370 _ A4.out).mono ?_); rintro e w' ⟨rfl, ⟨nd, rfl⟩⟩; refine ⟨_, rfl, ?_⟩; (try (rw [drewN_self w8]; generalize hq_ : World.drewN w8 _ = w8; have n0_ : Aside0 (w8.heap[gb368]? = some (.cells #[.int .i64 a1_0, .int .i64 a1_1] 49 (0, 0))) := ⟨by rw [← hq_]; exact (bk_ BK368.out)⟩; have n1_ : Aside0 (Below w.heap.size w w8) := ⟨by rw [← hq_]; exact (bs_ HB.out GE368.out)⟩; clear BK368 HB hq_; have BK368 := n0_; have HB := n1_; clear n0_ n1_))) | ((with_reducible refine gate_callee (f := 28) rfl ?_); refine goesL_ (some 21) rfl rfl Try.func28 (by kernel_rfl) rfl #[.string t370] rfl ar_ ?_; (with_reducible refine (topiaryref13_Parse.calls k t370 t371 t374 t377 _ A5.out).mono ?_); rintro e w9 ⟨v372, v375, rfl, ho0, ho1, hb⟩; refine ⟨_, rfl, ?_⟩; have n0_ := Aside0.mk (Kd.R_lower ho0 (below_size (bs_ HB.out GE368.out))); have n1_ := Aside0.mk (Kd.R_lower ho1 (below_size (bs_ HB.out GE368.out))); have n2_ := Aside0.mk (blk_below (g := gb368) (o := .cells #[.int .i64 a1_0, .int .i64 a1_1] 49 (0, 0)) (bk_ BK368.out) hb); have n3_ := Aside0.mk (below_step (bs_ HB.out GE368.out) hb); clear BK368; clear HB; have HO373 := n0_; have HO376 := n1_; have BK368 := n2_; have HB := n3_; clear n0_ n1_ n2_ n3_; (try clear hb); (try clear hb2); (try clear hk); (try clear hi); (try clear ho0); (try clear ho1)) | ((with_reducible refine gate_dst (N := 6) rfl ?_); (try (refine gate_guard (by rfl) ?_; dsimp only)); refine box_event ?hg (N := 6) ?hd (cs := #[.slice none 0 0, .slice none 0 0]) (t := 25) ?hr ?_; (case hd => rfl); (case hg => rfl); (case hr => first | (go_simp; done) | (go_simp; rfl)); intro gb378 hg w10 hbox hb; have n0_ := Aside0.mk (Kd.R_below (rr_ HO373.out) hb); have n1_ := Aside0.mk (Kd.R_below (rr_ HO376.out) hb); have n2_ := Aside0.mk (blk_below (g := gb368) (o := .cells #[.int .i64 a1_0, .int .i64 a1_1] 49 (0, 0)) (bk_ BK368.out) hb); have n3_ := Aside0.mk (below_step (bs_ HB.out GE368.out) hb); have n4_ := Aside0.mk (hbox); have n5_ := Aside0.mk ((by rw [hg]; exact (below_size (bs_ HB.out GE368.out)) : w.heap.size ≤ gb378)); have n6_ := Aside0.mk ((by rw [hg]; exact (below_size (bs_ HB.out GE368.out)) : w.heap.size ≤ gb378)); have n7_ := Aside0.mk ((by rw [hg]; exact Nat.ne_of_lt (blk_lt (g := gb368) (o := .cells #[.int .i64 a1_0, .int .i64 a1_1] 49 (0, 0)) (bk_ BK368.out)) : gb368 ≠ gb378)); have n8_ := Aside0.mk ((by rw [hg]; exact Nat.ne_of_gt (blk_lt (g := gb368) (o := .cells #[.int .i64 a1_0, .int .i64 a1_1] 49 (0, 0)) (bk_ BK368.out)) : gb378 ≠ gb368)); clear HO373; clear HO376; clear BK368; clear HB; have HO373 := n0_; have HO376 := n1_; have BK368 := n2_; have HB := n3_; have BK378 := n4_; have GW378 := n5_; have GE378 := n6_; have NB368_378 := n7_; have NB378_368 := n8_; clear n0_ n1_ n2_ n3_ n4_ n5_ n6_ n7_ n8_; clear hb hbox hg; obtain ⟨Ao11, co11, eo11⟩ := Kd.R_slice HO373.out; subst eo11; have hnb12 := NB378_368.out; have hnc12 := NB368_378.out; have hcz13_0 : w10.cell? ⟨gb378, 0, none⟩ = some (.slice none 0 0) := (blk_cell BK378.out 0).trans rfl; have hcz13_1 : w10.cell? ⟨gb378, 1, none⟩ = some (.slice none 0 0) := (blk_cell BK378.out 1).trans rfl; have hfz13_0 := blk_frozen BK378.out 0; have hfz13_1 := blk_frozen BK378.out 1; obtain ⟨Ao14, co14, eo14⟩ := Kd.R_slice HO376.out; subst eo14))
 (try simp only [Act.put, List.setIfInBounds_toArray, List.set_cons_zero, List.set_cons_succ])
 go_cut [31] (fun v31 wc => ∃ (kq : Nat) (x31_5 : Bool), v31 = .bool x31_5 ∧ Aside0 (topiarylaw15_TreeOwn.j0 kq t369 x31_5 a1_0 a1_1 t371 t374 = some r) ∧ Aside0 (kq ≤ k) ∧ Aside0 (Kd.R Kd.string 9 wc w.heap.size (fun _ => True) (.slice Ao11 t371.length co11) t371) ∧ Aside0 (Kd.R k52 52 wc w.heap.size (fun _ => True) (.slice Ao14 t374.length co14) t374) ∧ Aside0 (wc.heap[gb368]? = some (.cells #[.int .i64 a1_0, .int .i64 a1_1] 49 (0, 0))) ∧ Aside0 (wc.heap[gb378]? = some (.cells #[(.slice Ao11 t371.length co11), (.slice Ao14 t374.length co14)] 25 (0, 0))) ∧ Aside0 (Below w.heap.size w wc))
 case first =>
  have H := HC6.out
  clear HC6
  by_cases c15 : t377 = 0
  ·rw [if_pos c15] at H
   have c15b0 : (t377 == 0) = true := beq_iff_eq.mpr c15
   have c15b1 : (t377 != 0) = false := bne_eq_false_iff_eq.mpr c15
   clear c15
   (first | rw [c15b0] | (simp only [i64_w, i32_w]; rw [c15b0]) | skip)
   have H' := Aside0.mk H
   clear H
   have hnb16 := NB378_368.out
   have hnc16 := NB368_378.out
   have hcz17_0 : w10.cell? ⟨gb378, 0, none⟩ = some (.slice none 0 0) := (blk_cell BK378.out 0).trans rfl
   have hcz17_1 : w10.cell? ⟨gb378, 1, none⟩ = some (.slice none 0 0) := (blk_cell BK378.out 1).trans rfl
   have hfz17_0 := blk_frozen BK378.out 0
   have hfz17_1 := blk_frozen BK378.out 1
   go_wp2
   go_meet
   case rel => exact ⟨_, (((t374.length : Int) == 0)), sm_, H', ⟨by first | omega | exact Nat.le_refl _⟩, ⟨by (with_reducible repeat (first | apply Kd.R_alloc | apply Kd.R_drewN | apply Kd.R_drew)); exact Kd.R_mono (Kd.R_far (p := ⟨gb378, 1, none⟩) (Kd.R_far (p := ⟨gb378, 0, none⟩) (Kd.R_types HO373.out BK378.out (by decide)) (fun _ hk => hk.2) (.slice Ao11 t371.length co11)) (fun _ hk => hk.2) (.slice Ao14 t374.length co14)) (fun _ hk => trivial)⟩, ⟨by (with_reducible repeat (first | apply Kd.R_alloc | apply Kd.R_drewN | apply Kd.R_drew)); exact Kd.R_mono (Kd.R_far (p := ⟨gb378, 1, none⟩) (Kd.R_far (p := ⟨gb378, 0, none⟩) (Kd.R_types HO376.out BK378.out (by decide)) (fun _ hk => hk.2) (.slice Ao11 t371.length co11)) (fun _ hk => hk.2) (.slice Ao14 t374.length co14)) (fun _ hk => trivial)⟩, ⟨by (with_reducible repeat (first | refine blk_drewN ?_ _ | refine blk_drew ?_ | refine blk_alloc ?_ _)); refine blk_far ?_ NB368_378.out _; (with_reducible repeat (first | refine blk_drewN ?_ _ | refine blk_drew ?_ | refine blk_alloc ?_ _)); refine blk_far ?_ NB368_378.out _; exact bk_ BK368.out⟩, ⟨by (with_reducible repeat (first | refine blk_drewN ?_ _ | refine blk_drew ?_ | refine blk_alloc ?_ _)); refine blk_put (cs := #[.slice Ao11 t371.length co11, .slice none 0 0]) ?_ 1 _ rfl; (with_reducible repeat (first | refine blk_drewN ?_ _ | refine blk_drew ?_ | refine blk_alloc ?_ _)); refine blk_put (cs := #[.slice none 0 0, .slice none 0 0]) ?_ 0 _ rfl; exact bk_ BK378.out⟩, ⟨by repeat (first | (with_reducible first | exact HB.out | apply below_alloc | apply pw_below_drewN | apply below_drew1 | refine below_set ?_ GE368.out | refine below_set ?_ GE378.out) | exact HB.out)⟩⟩
  ·rw [if_neg c15] at H
   have c15b0 : (t377 == 0) = false := beq_eq_false_iff_ne.mpr c15
   have c15b1 : (t377 != 0) = true := bne_iff_ne.mpr c15
   (first | rw [c15b0] | (simp only [i64_w, i32_w]; rw [c15b0]) | skip)
   have H' := Aside0.mk H
   clear H
   go_wp2
   go_meet
   case rel => exact ⟨_, (true), sm_, H', ⟨by first | omega | exact Nat.le_refl _⟩, ⟨by (with_reducible repeat (first | apply Kd.R_alloc | apply Kd.R_drewN | apply Kd.R_drew)); exact Kd.R_mono (Kd.R_far (p := ⟨gb378, 1, none⟩) (Kd.R_far (p := ⟨gb378, 0, none⟩) (Kd.R_types HO373.out BK378.out (by decide)) (fun _ hk => hk.2) (.slice Ao11 t371.length co11)) (fun _ hk => hk.2) (.slice Ao14 t374.length co14)) (fun _ hk => trivial)⟩, ⟨by (with_reducible repeat (first | apply Kd.R_alloc | apply Kd.R_drewN | apply Kd.R_drew)); exact Kd.R_mono (Kd.R_far (p := ⟨gb378, 1, none⟩) (Kd.R_far (p := ⟨gb378, 0, none⟩) (Kd.R_types HO376.out BK378.out (by decide)) (fun _ hk => hk.2) (.slice Ao11 t371.length co11)) (fun _ hk => hk.2) (.slice Ao14 t374.length co14)) (fun _ hk => trivial)⟩, ⟨by (with_reducible repeat (first | refine blk_drewN ?_ _ | refine blk_drew ?_ | refine blk_alloc ?_ _)); refine blk_far ?_ NB368_378.out _; (with_reducible repeat (first | refine blk_drewN ?_ _ | refine blk_drew ?_ | refine blk_alloc ?_ _)); refine blk_far ?_ NB368_378.out _; exact bk_ BK368.out⟩, ⟨by (with_reducible repeat (first | refine blk_drewN ?_ _ | refine blk_drew ?_ | refine blk_alloc ?_ _)); refine blk_put (cs := #[.slice Ao11 t371.length co11, .slice none 0 0]) ?_ 1 _ rfl; (with_reducible repeat (first | refine blk_drewN ?_ _ | refine blk_drew ?_ | refine blk_alloc ?_ _)); refine blk_put (cs := #[.slice none 0 0, .slice none 0 0]) ?_ 0 _ rfl; exact bk_ BK378.out⟩, ⟨by repeat (first | (with_reducible first | exact HB.out | apply below_alloc | apply pw_below_drewN | apply below_drew1 | refine below_set ?_ GE368.out | refine below_set ?_ GE378.out) | exact HB.out)⟩⟩
 case rest =>
  clear HC6
  try clear c1
  try clear c2
  try clear p2
  try clear c8
  try clear c9
  try clear c12
  try clear c15
  try clear c15b0
  try clear c15b1
  try clear c16
  try clear hcz13_0
  try clear hcz13_1
  try clear hcz17_0
  try clear hcz17_1
  try clear hfz13_0
  try clear hfz13_1
  try clear hfz17_0
  try clear hfz17_1
  obtain ⟨kq, x31_5, rfl, HA, HJ5, HO_379000, HO_379001, BK368, BK378, HB⟩ := hcut
  cases kq with
  | zero => exact absurd HA.out (by simp [topiarylaw15_TreeOwn.j0])
  | succ kj5 =>
   have H := HA.out
   clear HA
   simp only [topiarylaw15_TreeOwn.j0] at H
   by_cases c18 : x31_5 = true
   ·subst c18
    have H1 : (some t369) = some r := by rw [if_pos rfl] at H; exact H
    clear H
    have H := H1
    clear H1
    obtain rfl := Option.some.inj H
    go_wp2
    go_ret
    exact ⟨by first | rfl | (simp [errW_none, errW_some] <;> rfl) | (simp [*, errW_none, errW_some] <;> rfl), by repeat (first | (with_reducible first | exact HB.out | apply below_alloc | apply pw_below_drewN | apply below_drew1 | refine below_set ?_ GE368.out | refine below_set ?_ GE378.out) | exact HB.out)⟩
   ·replace c18 := Bool.eq_false_iff.mpr c18
    subst c18
    have H1 : (if (t374.length : Int) = 0 then (none) else ((tree_Up.f t371 t374 (Int.tmod (wrap64 ((Int.tmod a1_0 (t374.length : Int)) + (t374.length : Int))) (t374.length : Int))).bind fun t379 => (if (wrap64 ((t379.length : Int) + 1)) = 0 then (none) else ((tree_Symbol.f kj5 t371 t374 (Int.tmod (wrap64 ((Int.tmod a1_0 (t374.length : Int)) + (t374.length : Int))) (t374.length : Int))).bind fun t382 => (topiarylaw15_TreeOwn.l0 kj5 t369 (Int.tmod (wrap64 ((Int.tmod a1_0 (t374.length : Int)) + (t374.length : Int))) (t374.length : Int)) t379 (Int.tmod (wrap64 ((wrap64 ((Int.tmod a1_1 (wrap64 ((t379.length : Int) + 1))) + (t379.length : Int))) + 1)) (wrap64 ((t379.length : Int) + 1))) (([t382] : List Int)) 0 t371 t374))))) = some r := by rw [if_neg (show ¬ (false = true) by decide)] at H; exact H
    clear H
    have H := H1
    clear H1
    by_cases c19 : (t374.length : Int) = 0
    ·rw [if_pos c19] at H
     exact absurd H (by simp)
    ·rw [if_neg c19] at H
     have c19b0 : ((t374.length : Int) == 0) = false := beq_eq_false_iff_ne.mpr c19
     have c19b1 : ((t374.length : Int) != 0) = true := bne_iff_ne.mpr c19
     have c19b2 : ¬ (t374 = []) := fun h_ => c19 (by rw [h_]; rfl)
     replace H := Option.bind_eq_some_iff.mp H
     obtain ⟨t379, A200, H⟩ := H
     replace H : (if (wrap64 ((t379.length : Int) + 1)) = 0 then (none) else ((tree_Symbol.f kj5 t371 t374 (Int.tmod (wrap64 ((Int.tmod a1_0 (t374.length : Int)) + (t374.length : Int))) (t374.length : Int))).bind fun t382 => (topiarylaw15_TreeOwn.l0 kj5 t369 (Int.tmod (wrap64 ((Int.tmod a1_0 (t374.length : Int)) + (t374.length : Int))) (t374.length : Int)) t379 (Int.tmod (wrap64 ((wrap64 ((Int.tmod a1_1 (wrap64 ((t379.length : Int) + 1))) + (t379.length : Int))) + 1)) (wrap64 ((t379.length : Int) + 1))) (([t382] : List Int)) 0 t371 t374))) = some r := H
     have A20 := Aside0.mk A200
     clear A200
     by_cases c21 : (wrap64 ((t379.length : Int) + 1)) = 0
     ·rw [if_pos c21] at H
      exact absurd H (by simp)
     ·rw [if_neg c21] at H
      have c21b0 : ((wrap64 ((t379.length : Int) + 1)) == 0) = false := beq_eq_false_iff_ne.mpr c21
      have c21b1 : ((wrap64 ((t379.length : Int) + 1)) != 0) = true := bne_iff_ne.mpr c21
      replace H := Option.bind_eq_some_iff.mp H
      obtain ⟨t382, A220, H⟩ := H
      replace H : (topiarylaw15_TreeOwn.l0 kj5 t369 (Int.tmod (wrap64 ((Int.tmod a1_0 (t374.length : Int)) + (t374.length : Int))) (t374.length : Int)) t379 (Int.tmod (wrap64 ((wrap64 ((Int.tmod a1_1 (wrap64 ((t379.length : Int) + 1))) + (t379.length : Int))) + 1)) (wrap64 ((t379.length : Int) + 1))) (([t382] : List Int)) 0 t371 t374) = some r := H
      have A22 := Aside0.mk A220
      clear A220
      obtain ⟨y383, hy383⟩ : ∃ y_ : List Int, y_ = (([t382] : List Int)) := ⟨_, rfl⟩
      replace H : (topiarylaw15_TreeOwn.l0 kj5 t369 (Int.tmod (wrap64 ((Int.tmod a1_0 (t374.length : Int)) + (t374.length : Int))) (t374.length : Int)) t379 (Int.tmod (wrap64 ((wrap64 ((Int.tmod a1_1 (wrap64 ((t379.length : Int) + 1))) + (t379.length : Int))) + 1)) (wrap64 ((t379.length : Int) + 1))) y383 0 t371 t374) = some r := by first | (rw [hy383]; with_reducible exact H) | (have H2_ := (Option.bind_some _ _).symm.trans H; rw [hy383]; with_reducible exact H2_) | (have H2_ := (Option.bind_some _ _).symm.trans H; with_reducible exact H2_) | with_reducible exact H | (rw [hy383]; exact H) | exact H
      have Ny383 := Aside0.mk hy383
      clear hy383
      have H' := Aside0.mk H
      clear H
      try go_wp2
      have n0_ := Aside0.mk (Kd.R_drew HO_379000.out)
      have n1_ := Aside0.mk (Kd.R_drew HO_379001.out)
      have n2_ := Aside0.mk (blk_drew BK368.out)
      have n3_ := Aside0.mk (blk_drew BK378.out)
      have n4_ := Aside0.mk (below_drew1 HB.out)
      clear HO_379000
      clear HO_379001
      clear BK368
      clear BK378
      clear HB
      have HO_379000 := n0_
      have HO_379001 := n1_
      have BK368 := n2_
      have BK378 := n3_
      have HB := n4_
      clear n0_ n1_ n2_ n3_ n4_
      refine start_ (n := 15) (S := fun w' => w'.cell? ⟨gb368, 0, none⟩ = some (.int .i64 a1_0) ∧ w'.cell? ⟨gb368, 1, none⟩ = some (.int .i64 a1_1) ∧ w'.cell? ⟨gb378, 0, none⟩ = some (.slice Ao11 t371.length co11) ∧ w'.cell? ⟨gb378, 1, none⟩ = some (.slice Ao14 t374.length co14)) (ds := []) #[false, false, false, false, false, false, false, false, false, false, false, false, false, false, false] (by kernel_rfl) rfl rfl ⟨(blk_cell BK368.out 0).trans rfl, (blk_cell BK368.out 1).trans rfl, (blk_cell BK378.out 0).trans rfl, (blk_cell BK378.out 1).trans rfl⟩ (fun hHeld => ?_); refine with_tabW topiarylaw15_TreeOwn.tab5 topiarylaw15_TreeOwn.bits5 (fun HT_ HW_ => ?_)
      generalize wc.drew = w23 at HO_379000 HO_379001 BK368 BK378 HB hHeld ⊢
      refine pure_ (i := 0) (N := some 33) (v := ?_) (a' := ?_) #[true, false, false, false, false, false, false, false, false, false, false, false, false, false, false] rfl rfl (any_of HT_.out (by kernel_rfl)) (fun _ _ _ h => h) (Or.inl ⟨by rfl, ?_⟩) ?_ ?_
      rotate_left
      ·intro w'
       go_simp
       with_reducible rfl
      rotate_left
      ·simp only [Act.put, List.setIfInBounds_toArray, List.set_cons_zero, List.set_cons_succ, i64_w, i32_w]
       rfl
      refine pure_ (i := 2) (N := some 35) (v := ?_) (a' := ?_) #[true, false, true, false, false, false, false, false, false, false, false, false, false, false, false] rfl rfl (any_of HT_.out (by kernel_rfl)) (fun _ _ _ h => h) (Or.inl ⟨by rfl, ?_⟩) ?_ ?_
      rotate_left
      ·intro w'
       go_simp
       with_reducible rfl
      rotate_left
      ·simp only [Act.put, List.setIfInBounds_toArray, List.set_cons_zero, List.set_cons_succ, i64_w, i32_w]
       rfl
      refine pure_ (i := 6) (N := some 39) (v := ?_) (a' := ?_) #[true, false, true, false, false, false, true, false, false, false, false, false, false, false, false] rfl rfl (any_of HT_.out (by kernel_rfl)) (fun _ _ _ h => h) (Or.inl ⟨by rfl, ?_⟩) ?_ ?_
      rotate_left
      ·intro w'
       go_simp
       with_reducible rfl
      rotate_left
      ·simp only [Act.put, List.setIfInBounds_toArray, List.set_cons_zero, List.set_cons_succ, i64_w, i32_w]
       rfl
      refine pure_ (i := 10) (N := some 43) (v := ?_) (a' := ?_) #[true, false, true, false, false, false, true, false, false, false, true, false, false, false, false] rfl rfl (any_of HT_.out (by kernel_rfl)) (fun _ _ _ h => h) (Or.inl ⟨by rfl, ?_⟩) ?_ ?_
      rotate_left
      ·intro w'
       go_simp
       with_reducible rfl
      rotate_left
      ·simp only [Act.put, List.setIfInBounds_toArray, List.set_cons_zero, List.set_cons_succ, i64_w, i32_w]
       rfl
      refine take_ (i := 1) (N := some 34) (v := ?_) (a' := ?_) #[true, true, true, false, false, false, true, false, false, false, true, false, false, false, false] rfl rfl (take_ofW HT_.out HW_.out (by kernel_rfl)) (fun _ _ _ h => h) (Or.inl ⟨by rfl, ?_⟩) hHeld ?_ ?_
      rotate_left
      ·rintro w' ⟨s0, s1, s2, s3⟩
       go_simp
       with_reducible rfl
      rotate_left
      ·simp only [Act.put, List.setIfInBounds_toArray, List.set_cons_zero, List.set_cons_succ, i64_w, i32_w]
       rfl
      refine take_ (i := 3) (N := some 36) (v := ?_) (a' := ?_) #[true, true, true, true, false, false, true, false, false, false, true, false, false, false, false] rfl rfl (take_ofW HT_.out HW_.out (by kernel_rfl)) (fun _ _ _ h => h) (Or.inl ⟨by rfl, ?_⟩) hHeld ?_ ?_
      rotate_left
      ·rintro w' ⟨s0, s1, s2, s3⟩
       go_simp
       with_reducible rfl
      rotate_left
      ·simp only [Act.put, List.setIfInBounds_toArray, List.set_cons_zero, List.set_cons_succ, i64_w, i32_w]
       rfl
      refine pure_ (i := 4) (N := some 37) (v := ?_) (a' := ?_) #[true, true, true, true, true, false, true, false, false, false, true, false, false, false, false] rfl rfl (any_of HT_.out (by kernel_rfl)) (fun _ _ _ h => h) (Or.inl ⟨by rfl, ?_⟩) ?_ ?_
      rotate_left
      ·intro w'
       go_simp
       with_reducible rfl
      rotate_left
      ·simp only [Act.put, List.setIfInBounds_toArray, List.set_cons_zero, List.set_cons_succ, i64_w, i32_w]
       rfl
      refine pure_ (i := 5) (N := some 38) (v := ?_) (a' := ?_) #[true, true, true, true, true, true, true, false, false, false, true, false, false, false, false] rfl rfl (any_of HT_.out (by kernel_rfl)) (fun _ _ _ h => h) (Or.inl ⟨by rfl, ?_⟩) ?_ ?_
      rotate_left
      ·intro w'
       go_simp
       with_reducible rfl
      rotate_left
      ·simp only [Act.put, List.setIfInBounds_toArray, List.set_cons_zero, List.set_cons_succ, i64_w, i32_w]
       rfl
      refine take_ (i := 7) (N := some 40) (v := ?_) (a' := ?_) #[true, true, true, true, true, true, true, true, false, false, true, false, false, false, false] rfl rfl (take_ofW HT_.out HW_.out (by kernel_rfl)) (fun _ _ _ h => h) (Or.inl ⟨by rfl, ?_⟩) hHeld ?_ ?_
      rotate_left
      ·rintro w' ⟨s0, s1, s2, s3⟩
       go_simp
       with_reducible rfl
      rotate_left
      ·simp only [Act.put, List.setIfInBounds_toArray, List.set_cons_zero, List.set_cons_succ, i64_w, i32_w]
       rfl
      refine pure_ (i := 8) (N := some 41) (v := ?_) (a' := ?_) #[true, true, true, true, true, true, true, true, true, false, true, false, false, false, false] rfl rfl (any_of HT_.out (by kernel_rfl)) (fun _ _ _ h => h) (Or.inl ⟨by rfl, ?_⟩) ?_ ?_
      rotate_left
      ·intro w'
       go_simp
       with_reducible rfl
      rotate_left
      ·simp only [Act.put, List.setIfInBounds_toArray, List.set_cons_zero, List.set_cons_succ, i64_w, i32_w]
       rfl
      refine pure_ (i := 9) (N := some 42) (v := ?_) (a' := ?_) #[true, true, true, true, true, true, true, true, true, true, true, false, false, false, false] rfl rfl (any_of HT_.out (by kernel_rfl)) (fun _ _ _ h => h) (Or.inl ⟨by rfl, ?_⟩) ?_ ?_
      rotate_left
      ·intro w'
       go_simp
       with_reducible rfl
      rotate_left
      ·simp only [Act.put, List.setIfInBounds_toArray, List.set_cons_zero, List.set_cons_succ, i64_w, i32_w]
       rfl
      refine take_ (i := 11) (N := some 44) (v := ?_) (a' := ?_) #[true, true, true, true, true, true, true, true, true, true, true, true, false, false, false] rfl rfl (take_ofW HT_.out HW_.out (by kernel_rfl)) (fun _ _ _ h => h) (Or.inl ⟨by rfl, ?_⟩) hHeld ?_ ?_
      rotate_left
      ·rintro w' ⟨s0, s1, s2, s3⟩
       go_simp
       with_reducible rfl
      rotate_left
      ·simp only [Act.put, List.setIfInBounds_toArray, List.set_cons_zero, List.set_cons_succ, i64_w, i32_w]
       rfl
      refine pure_ (i := 12) (N := some 45) (v := ?_) (a' := ?_) #[true, true, true, true, true, true, true, true, true, true, true, true, true, false, false] rfl rfl (any_of HT_.out (by kernel_rfl)) (fun _ _ _ h => h) (Or.inl ⟨by rfl, ?_⟩) ?_ ?_
      rotate_left
      ·intro w'
       go_simp
       with_reducible rfl
      rotate_left
      ·simp only [Act.put, List.setIfInBounds_toArray, List.set_cons_zero, List.set_cons_succ, i64_w, i32_w]
       rfl
      refine pure_ (i := 13) (N := some 46) (v := ?_) (a' := ?_) #[true, true, true, true, true, true, true, true, true, true, true, true, true, true, false] rfl rfl (any_of HT_.out (by kernel_rfl)) (fun _ _ _ h => h) (Or.inl ⟨by rfl, ?_⟩) ?_ ?_
      rotate_left
      ·intro w'
       go_simp
       with_reducible rfl
      rotate_left
      ·simp only [Act.put, List.setIfInBounds_toArray, List.set_cons_zero, List.set_cons_succ, i64_w, i32_w]
       rfl
      refine pure_ (i := 14) (N := some 8) (v := ?_) (a' := ?_) #[true, true, true, true, true, true, true, true, true, true, true, true, true, true, true] rfl rfl (any_of HT_.out (by kernel_rfl)) (fun _ _ _ h => h) (Or.inl ⟨by rfl, ?_⟩) ?_ ?_
      rotate_left
      ·intro w'
       go_simp
       with_reducible rfl
      rotate_left
      ·simp only [Act.put, List.setIfInBounds_toArray, List.set_cons_zero, List.set_cons_succ, i64_w, i32_w]
       rfl
      refine done_ (done_of HT_.out (by kernel_rfl)) ?_
      have hnb24 := NB378_368.out
      have hnc24 := NB368_378.out
      have hcz25_0 : w23.cell? ⟨gb378, 0, none⟩ = some (.slice Ao11 t371.length co11) := (blk_cell BK378.out 0).trans rfl
      have hcz25_1 : w23.cell? ⟨gb378, 1, none⟩ = some (.slice Ao14 t374.length co14) := (blk_cell BK378.out 1).trans rfl
      have hfz25_0 := blk_frozen BK378.out 0
      have hfz25_1 := blk_frozen BK378.out 1
      try go_wp2_with (first | ((with_reducible refine gate_callee (f := 24) rfl ?_); refine goesL_ (some 49) rfl rfl Try.func24 (by kernel_rfl) rfl #[.agg #[.slice Ao11 t371.length co11, .slice Ao14 t374.length co14], .int .i64 (Int.tmod (wrap64 ((Int.tmod a1_0 (t374.length : Int)) + (t374.length : Int))) (t374.length : Int))] rfl ar_ ?_; (with_reducible refine (tree_Up.calls _ _ t371 _ _ t374 (Int.tmod (wrap64 ((Int.tmod a1_0 (t374.length : Int)) + (t374.length : Int))) (t374.length : Int)) t379 _ ?side1 ?side2 ?side3 ?side4 A20.out).mono ?_); (case side1 => repeat (first | exact (Kd.R_reads' HO_379000.out).2.2 | (with_reducible refine Kd.C_alloc ?_ _) | (with_reducible refine Kd.C_drewN ?_ _) | (with_reducible refine Kd.C_drew ?_))); (case side2 => exact (Kd.R_reads' HO_379000.out).2.1); (case side3 => repeat (first | exact (Kd.R_reads' HO_379001.out).2.2 | (with_reducible refine Kd.C_alloc ?_ _) | (with_reducible refine Kd.C_drewN ?_ _) | (with_reducible refine Kd.C_drew ?_))); (case side4 => exact (Kd.R_reads' HO_379001.out).2.1); rintro e w26 ⟨v380, rfl, ho0, hb⟩; refine ⟨_, rfl, ?_⟩; have n0_ := Aside0.mk (Kd.R_below (rr_ HO_379000.out) hb); have n1_ := Aside0.mk (Kd.R_below (rr_ HO_379001.out) hb); have n2_ := Aside0.mk (Kd.R_lower ho0 (below_size (bt_ HB.out GE368.out GE378.out))); have n3_ := Aside0.mk (blk_below (g := gb368) (o := .cells #[.int .i64 a1_0, .int .i64 a1_1] 49 (0, 0)) (bk_ BK368.out) hb); have n4_ := Aside0.mk (blk_below (g := gb378) (o := .cells #[.slice Ao11 t371.length co11, .slice Ao14 t374.length co14] 25 (0, 0)) (bk_ BK378.out) hb); have n5_ := Aside0.mk (below_step (bt_ HB.out GE368.out GE378.out) hb); clear HO_379000; clear HO_379001; clear BK368; clear BK378; clear HB; have HO_379000 := n0_; have HO_379001 := n1_; have HO381 := n2_; have BK368 := n3_; have BK378 := n4_; have HB := n5_; clear n0_ n1_ n2_ n3_ n4_ n5_; (try clear hb); (try clear hb2); (try clear hk); (try clear hi); (try clear ho0); have hcz27_0 : w26.cell? ⟨gb368, 0, none⟩ = some (.int .i64 a1_0) := (blk_cell BK368.out 0).trans rfl; have hcz27_1 : w26.cell? ⟨gb368, 1, none⟩ = some (.int .i64 a1_1) := (blk_cell BK368.out 1).trans rfl; have hfz27_0 := blk_frozen BK368.out 0; have hfz27_1 := blk_frozen BK368.out 1; obtain ⟨Ao28, co28, eo28⟩ := Kd.R_slice HO381.out; subst eo28; have hcz29_0 : w26.cell? ⟨gb378, 0, none⟩ = some (.slice Ao11 t371.length co11) := (blk_cell BK378.out 0).trans rfl; have hcz29_1 : w26.cell? ⟨gb378, 1, none⟩ = some (.slice Ao14 t374.length co14) := (blk_cell BK378.out 1).trans rfl; have hfz29_0 := blk_frozen BK378.out 0; have hfz29_1 := blk_frozen BK378.out 1) | ((with_reducible refine gate_callee (f := 16) rfl ?_); refine goesL_ (some 66) rfl rfl Try.func16 (by kernel_rfl) rfl #[.agg #[.slice Ao11 t371.length co11, .slice Ao14 t374.length co14], .int .i64 (Int.tmod (wrap64 ((Int.tmod a1_0 (t374.length : Int)) + (t374.length : Int))) (t374.length : Int))] rfl ar_ ?_; (with_reducible refine (tree_Symbol.calls kj5 _ _ t371 _ _ t374 (Int.tmod (wrap64 ((Int.tmod a1_0 (t374.length : Int)) + (t374.length : Int))) (t374.length : Int)) t382 _ ?side1 ?side2 ?side3 ?side4 A22.out).mono ?_); (case side1 => repeat (first | exact (Kd.R_reads' HO_379000.out).2.2 | (with_reducible refine Kd.C_alloc ?_ _) | (with_reducible refine Kd.C_drewN ?_ _) | (with_reducible refine Kd.C_drew ?_))); (case side2 => exact (Kd.R_reads' HO_379000.out).2.1); (case side3 => repeat (first | exact (Kd.R_reads' HO_379001.out).2.2 | (with_reducible refine Kd.C_alloc ?_ _) | (with_reducible refine Kd.C_drewN ?_ _) | (with_reducible refine Kd.C_drew ?_))); (case side4 => exact (Kd.R_reads' HO_379001.out).2.1); rintro e w30 ⟨rfl, hb⟩; refine ⟨_, rfl, ?_⟩; have n0_ := Aside0.mk (Kd.R_below (rr_ HO_379000.out) hb); have n1_ := Aside0.mk (Kd.R_below (rr_ HO_379001.out) hb); have n2_ := Aside0.mk (Kd.R_below (rr_ HO381.out) hb); have n3_ := Aside0.mk (blk_below (g := gb368) (o := .cells #[.int .i64 a1_0, .int .i64 a1_1] 49 (0, 0)) (bk_ BK368.out) hb); have n4_ := Aside0.mk (blk_below (g := gb378) (o := .cells #[.slice Ao11 t371.length co11, .slice Ao14 t374.length co14] 25 (0, 0)) (bk_ BK378.out) hb); have n5_ := Aside0.mk (below_step (bt_ HB.out GE368.out GE378.out) hb); clear HO_379000; clear HO_379001; clear HO381; clear BK368; clear BK378; clear HB; have HO_379000 := n0_; have HO_379001 := n1_; have HO381 := n2_; have BK368 := n3_; have BK378 := n4_; have HB := n5_; clear n0_ n1_ n2_ n3_ n4_ n5_; (try clear hb); (try clear hb2); (try clear hk); (try clear hi)) | ((with_reducible refine gate_dst (N := 67) rfl ?_); (try (refine gate_guard (by rfl) ?_; dsimp only)); refine Kd.R_lit (Kd.int .i64) _ 3 ?hg (N := 67) ?hd (xs := ([t382] : List Int)) (inner := [.int .i64 t382]) (ok := fun _ => True) (okp := fun _ => True) ?hr ?hp (fun _ hk => hk) trivial (Below.refl _ _) (Nat.le_refl _) (by simp) ?_; (case hd => rfl); (case hg => rfl); (case hr => first | (go_simp; done) | (go_simp; rfl)); (case hp => exact (Reps.one (show Kd.M (Kd.int .i64) _ _ _ t382 [.int .i64 t382] from rfl) (Reps.none _ _))); intro v384 w31 ho32 hb hg_ hnew_; clear hg_ hnew_; (first | rw [← Ny383.out] at ho32 | (simp only [Int.reduceToNat] at ho32; rw [← Ny383.out] at ho32)); have n0_ := Aside0.mk (Kd.R_below (rr_ HO_379000.out) hb); have n1_ := Aside0.mk (Kd.R_below (rr_ HO_379001.out) hb); have n2_ := Aside0.mk (Kd.R_elder' (rr_ HO381.out) (Kd.R_base ho32) hb); have n3_ := Aside0.mk (Kd.R_lower (Kd.R_new' ho32 (Kd.R_lt (rr_ HO381.out))) (below_size (bt_ HB.out GE368.out GE378.out))); have n4_ := Aside0.mk (blk_below (g := gb368) (o := .cells #[.int .i64 a1_0, .int .i64 a1_1] 49 (0, 0)) (bk_ BK368.out) hb); have n5_ := Aside0.mk (blk_below (g := gb378) (o := .cells #[.slice Ao11 t371.length co11, .slice Ao14 t374.length co14] 25 (0, 0)) (bk_ BK378.out) hb); have n6_ := Aside0.mk (below_step (bt_ HB.out GE368.out GE378.out) hb); clear HO_379000; clear HO_379001; clear HO381; clear BK368; clear BK378; clear HB; have HO_379000 := n0_; have HO_379001 := n1_; have HO381 := n2_; have HO385 := n3_; have BK368 := n4_; have BK378 := n5_; have HB := n6_; clear n0_ n1_ n2_ n3_ n4_ n5_ n6_; clear hb ho32))
      go_loopg [11, 12] kj5 (fun kq v11 v12 w' => ∃ (x11_2 : List Int) (x12_2 : Int), v12 = .int .i64 x12_2 ∧ Aside0 (topiarylaw15_TreeOwn.l0 kq t369 (Int.tmod (wrap64 ((Int.tmod a1_0 (t374.length : Int)) + (t374.length : Int))) (t374.length : Int)) t379 (Int.tmod (wrap64 ((wrap64 ((Int.tmod a1_1 (wrap64 ((t379.length : Int) + 1))) + (t379.length : Int))) + 1)) (wrap64 ((t379.length : Int) + 1))) x11_2 x12_2 t371 t374 = some r) ∧ Aside0 (kq ≤ kj5) ∧ Aside0 (Kd.R (Kd.int .i64) 3 w' w.heap.size (fun k_ => some k_ ≠ (v11 : Value).ownBlock) (.slice Ao28 t379.length co28) t379) ∧ Aside0 (Kd.R (Kd.int .i64) 3 w' w.heap.size (fun k_ => some k_ ≠ ((.slice Ao28 t379.length co28) : Value).ownBlock) v11 x11_2) ∧ Aside0 (Kd.R Kd.string 9 w' w.heap.size (fun _ => True) (.slice Ao11 t371.length co11) t371) ∧ Aside0 (Kd.R k52 52 w' w.heap.size (fun _ => True) (.slice Ao14 t374.length co14) t374) ∧ Aside0 (w'.heap[gb368]? = some (.cells #[.int .i64 a1_0, .int .i64 a1_1] 49 (0, 0))) ∧ Aside0 (w'.heap[gb378]? = some (.cells #[(.slice Ao11 t371.length co11), (.slice Ao14 t374.length co14)] 25 (0, 0))) ∧ Aside0 (Below w.heap.size w w'))
      case atStart => exact ⟨(y383), (0), sm_, H', ⟨Nat.le_refl _⟩, ⟨by (with_reducible repeat (first | apply Kd.R_alloc | apply Kd.R_drewN | apply Kd.R_drew)); exact Kd.R_mono HO381.out (fun _ hk => hk.2)⟩, ⟨by (with_reducible repeat (first | apply Kd.R_alloc | apply Kd.R_drewN | apply Kd.R_drew)); exact Kd.R_mono HO385.out (fun _ hk => hk.2)⟩, ⟨by exact rr_ HO_379000.out⟩, ⟨by exact rr_ HO_379001.out⟩, ⟨by exact bk_ BK368.out⟩, ⟨by exact bk_ BK378.out⟩, ⟨by repeat (first | (with_reducible first | exact HB.out | apply below_alloc | apply pw_below_drewN | apply below_drew1 | refine below_set ?_ GE368.out | refine below_set ?_ GE378.out) | exact HB.out)⟩⟩
      case round =>
       clear H'
       try clear c1
       try clear c2
       try clear p2
       try clear p6
       try clear c8
       try clear c9
       try clear c12
       try clear c15
       try clear c15b0
       try clear c15b1
       try clear c16
       try clear c18
       try clear c19
       try clear c19b0
       try clear c19b1
       try clear c19b2
       try clear c21
       try clear c21b0
       try clear c21b1
       try clear c24
       try clear c28
       try clear c29
       try clear hcz13_0
       try clear hcz13_1
       try clear hcz17_0
       try clear hcz17_1
       try clear hcz25_0
       try clear hcz25_1
       try clear hcz27_0
       try clear hcz27_1
       try clear hcz29_0
       try clear hcz29_1
       try clear hfz13_0
       try clear hfz13_1
       try clear hfz17_0
       try clear hfz17_1
       try clear hfz25_0
       try clear hfz25_1
       try clear hfz27_0
       try clear hfz27_1
       try clear hfz29_0
       try clear hfz29_1
       try clear p2
       obtain ⟨x11_2, x12_2, rfl, HA, HK2, HO_9, HO_11, HO_379000, HO_379001, BK368, BK378, HB⟩ := hrel
       cases gk with
       | zero => exact absurd HA.out (by simp [topiarylaw15_TreeOwn.l0])
       | succ k2 =>
        have H := HA.out
        clear HA
        simp only [topiarylaw15_TreeOwn.l0] at H
        by_cases c33 : x12_2 < (Int.tmod (wrap64 ((wrap64 ((Int.tmod a1_1 (wrap64 ((t379.length : Int) + 1))) + (t379.length : Int))) + 1)) (wrap64 ((t379.length : Int) + 1)))
        ·rw [if_pos c33] at H
         have c33b0 : decide (x12_2 < (Int.tmod (wrap64 ((wrap64 ((Int.tmod a1_1 (wrap64 ((t379.length : Int) + 1))) + (t379.length : Int))) + 1)) (wrap64 ((t379.length : Int) + 1)))) = true := decide_eq_true c33
         clear c33
         by_cases c34 : 0 ≤ x12_2
         ·rw [if_pos c34] at H
          have c34b0 : decide (0 ≤ x12_2) = true := decide_eq_true c34
          clear c34
          by_cases c35 : x12_2 < (t379.length : Int)
          ·rw [if_pos c35] at H
           have c35b0 : decide (x12_2 < (t379.length : Int)) = true := decide_eq_true c35
           clear c35
           by_cases c36 : ([] : List Int).length < 17592186044416
           ·rw [if_pos c36] at H
            have LMc36 := Aside0.mk c36
            clear c36
            obtain ⟨y387, hy387⟩ : ∃ y_ : List Int, y_ = (([] : List Int) ++ [rd t379 x12_2]) := ⟨_, rfl⟩
            replace H : (if y387.length + x11_2.length < 17592186044416 then (topiarylaw15_TreeOwn.l0 k2 t369 (Int.tmod (wrap64 ((Int.tmod a1_0 (t374.length : Int)) + (t374.length : Int))) (t374.length : Int)) t379 (Int.tmod (wrap64 ((wrap64 ((Int.tmod a1_1 (wrap64 ((t379.length : Int) + 1))) + (t379.length : Int))) + 1)) (wrap64 ((t379.length : Int) + 1))) (y387 ++ x11_2) (wrap64 (x12_2 + 1)) t371 t374) else (none)) = some r := by first | (rw [hy387]; with_reducible exact H) | (have H2_ := (Option.bind_some _ _).symm.trans H; rw [hy387]; with_reducible exact H2_) | (have H2_ := (Option.bind_some _ _).symm.trans H; with_reducible exact H2_) | with_reducible exact H | (rw [hy387]; exact H) | exact H
            have Ny387 := Aside0.mk hy387
            clear hy387
            by_cases c37 : y387.length + x11_2.length < 17592186044416
            ·rw [if_pos c37] at H
             have LMc37 := Aside0.mk c37
             clear c37
             obtain ⟨y390, hy390⟩ : ∃ y_ : List Int, y_ = (y387 ++ x11_2) := ⟨_, rfl⟩
             replace H : (topiarylaw15_TreeOwn.l0 k2 t369 (Int.tmod (wrap64 ((Int.tmod a1_0 (t374.length : Int)) + (t374.length : Int))) (t374.length : Int)) t379 (Int.tmod (wrap64 ((wrap64 ((Int.tmod a1_1 (wrap64 ((t379.length : Int) + 1))) + (t379.length : Int))) + 1)) (wrap64 ((t379.length : Int) + 1))) y390 (wrap64 (x12_2 + 1)) t371 t374) = some r := by first | (rw [hy390]; with_reducible exact H) | (have H2_ := (Option.bind_some _ _).symm.trans H; rw [hy390]; with_reducible exact H2_) | (have H2_ := (Option.bind_some _ _).symm.trans H; with_reducible exact H2_) | with_reducible exact H | (rw [hy390]; exact H) | exact H
             have Ny390 := Aside0.mk hy390
             clear hy390
             have H' := Aside0.mk H
             clear H
             have p386 : 0 ≤ (x12_2 : Int) := of_decide_eq_true as_
             have q386 : x12_2 < (t379.length : Int) := of_decide_eq_true as_
             obtain ⟨ad386, e386, hx386_0⟩ := Kd.at_int (Kd.R_reads' HO_9.out).2.2 x12_2 p386 q386
             cases e386
             replace p386 := eq_true p386
             replace q386 := eq_true q386
             go_wp2_with (first | ((with_reducible refine gate_builtin (b := .append) (xs := #[.tmp 73, .tmp 78]) rfl ?_); (try (refine gate_guard (by rfl) ?_; dsimp only)); at_builtin; refine Kd.R_append (Kd.int .i64) (w0 := w) w.heap.size rfl (.tmp 73) (.tmp 78) 29 3 (.int .i64 0) 8 rfl Try.underlying29 info3 rfl (by decide) (by omega) (.slice none 0 0) ([] : List Int) (rd t379 x12_2) [.int .i64 (rd t379 x12_2)] (fun k_ => some k_ ≠ (.slice (some ad386) t379.length co28 : Value).ownBlock ∧ some k_ ≠ (u11 : Value).ownBlock) (fun _ => False) rfl rfl ?aP (fun _ hk => hk.elim) ?aF ?aO ?aB ?aS ?aL ?_; (case aP => exact rfl); (case aB => exact (bt_ HB.out GE368.out GE378.out)); (case aF => exact (fun k_ hk => ⟨Kd.fresh' (Kd.R_lt (rr_ HO_9.out)) k_ hk, Kd.fresh' (Kd.R_lt (rr_ HO_11.out)) k_ hk⟩)); (case aO => exact ((Kd.R_nil _ _ _ _ (fun k_ => some k_ ≠ (.slice (some ad386) t379.length co28 : Value).ownBlock ∧ some k_ ≠ (u11 : Value).ownBlock)))); (case aS => exact (below_size (bt_ HB.out GE368.out GE378.out))); (case aL => have := LMc36.out; omega); intro v388 w38 ho hb hg hat; rw [← Ny387.out] at ho; have n0_ := Aside0.mk (Kd.R_after (Kd.R_apart_nil (rr_ HO_9.out)) hg hat); have n1_ := Aside0.mk (Kd.R_after (Kd.R_apart_nil (rr_ HO_11.out)) hg hat); have n2_ := Aside0.mk (Kd.R_grown (rr_ HO_379000.out) hg (fun _ _ => by simp [Value.ownBlock])); have n3_ := Aside0.mk (Kd.R_grown (rr_ HO_379001.out) hg (fun _ _ => by simp [Value.ownBlock])); have n4_ := Aside0.mk (blk_grown (g := gb368) (o := .cells #[.int .i64 a1_0, .int .i64 a1_1] 49 (0, 0)) (bk_ BK368.out) hg (by simp [Value.ownBlock])); have n5_ := Aside0.mk (blk_grown (g := gb378) (o := .cells #[.slice Ao11 t371.length co11, .slice Ao14 t374.length co14] 25 (0, 0)) (bk_ BK378.out) hg (by simp [Value.ownBlock])); have n6_ := Aside0.mk (hb); have n7_ := Aside0.mk (ho); clear HO_9; clear HO_11; clear HO_379000; clear HO_379001; clear BK368; clear BK378; clear HB; have HO_9 := n0_; have HO_11 := n1_; have HO_379000 := n2_; have HO_379001 := n3_; have BK368 := n4_; have BK378 := n5_; have HB := n6_; have HO389 := n7_; clear n0_ n1_ n2_ n3_ n4_ n5_ n6_ n7_; clear ho hb hg hat; obtain ⟨Ao40, co40, eo40⟩ := Kd.R_slice HO_11.out; subst eo40) | ((with_reducible refine gate_builtin (b := .append) (xs := #[.tmp 80, .tmp 81]) rfl ?_); (try (refine gate_guard (by rfl) ?_; dsimp only)); at_builtin; refine Kd.R_append_rows (Kd.int .i64) (w0 := w) w.heap.size rfl (.tmp 80) (.tmp 81) 29 3 (.int .i64 0) 8 rfl Try.underlying29 info3 rfl (by decide) (by omega) v388 y387 x11_2 _ _ _ (fun k_ => some k_ ≠ (.slice (some ad386) t379.length co28 : Value).ownBlock ∧ some k_ ≠ (.slice Ao40 x11_2.length co40 : Value).ownBlock) (fun _ => False) rfl rfl ?aO ?aR (fun _ _ h => h) (fun _ h => h.elim) ?aF ?aB ?aS ?aL ?_; (case aR => repeat (first | exact (Kd.R_reads' HO_11.out).2.2 | (with_reducible refine Kd.C_alloc ?_ _) | (with_reducible refine Kd.C_drewN ?_ _) | (with_reducible refine Kd.C_drew ?_))); (case aB => exact (bt_ HB.out GE368.out GE378.out)); (case aF => exact (fun k_ hk => ⟨Kd.fresh' (Kd.R_lt (rr_ HO_9.out)) k_ hk, Kd.fresh' (Kd.R_lt (rr_ HO_11.out)) k_ hk⟩)); (case aO => exact (rr_ HO389.out)); (case aS => exact (below_size (bt_ HB.out GE368.out GE378.out))); (case aL => have := LMc37.out; omega); intro v391 w39 ho hb hg hat; rw [← Ny390.out] at ho; have n0_ := Aside0.mk (Kd.R_after (ok := (fun k_ => some k_ ≠ (.slice Ao40 x11_2.length co40 : Value).ownBlock)) (rr_ HO_9.out) hg hat); have n1_ := Aside0.mk (Kd.R_after (ok := (fun k_ => some k_ ≠ (.slice (some ad386) t379.length co28 : Value).ownBlock)) (rr_ HO_11.out) hg hat); have n2_ := Aside0.mk (Kd.R_over' (rr_ HO_379000.out) (Kd.R_typed (rr_ HO389.out)) (by decide) hg); have n3_ := Aside0.mk (Kd.R_over' (rr_ HO_379001.out) (Kd.R_typed (rr_ HO389.out)) (by decide) hg); have n4_ := Aside0.mk (blk_grown (g := gb368) (o := .cells #[.int .i64 a1_0, .int .i64 a1_1] 49 (0, 0)) (bk_ BK368.out) hg (Kd.R_ne HO389.out BK368.out (by decide))); have n5_ := Aside0.mk (blk_grown (g := gb378) (o := .cells #[.slice Ao11 t371.length co11, .slice Ao14 t374.length co14] 25 (0, 0)) (bk_ BK378.out) hg (Kd.R_ne HO389.out BK378.out (by decide))); have n6_ := Aside0.mk (hb); have n7_ := Aside0.mk (ho); clear HO_9; clear HO_11; clear HO_379000; clear HO_379001; clear BK368; clear BK378; clear HB; clear HO389; have HO_9 := n0_; have HO_11 := n1_; have HO_379000 := n2_; have HO_379001 := n3_; have BK368 := n4_; have BK378 := n5_; have HB := n6_; have HO392 := n7_; clear n0_ n1_ n2_ n3_ n4_ n5_ n6_ n7_; clear ho hb hg hat))
             go_roundg k2
             case measure => have := HJ5.out; have := HK2.out; omega
             case rel => exact ⟨(y390), (wrap64 (x12_2 + 1)), sm_, H', ⟨by have := HJ5.out; have := HK2.out; omega⟩, ⟨by (with_reducible repeat (first | apply Kd.R_alloc | apply Kd.R_drewN | apply Kd.R_drew)); exact Kd.R_mono HO_9.out (fun _ hk => hk.2)⟩, ⟨by (with_reducible repeat (first | apply Kd.R_alloc | apply Kd.R_drewN | apply Kd.R_drew)); exact Kd.R_mono HO392.out (fun _ hk => hk.1)⟩, ⟨by exact rr_ HO_379000.out⟩, ⟨by exact rr_ HO_379001.out⟩, ⟨by exact bk_ BK368.out⟩, ⟨by exact bk_ BK378.out⟩, ⟨by repeat (first | (with_reducible first | exact HB.out | apply below_alloc | apply pw_below_drewN | apply below_drew1 | refine below_set ?_ GE368.out | refine below_set ?_ GE378.out) | exact HB.out)⟩⟩
            ·rw [if_neg c37] at H
             exact absurd H (by simp)
           ·rw [if_neg c36] at H
            exact absurd H (by simp)
          ·rw [if_neg c35] at H
           exact absurd H (by simp)
         ·rw [if_neg c34] at H
          exact absurd H (by simp)
        ·rw [if_neg c33] at H
         have c33b0 : decide (x12_2 < (Int.tmod (wrap64 ((wrap64 ((Int.tmod a1_1 (wrap64 ((t379.length : Int) + 1))) + (t379.length : Int))) + 1)) (wrap64 ((t379.length : Int) + 1)))) = false := decide_eq_false c33
         clear c33
         replace H := Option.bind_eq_some_iff.mp H
         obtain ⟨t393, A410, H⟩ := H
         replace H : (topiarylaw15_TreeOwn.l1 k2 t369 (Int.tmod (wrap64 ((Int.tmod a1_0 (t374.length : Int)) + (t374.length : Int))) (t374.length : Int)) t379 (Int.tmod (wrap64 ((wrap64 ((Int.tmod a1_1 (wrap64 ((t379.length : Int) + 1))) + (t379.length : Int))) + 1)) (wrap64 ((t379.length : Int) + 1))) t393 false 0 t371 t374) = some r := H
         have A41 := Aside0.mk A410
         clear A410
         have H' := Aside0.mk H
         clear H
         have hnb42 := NB378_368.out
         have hnc42 := NB368_378.out
         have hcz43_0 : wr.cell? ⟨gb378, 0, none⟩ = some (.slice Ao11 t371.length co11) := (blk_cell BK378.out 0).trans rfl
         have hcz43_1 : wr.cell? ⟨gb378, 1, none⟩ = some (.slice Ao14 t374.length co14) := (blk_cell BK378.out 1).trans rfl
         have hfz43_0 := blk_frozen BK378.out 0
         have hfz43_1 := blk_frozen BK378.out 1
         obtain ⟨Ao44, co44, eo44⟩ := Kd.R_slice HO_11.out
         subst eo44
         go_wp2_with (first | ((with_reducible refine gate_callee (f := 30) rfl ?_); refine goesL_ (some 85) rfl rfl Try.func30 (by kernel_rfl) rfl #[.agg #[.slice Ao11 t371.length co11, .slice Ao14 t374.length co14], .slice Ao44 x11_2.length co44] rfl ar_ ?_; (with_reducible refine (tree_Paths.calls k2 _ _ t371 _ _ t374 (fun k_ => some k_ = (.slice Ao44 x11_2.length co44 : Value).ownBlock) _ _ x11_2 t393 _ ?side1 ?side2 ?side3 ?side4 ?side5 A41.out).mono ?_); (case side1 => repeat (first | exact (Kd.R_reads' HO_379000.out).2.2 | (with_reducible refine Kd.C_alloc ?_ _) | (with_reducible refine Kd.C_drewN ?_ _) | (with_reducible refine Kd.C_drew ?_))); (case side2 => exact (Kd.R_reads' HO_379000.out).2.1); (case side3 => repeat (first | exact (Kd.R_reads' HO_379001.out).2.2 | (with_reducible refine Kd.C_alloc ?_ _) | (with_reducible refine Kd.C_drewN ?_ _) | (with_reducible refine Kd.C_drew ?_))); (case side4 => exact (Kd.R_reads' HO_379001.out).2.1); (case side5 => exact Kd.R_V (Kd.R_tight rfl (Kd.R_types (Kd.R_types (Kd.R_apart' (Kd.R_apart' (HO_11.out) (Kd.R_typed HO_379000.out) (by decide)) (Kd.R_typed HO_379001.out) (by decide)) BK368.out (by decide)) BK378.out (by decide)))); rintro e w45 ⟨v394, rfl, ho0, hb⟩; refine ⟨_, rfl, ?_⟩; have n0_ := Aside0.mk (Kd.R_elder' (rr_ HO_9.out) (Kd.R_base ho0) hb); have n1_ := Aside0.mk (Kd.R_elder' (rr_ HO_11.out) (Kd.R_base ho0) hb); have n2_ := Aside0.mk (Kd.R_below (rr_ HO_379000.out) hb); have n3_ := Aside0.mk (Kd.R_below (rr_ HO_379001.out) hb); have n4_ := Aside0.mk (Kd.R_lower (Kd.R_new' (Kd.R_new' (Kd.R_mono (ok' := fun k_ => True) ho0 (fun _ hk_ => trivial)) (Kd.R_lt (rr_ HO_9.out))) (Kd.R_lt (rr_ HO_11.out))) (below_size (bt_ HB.out GE368.out GE378.out))); have n5_ := Aside0.mk (blk_below (g := gb368) (o := .cells #[.int .i64 a1_0, .int .i64 a1_1] 49 (0, 0)) (bk_ BK368.out) hb); have n6_ := Aside0.mk (blk_below (g := gb378) (o := .cells #[.slice Ao11 t371.length co11, .slice Ao14 t374.length co14] 25 (0, 0)) (bk_ BK378.out) hb); have n7_ := Aside0.mk (below_step (bt_ HB.out GE368.out GE378.out) hb); clear HO_9; clear HO_11; clear HO_379000; clear HO_379001; clear BK368; clear BK378; clear HB; have HO_9 := n0_; have HO_11 := n1_; have HO_379000 := n2_; have HO_379001 := n3_; have HO395 := n4_; have BK368 := n5_; have BK378 := n6_; have HB := n7_; clear n0_ n1_ n2_ n3_ n4_ n5_ n6_ n7_; (try clear hb); (try clear hb2); (try clear hk); (try clear hi); (try clear ho0)))
         go_loopg [15, 16] k2 (fun kq v15 v16 w' => ∃ (x15_3 : Bool) (x16_3 : Int), v15 = .bool x15_3 ∧ v16 = .int .i64 x16_3 ∧ Aside0 (topiarylaw15_TreeOwn.l1 kq t369 (Int.tmod (wrap64 ((Int.tmod a1_0 (t374.length : Int)) + (t374.length : Int))) (t374.length : Int)) t379 (Int.tmod (wrap64 ((wrap64 ((Int.tmod a1_1 (wrap64 ((t379.length : Int) + 1))) + (t379.length : Int))) + 1)) (wrap64 ((t379.length : Int) + 1))) t393 x15_3 x16_3 t371 t374 = some r) ∧ Aside0 (kq ≤ k2) ∧ Aside0 (Kd.R (Kd.int .i64) 3 w' w.heap.size (fun k_ => some k_ ≠ (v394 : Value).ownBlock) (.slice Ao28 t379.length co28) t379) ∧ Aside0 (Kd.R (Kd.int .i64) 3 w' w.heap.size (fun k_ => some k_ ≠ ((.slice Ao28 t379.length co28) : Value).ownBlock) v394 t393) ∧ Aside0 (Kd.R Kd.string 9 w' w.heap.size (fun _ => True) (.slice Ao11 t371.length co11) t371) ∧ Aside0 (Kd.R k52 52 w' w.heap.size (fun _ => True) (.slice Ao14 t374.length co14) t374) ∧ Aside0 (w'.heap[gb368]? = some (.cells #[.int .i64 a1_0, .int .i64 a1_1] 49 (0, 0))) ∧ Aside0 (w'.heap[gb378]? = some (.cells #[(.slice Ao11 t371.length co11), (.slice Ao14 t374.length co14)] 25 (0, 0))) ∧ Aside0 (Below w.heap.size w w'))
         case atStart => exact ⟨(false), (0), sm_, sm_, H', ⟨Nat.le_refl _⟩, ⟨by (with_reducible repeat (first | apply Kd.R_alloc | apply Kd.R_drewN | apply Kd.R_drew)); exact Kd.R_mono HO_9.out (fun _ hk => hk.2)⟩, ⟨by (with_reducible repeat (first | apply Kd.R_alloc | apply Kd.R_drewN | apply Kd.R_drew)); exact Kd.R_mono HO395.out (fun _ hk => hk.1.2)⟩, ⟨by exact rr_ HO_379000.out⟩, ⟨by exact rr_ HO_379001.out⟩, ⟨by exact bk_ BK368.out⟩, ⟨by exact bk_ BK378.out⟩, ⟨by repeat (first | (with_reducible first | exact HB.out | apply below_alloc | apply pw_below_drewN | apply below_drew1 | refine below_set ?_ GE368.out | refine below_set ?_ GE378.out) | exact HB.out)⟩⟩
         case round =>
          clear H'
          try clear c1
          try clear c2
          try clear p2
          try clear c3
          try clear p3
          try clear q3
          try clear hx3
          try clear c4
          try clear p6
          try clear c8
          try clear c9
          try clear c12
          try clear c15
          try clear c15b0
          try clear c15b1
          try clear c16
          try clear c18
          try clear c19
          try clear c19b0
          try clear c19b1
          try clear c19b2
          try clear c21
          try clear c21b0
          try clear c21b1
          try clear c24
          try clear c28
          try clear c29
          try clear c30
          try clear c33
          try clear c33b0
          try clear c34
          try clear c34b0
          try clear c35
          try clear c35b0
          try clear c36
          try clear c37
          try clear p38
          try clear q38
          try clear hx38
          try clear c42
          try clear hcz13_0
          try clear hcz13_1
          try clear hcz17_0
          try clear hcz17_1
          try clear hcz25_0
          try clear hcz25_1
          try clear hcz27_0
          try clear hcz27_1
          try clear hcz29_0
          try clear hcz29_1
          try clear hcz43_0
          try clear hcz43_1
          try clear hfz13_0
          try clear hfz13_1
          try clear hfz17_0
          try clear hfz17_1
          try clear hfz25_0
          try clear hfz25_1
          try clear hfz27_0
          try clear hfz27_1
          try clear hfz29_0
          try clear hfz29_1
          try clear hfz43_0
          try clear hfz43_1
          try clear hx386_0
          try clear p2
          try clear p386
          try clear p6
          try clear q386
          obtain ⟨x15_3, x16_3, rfl, rfl, HA, HK3, HO_9, HO_14, HO_379000, HO_379001, BK368, BK378, HB⟩ := hrel
          cases gk with
          | zero => exact absurd HA.out (by simp [topiarylaw15_TreeOwn.l1])
          | succ k3 =>
           have H := HA.out
           clear HA
           simp only [topiarylaw15_TreeOwn.l1] at H
           by_cases c46 : x16_3 < (t393.length : Int)
           ·rw [if_pos c46] at H
            have c46b0 : decide (x16_3 < (t393.length : Int)) = true := decide_eq_true c46
            clear c46
            have HC47 := Aside0.mk H
            clear H
            obtain ⟨Ao48, co48, eo48⟩ := Kd.R_slice HO_14.out
            subst eo48
            go_upto_region 20 with (fail)
            go_cut [15] (fun v15 wc => ∃ (kq : Nat) (x15_46 : Bool), v15 = .bool x15_46 ∧ Aside0 (topiarylaw15_TreeOwn.j3 kq t369 (Int.tmod (wrap64 ((Int.tmod a1_0 (t374.length : Int)) + (t374.length : Int))) (t374.length : Int)) t379 (Int.tmod (wrap64 ((wrap64 ((Int.tmod a1_1 (wrap64 ((t379.length : Int) + 1))) + (t379.length : Int))) + 1)) (wrap64 ((t379.length : Int) + 1))) t393 x15_46 x16_3 t371 t374 = some r) ∧ Aside0 (kq ≤ k3) ∧ Aside0 (Kd.R (Kd.int .i64) 3 wc w.heap.size (fun k_ => some k_ ≠ ((.slice Ao48 t393.length co48) : Value).ownBlock) (.slice Ao28 t379.length co28) t379) ∧ Aside0 (Kd.R (Kd.int .i64) 3 wc w.heap.size (fun k_ => some k_ ≠ ((.slice Ao28 t379.length co28) : Value).ownBlock) (.slice Ao48 t393.length co48) t393) ∧ Aside0 (Kd.R Kd.string 9 wc w.heap.size (fun _ => True) (.slice Ao11 t371.length co11) t371) ∧ Aside0 (Kd.R k52 52 wc w.heap.size (fun _ => True) (.slice Ao14 t374.length co14) t374) ∧ Aside0 (wc.heap[gb368]? = some (.cells #[.int .i64 a1_0, .int .i64 a1_1] 49 (0, 0))) ∧ Aside0 (wc.heap[gb378]? = some (.cells #[(.slice Ao11 t371.length co11), (.slice Ao14 t374.length co14)] 25 (0, 0))) ∧ Aside0 (Below w.heap.size w wc))
            case first =>
             have H := HC47.out
             clear HC47
             by_cases c49 : x15_3 = true
             ·subst c49
              have H1 : (topiarylaw15_TreeOwn.j3 k3 t369 (Int.tmod (wrap64 ((Int.tmod a1_0 (t374.length : Int)) + (t374.length : Int))) (t374.length : Int)) t379 (Int.tmod (wrap64 ((wrap64 ((Int.tmod a1_1 (wrap64 ((t379.length : Int) + 1))) + (t379.length : Int))) + 1)) (wrap64 ((t379.length : Int) + 1))) t393 true x16_3 t371 t374) = some r := by rw [if_pos rfl] at H; exact H
              clear H
              have H := H1
              clear H1
              have H' := Aside0.mk H
              clear H
              go_wp2
              go_meet
              case rel => exact ⟨_, (true), sm_, H', ⟨by have := HJ5.out; have := HK2.out; have := HK3.out; first | omega | exact Nat.le_refl _⟩, ⟨by exact rr_ HO_9.out⟩, ⟨by exact rr_ HO_14.out⟩, ⟨by exact rr_ HO_379000.out⟩, ⟨by exact rr_ HO_379001.out⟩, ⟨by exact bk_ BK368.out⟩, ⟨by exact bk_ BK378.out⟩, ⟨by repeat (first | (with_reducible first | exact HB.out | apply below_alloc | apply pw_below_drewN | apply below_drew1 | refine below_set ?_ GE368.out | refine below_set ?_ GE378.out) | exact HB.out)⟩⟩
             ·replace c49 := Bool.eq_false_iff.mpr c49
              subst c49
              have H1 : (if 0 ≤ x16_3 then (topiarylaw15_TreeOwn.j3 k3 t369 (Int.tmod (wrap64 ((Int.tmod a1_0 (t374.length : Int)) + (t374.length : Int))) (t374.length : Int)) t379 (Int.tmod (wrap64 ((wrap64 ((Int.tmod a1_1 (wrap64 ((t379.length : Int) + 1))) + (t379.length : Int))) + 1)) (wrap64 ((t379.length : Int) + 1))) t393 ((rd t393 x16_3) == (Int.tmod (wrap64 ((Int.tmod a1_0 (t374.length : Int)) + (t374.length : Int))) (t374.length : Int))) x16_3 t371 t374) else (none)) = some r := by rw [if_neg (show ¬ (false = true) by decide)] at H; exact H
              clear H
              have H := H1
              clear H1
              by_cases c50 : 0 ≤ x16_3
              ·rw [if_pos c50] at H
               have c50b0 : decide (0 ≤ x16_3) = true := decide_eq_true c50
               clear c50
               (first | rw [c50b0] | (simp only [i64_w, i32_w]; rw [c50b0]) | skip)
               have H' := Aside0.mk H
               clear H
               have p397 : 0 ≤ (x16_3 : Int) := of_decide_eq_true as_
               have q397 : x16_3 < (t393.length : Int) := of_decide_eq_true as_
               obtain ⟨ad397, e397, hx397_0⟩ := Kd.at_int (Kd.R_reads' HO_14.out).2.2 x16_3 p397 q397
               cases e397
               replace p397 := eq_true p397
               replace q397 := eq_true q397
               go_wp2
               go_meet
               case rel => exact ⟨_, (((rd t393 x16_3) == (Int.tmod (wrap64 ((Int.tmod a1_0 (t374.length : Int)) + (t374.length : Int))) (t374.length : Int)))), sm_, H', ⟨by have := HJ5.out; have := HK2.out; have := HK3.out; first | omega | exact Nat.le_refl _⟩, ⟨by exact rr_ HO_9.out⟩, ⟨by exact rr_ HO_14.out⟩, ⟨by exact rr_ HO_379000.out⟩, ⟨by exact rr_ HO_379001.out⟩, ⟨by exact bk_ BK368.out⟩, ⟨by exact bk_ BK378.out⟩, ⟨by repeat (first | (with_reducible first | exact HB.out | apply below_alloc | apply pw_below_drewN | apply below_drew1 | refine below_set ?_ GE368.out | refine below_set ?_ GE378.out) | exact HB.out)⟩⟩
              ·rw [if_neg c50] at H
               exact absurd H (by simp)
            case rest =>
             clear HC47
             try clear c1
             try clear c2
             try clear p2
             try clear c3
             try clear p3
             try clear q3
             try clear hx3
             try clear c4
             try clear c5
             try clear p6
             try clear c8
             try clear c9
             try clear c12
             try clear c15
             try clear c15b0
             try clear c15b1
             try clear c16
             try clear c18
             try clear c19
             try clear c19b0
             try clear c19b1
             try clear c19b2
             try clear c21
             try clear c21b0
             try clear c21b1
             try clear c24
             try clear c28
             try clear c29
             try clear c30
             try clear c33
             try clear c33b0
             try clear c34
             try clear c34b0
             try clear c35
             try clear c35b0
             try clear c36
             try clear c37
             try clear p38
             try clear q38
             try clear hx38
             try clear p39
             try clear q39
             try clear hx39
             try clear c42
             try clear c46
             try clear c46b0
             try clear c49
             try clear c50
             try clear c50b0
             try clear hcz13_0
             try clear hcz13_1
             try clear hcz17_0
             try clear hcz17_1
             try clear hcz25_0
             try clear hcz25_1
             try clear hcz27_0
             try clear hcz27_1
             try clear hcz29_0
             try clear hcz29_1
             try clear hcz43_0
             try clear hcz43_1
             try clear hfz13_0
             try clear hfz13_1
             try clear hfz17_0
             try clear hfz17_1
             try clear hfz25_0
             try clear hfz25_1
             try clear hfz27_0
             try clear hfz27_1
             try clear hfz29_0
             try clear hfz29_1
             try clear hfz43_0
             try clear hfz43_1
             try clear hx386_0
             try clear hx397_0
             try clear p2
             try clear p3
             try clear p38
             try clear p386
             try clear p397
             try clear p6
             try clear q3
             try clear q38
             try clear q386
             try clear q397
             obtain ⟨kq, x15_46, rfl, HA, HJ46, HO_9, HO_14, HO_379000, HO_379001, BK368, BK378, HB⟩ := hcut
             cases kq with
             | zero => exact absurd HA.out (by simp [topiarylaw15_TreeOwn.j3])
             | succ kj46 =>
              have H := HA.out
              clear HA
              simp only [topiarylaw15_TreeOwn.j3] at H
              by_cases c51 : 0 ≤ x16_3
              ·rw [if_pos c51] at H
               have c51b0 : decide (0 ≤ x16_3) = true := decide_eq_true c51
               clear c51
               by_cases c52 : x16_3 < (t393.length : Int)
               ·rw [if_pos c52] at H
                have c52b0 : decide (x16_3 < (t393.length : Int)) = true := decide_eq_true c52
                clear c52
                replace H := Option.bind_eq_some_iff.mp H
                obtain ⟨t399, A530, H⟩ := H
                replace H : (if t399 < (Int.tmod (wrap64 ((wrap64 ((Int.tmod a1_1 (wrap64 ((t379.length : Int) + 1))) + (t379.length : Int))) + 1)) (wrap64 ((t379.length : Int) + 1))) then (some false) else ((tree_Symbol.f kj46 t371 t374 (rd t393 x16_3)).bind fun t401 => ((tree_Symbol.f kj46 t371 t374 (Int.tmod (wrap64 ((Int.tmod a1_0 (t374.length : Int)) + (t374.length : Int))) (t374.length : Int))).bind fun t402 => (if t401 = t402 then (topiarylaw15_TreeOwn.l1 kj46 t369 (Int.tmod (wrap64 ((Int.tmod a1_0 (t374.length : Int)) + (t374.length : Int))) (t374.length : Int)) t379 (Int.tmod (wrap64 ((wrap64 ((Int.tmod a1_1 (wrap64 ((t379.length : Int) + 1))) + (t379.length : Int))) + 1)) (wrap64 ((t379.length : Int) + 1))) t393 x15_46 (wrap64 (x16_3 + 1)) t371 t374) else (some false))))) = some r := H
                have A53 := Aside0.mk A530
                clear A530
                by_cases c54 : t399 < (Int.tmod (wrap64 ((wrap64 ((Int.tmod a1_1 (wrap64 ((t379.length : Int) + 1))) + (t379.length : Int))) + 1)) (wrap64 ((t379.length : Int) + 1)))
                ·rw [if_pos c54] at H
                 have c54b0 : decide (t399 < (Int.tmod (wrap64 ((wrap64 ((Int.tmod a1_1 (wrap64 ((t379.length : Int) + 1))) + (t379.length : Int))) + 1)) (wrap64 ((t379.length : Int) + 1)))) = true := decide_eq_true c54
                 clear c54
                 exact absurd ((Option.some.inj H).trans HRT.out) (by decide)
                ·rw [if_neg c54] at H
                 have c54b0 : decide (t399 < (Int.tmod (wrap64 ((wrap64 ((Int.tmod a1_1 (wrap64 ((t379.length : Int) + 1))) + (t379.length : Int))) + 1)) (wrap64 ((t379.length : Int) + 1)))) = false := decide_eq_false c54
                 clear c54
                 replace H := Option.bind_eq_some_iff.mp H
                 obtain ⟨t401, A570, H⟩ := H
                 replace H : ((tree_Symbol.f kj46 t371 t374 (Int.tmod (wrap64 ((Int.tmod a1_0 (t374.length : Int)) + (t374.length : Int))) (t374.length : Int))).bind fun t402 => (if t401 = t402 then (topiarylaw15_TreeOwn.l1 kj46 t369 (Int.tmod (wrap64 ((Int.tmod a1_0 (t374.length : Int)) + (t374.length : Int))) (t374.length : Int)) t379 (Int.tmod (wrap64 ((wrap64 ((Int.tmod a1_1 (wrap64 ((t379.length : Int) + 1))) + (t379.length : Int))) + 1)) (wrap64 ((t379.length : Int) + 1))) t393 x15_46 (wrap64 (x16_3 + 1)) t371 t374) else (some false))) = some r := H
                 have A57 := Aside0.mk A570
                 clear A570
                 replace H := Option.bind_eq_some_iff.mp H
                 obtain ⟨t402, A580, H⟩ := H
                 replace H : (if t401 = t402 then (topiarylaw15_TreeOwn.l1 kj46 t369 (Int.tmod (wrap64 ((Int.tmod a1_0 (t374.length : Int)) + (t374.length : Int))) (t374.length : Int)) t379 (Int.tmod (wrap64 ((wrap64 ((Int.tmod a1_1 (wrap64 ((t379.length : Int) + 1))) + (t379.length : Int))) + 1)) (wrap64 ((t379.length : Int) + 1))) t393 x15_46 (wrap64 (x16_3 + 1)) t371 t374) else (some false)) = some r := H
                 have A58 := Aside0.mk A580
                 clear A580
                 by_cases c59 : t401 = t402
                 ·rw [if_pos c59] at H
                  have c59b0 : (t401 == t402) = true := beq_iff_eq.mpr c59
                  have c59b1 : (t401 != t402) = false := bne_eq_false_iff_eq.mpr c59
                  clear c59
                  have H' := Aside0.mk H
                  clear H
                  try go_wp2
                  have n0_ := Aside0.mk (Kd.R_drew HO_9.out)
                  have n1_ := Aside0.mk (Kd.R_drew HO_14.out)
                  have n2_ := Aside0.mk (Kd.R_drew HO_379000.out)
                  have n3_ := Aside0.mk (Kd.R_drew HO_379001.out)
                  have n4_ := Aside0.mk (blk_drew BK368.out)
                  have n5_ := Aside0.mk (blk_drew BK378.out)
                  have n6_ := Aside0.mk (below_drew1 HB.out)
                  clear HO_9
                  clear HO_14
                  clear HO_379000
                  clear HO_379001
                  clear BK368
                  clear BK378
                  clear HB
                  have HO_9 := n0_
                  have HO_14 := n1_
                  have HO_379000 := n2_
                  have HO_379001 := n3_
                  have BK368 := n4_
                  have BK378 := n5_
                  have HB := n6_
                  clear n0_ n1_ n2_ n3_ n4_ n5_ n6_
                  have p398 : 0 ≤ (x16_3 : Int) := of_decide_eq_true as_
                  have q398 : x16_3 < (t393.length : Int) := of_decide_eq_true as_
                  obtain ⟨ad398, e398, hx398_0⟩ := Kd.at_int (Kd.R_reads' HO_14.out).2.2 x16_3 p398 q398
                  cases e398
                  replace p398 := eq_true p398
                  replace q398 := eq_true q398
                  have p400 : 0 ≤ (x16_3 : Int) := of_decide_eq_true as_
                  have q400 : x16_3 < (t393.length : Int) := of_decide_eq_true as_
                  obtain ⟨ad400, e400, hx400_0⟩ := Kd.at_int (Kd.R_reads' HO_14.out).2.2 x16_3 p400 q400
                  obtain rfl : ad398 = ad400 := (by injection e400)
                  replace p400 := eq_true p400
                  replace q400 := eq_true q400
                  refine start_ (n := 20) (S := fun w' => w'.cell? ⟨gb378, 0, none⟩ = some (.slice Ao11 t371.length co11) ∧ w'.cell? ⟨gb378, 1, none⟩ = some (.slice Ao14 t374.length co14) ∧ w'.cell? (ad398.add (x16_3).toNat) = some (.int .i64 (rd t393 x16_3)) ∧ w'.cell? (ad398.add (x16_3).toNat) = some (.int .i64 (rd t393 x16_3))) (ds := []) #[false, false, false, false, false, false, false, false, false, false, false, false, false, false, false, false, false, false, false, false] (by kernel_rfl) rfl rfl ⟨(blk_cell BK378.out 0).trans rfl, (blk_cell BK378.out 1).trans rfl, hx398_0, hx400_0⟩ (fun hHeld => ?_); refine with_tabW topiarylaw15_TreeOwn.tab21 topiarylaw15_TreeOwn.bits21 (fun HT_ HW_ => ?_)
                  generalize wc.drew = w60 at HO_9 HO_14 HO_379000 HO_379001 BK368 BK378 HB hx398_0 hx400_0 hHeld ⊢
                  refine pure_ (i := 1) (N := some 102) (v := ?_) (a' := ?_) #[false, true, false, false, false, false, false, false, false, false, false, false, false, false, false, false, false, false, false, false] rfl rfl (any_of HT_.out (by kernel_rfl)) (fun _ _ _ h => h) (Or.inl ⟨by rfl, ?_⟩) ?_ ?_
                  rotate_left
                  ·intro w'
                   go_simp
                   with_reducible rfl
                  rotate_left
                  ·simp only [Act.put, List.setIfInBounds_toArray, List.set_cons_zero, List.set_cons_succ, i64_w, i32_w]
                   rfl
                  refine pure_ (i := 2) (N := some 103) (v := ?_) (a' := ?_) #[false, true, true, false, false, false, false, false, false, false, false, false, false, false, false, false, false, false, false, false] rfl rfl (any_of HT_.out (by kernel_rfl)) (fun _ _ _ h => h) (Or.inl ⟨by rfl, ?_⟩) ?_ ?_
                  rotate_left
                  ·intro w'
                   go_simp
                   with_reducible rfl
                  rotate_left
                  ·simp only [Act.put, List.setIfInBounds_toArray, List.set_cons_zero, List.set_cons_succ, i64_w, i32_w]
                   rfl
                  refine pure_ (i := 3) (N := some 104) (v := ?_) (a' := ?_) #[false, true, true, true, false, false, false, false, false, false, false, false, false, false, false, false, false, false, false, false] rfl rfl (any_of HT_.out (by kernel_rfl)) (fun _ _ _ h => h) (Or.inl ⟨by rfl, ?_⟩) ?_ ?_
                  rotate_left
                  ·intro w'
                   go_simp
                   with_reducible rfl
                  rotate_left
                  ·simp only [Act.put, List.setIfInBounds_toArray, List.set_cons_zero, List.set_cons_succ, i64_w, i32_w]
                   rfl
                  refine pure_ (i := 6) (N := some 107) (v := ?_) (a' := ?_) #[false, true, true, true, false, false, true, false, false, false, false, false, false, false, false, false, false, false, false, false] rfl rfl (any_of HT_.out (by kernel_rfl)) (fun _ _ _ h => h) (Or.inl ⟨by rfl, ?_⟩) ?_ ?_
                  rotate_left
                  ·intro w'
                   go_simp
                   with_reducible rfl
                  rotate_left
                  ·simp only [Act.put, List.setIfInBounds_toArray, List.set_cons_zero, List.set_cons_succ, i64_w, i32_w]
                   rfl
                  refine take_ (i := 0) (N := some 101) (v := ?_) (a' := ?_) #[true, true, true, true, false, false, true, false, false, false, false, false, false, false, false, false, false, false, false, false] rfl rfl (take_ofW HT_.out HW_.out (by kernel_rfl)) (fun _ _ _ h => h) (Or.inl ⟨by rfl, ?_⟩) hHeld ?_ ?_
                  rotate_left
                  ·rintro w' ⟨s0, s1, s2, s3⟩
                   go_simp
                   with_reducible rfl
                  rotate_left
                  ·simp only [Act.put, List.setIfInBounds_toArray, List.set_cons_zero, List.set_cons_succ, i64_w, i32_w]
                   rfl
                  refine take_ (i := 4) (N := some 105) (v := ?_) (a' := ?_) #[true, true, true, true, true, false, true, false, false, false, false, false, false, false, false, false, false, false, false, false] rfl rfl (take_ofW HT_.out HW_.out (by kernel_rfl)) (fun _ _ _ h => h) (Or.inl ⟨by rfl, ?_⟩) hHeld ?_ ?_
                  rotate_left
                  ·rintro w' ⟨s0, s1, s2, s3⟩
                   go_simp
                   with_reducible rfl
                  rotate_left
                  ·simp only [Act.put, List.setIfInBounds_toArray, List.set_cons_zero, List.set_cons_succ, i64_w, i32_w]
                   rfl
                  refine one_ (i := 5) (N := some 106) #[true, true, true, true, true, true, true, false, false, false, false, false, false, false, false, false, false, false, false, false] rfl rfl (one_of HT_.out (by kernel_rfl)) (by decide) (fun K hK => ?_)
                  refine goes_ Try.func25 (by kernel_rfl) rfl #[.agg #[.slice Ao11 t371.length co11, .slice Ao14 t374.length co14], .int .i64 (rd t393 x16_3)] (by rfl) rfl rfl ar_ ?_
                  with_reducible refine (tree_Depth.calls _ _ t371 _ _ t374 (rd t393 x16_3) t399 _ ?side1 ?side2 ?side3 ?side4 A53.out).mono ?_
                  (case side1 => repeat (first | exact (Kd.R_reads' HO_379000.out).2.2 | (with_reducible refine Kd.C_alloc ?_ _) | (with_reducible refine Kd.C_drewN ?_ _) | (with_reducible refine Kd.C_drew ?_)))
                  (case side2 => exact (Kd.R_reads' HO_379000.out).2.1)
                  (case side3 => repeat (first | exact (Kd.R_reads' HO_379001.out).2.2 | (with_reducible refine Kd.C_alloc ?_ _) | (with_reducible refine Kd.C_drewN ?_ _) | (with_reducible refine Kd.C_drew ?_)))
                  (case side4 => exact (Kd.R_reads' HO_379001.out).2.1)
                  rintro e w61 ⟨rfl, hb⟩
                  have HS2_ := (hb.cell (World.block_lt_of_cell? _ _ (hHeld.2.2.1))).trans (hHeld.2.2.1)
                  have HS3_ := (hb.cell (World.block_lt_of_cell? _ _ (hHeld.2.2.2))).trans (hHeld.2.2.2)
                  refine ⟨_, rfl, ?_⟩
                  have n0_ := Aside0.mk (Kd.R_below (rr_ HO_9.out) hb)
                  have n1_ := Aside0.mk (Kd.R_below (rr_ HO_14.out) hb)
                  have n2_ := Aside0.mk (Kd.R_below (rr_ HO_379000.out) hb)
                  have n3_ := Aside0.mk (Kd.R_below (rr_ HO_379001.out) hb)
                  have n4_ := Aside0.mk (blk_below (g := gb368) (o := .cells #[.int .i64 a1_0, .int .i64 a1_1] 49 (0, 0)) (bk_ BK368.out) hb)
                  have n5_ := Aside0.mk (blk_below (g := gb378) (o := .cells #[.slice Ao11 t371.length co11, .slice Ao14 t374.length co14] 25 (0, 0)) (bk_ BK378.out) hb)
                  have n6_ := Aside0.mk (below_step (bt_ HB.out GE368.out GE378.out) hb)
                  clear HO_9
                  clear HO_14
                  clear HO_379000
                  clear HO_379001
                  clear BK368
                  clear BK378
                  clear HB
                  have HO_9 := n0_
                  have HO_14 := n1_
                  have HO_379000 := n2_
                  have HO_379001 := n3_
                  have BK368 := n4_
                  have BK378 := n5_
                  have HB := n6_
                  clear n0_ n1_ n2_ n3_ n4_ n5_ n6_
                  (try clear hb)
                  (try clear hb2)
                  (try clear hk)
                  (try clear hi)
                  refine hK.out _ _ ⟨(blk_cell BK378.out 0).trans rfl, (blk_cell BK378.out 1).trans rfl, HS2_, HS3_⟩ (fun hHeld => ?_)
                  clear hK K
                  refine norm_ (a' := ?_) ?_ ?_
                  rotate_left
                  ·show Act.put _ (some 106) _ = _
                   simp only [Act.put, List.setIfInBounds_toArray, List.set_cons_zero, List.set_cons_succ, i64_w, i32_w]
                   rfl
                  refine pure_ (i := 7) (N := some 108) (v := ?_) (a' := ?_) #[true, true, true, true, true, true, true, true, false, false, false, false, false, false, false, false, false, false, false, false] rfl rfl (any_of HT_.out (by kernel_rfl)) (fun _ _ _ h => h) (Or.inl ⟨by rfl, ?_⟩) ?_ ?_
                  rotate_left
                  ·intro w'
                   go_simp
                   with_reducible rfl
                  rotate_left
                  ·simp only [Act.put, List.setIfInBounds_toArray, List.set_cons_zero, List.set_cons_succ, i64_w, i32_w]
                   rfl
                  refine pure_ (i := 8) (N := some 109) (v := ?_) (a' := ?_) #[true, true, true, true, true, true, true, true, true, false, false, false, false, false, false, false, false, false, false, false] rfl rfl (any_of HT_.out (by kernel_rfl)) (fun _ _ _ h => h) (Or.inl ⟨by rfl, ?_⟩) ?_ ?_
                  rotate_left
                  ·intro w'
                   go_simp
                   with_reducible rfl
                  rotate_left
                  ·simp only [Act.put, List.setIfInBounds_toArray, List.set_cons_zero, List.set_cons_succ, i64_w, i32_w]
                   rfl
                  refine pure_ (i := 10) (N := some 111) (v := ?_) (a' := ?_) #[true, true, true, true, true, true, true, true, true, false, true, false, false, false, false, false, false, false, false, false] rfl rfl (any_of HT_.out (by kernel_rfl)) (fun _ _ _ h => h) (Or.inl ⟨by rfl, ?_⟩) ?_ ?_
                  rotate_left
                  ·intro w'
                   go_simp
                   with_reducible rfl
                  rotate_left
                  ·simp only [Act.put, List.setIfInBounds_toArray, List.set_cons_zero, List.set_cons_succ, i64_w, i32_w]
                   rfl
                  refine pure_ (i := 11) (N := some 112) (v := ?_) (a' := ?_) #[true, true, true, true, true, true, true, true, true, false, true, true, false, false, false, false, false, false, false, false] rfl rfl (any_of HT_.out (by kernel_rfl)) (fun _ _ _ h => h) (Or.inl ⟨by rfl, ?_⟩) ?_ ?_
                  rotate_left
                  ·intro w'
                   go_simp
                   with_reducible rfl
                  rotate_left
                  ·simp only [Act.put, List.setIfInBounds_toArray, List.set_cons_zero, List.set_cons_succ, i64_w, i32_w]
                   rfl
                  refine pure_ (i := 12) (N := some 113) (v := ?_) (a' := ?_) #[true, true, true, true, true, true, true, true, true, false, true, true, true, false, false, false, false, false, false, false] rfl rfl (any_of HT_.out (by kernel_rfl)) (fun _ _ _ h => h) (Or.inl ⟨by rfl, ?_⟩) ?_ ?_
                  rotate_left
                  ·intro w'
                   go_simp
                   with_reducible rfl
                  rotate_left
                  ·simp only [Act.put, List.setIfInBounds_toArray, List.set_cons_zero, List.set_cons_succ, i64_w, i32_w]
                   rfl
                  refine pure_ (i := 16) (N := some 117) (v := ?_) (a' := ?_) #[true, true, true, true, true, true, true, true, true, false, true, true, true, false, false, false, true, false, false, false] rfl rfl (any_of HT_.out (by kernel_rfl)) (fun _ _ _ h => h) (Or.inl ⟨by rfl, ?_⟩) ?_ ?_
                  rotate_left
                  ·intro w'
                   go_simp
                   with_reducible rfl
                  rotate_left
                  ·simp only [Act.put, List.setIfInBounds_toArray, List.set_cons_zero, List.set_cons_succ, i64_w, i32_w]
                   rfl
                  refine take_ (i := 9) (N := some 110) (v := ?_) (a' := ?_) #[true, true, true, true, true, true, true, true, true, true, true, true, true, false, false, false, true, false, false, false] rfl rfl (take_ofW HT_.out HW_.out (by kernel_rfl)) (fun _ _ _ h => h) (Or.inl ⟨by rfl, ?_⟩) hHeld ?_ ?_
                  rotate_left
                  ·rintro w' ⟨s0, s1, s2, s3⟩
                   go_simp
                   with_reducible rfl
                  rotate_left
                  ·simp only [Act.put, List.setIfInBounds_toArray, List.set_cons_zero, List.set_cons_succ, i64_w, i32_w]
                   rfl
                  refine take_ (i := 13) (N := some 114) (v := ?_) (a' := ?_) #[true, true, true, true, true, true, true, true, true, true, true, true, true, true, false, false, true, false, false, false] rfl rfl (take_ofW HT_.out HW_.out (by kernel_rfl)) (fun _ _ _ h => h) (Or.inl ⟨by rfl, ?_⟩) hHeld ?_ ?_
                  rotate_left
                  ·rintro w' ⟨s0, s1, s2, s3⟩
                   go_simp
                   with_reducible rfl
                  rotate_left
                  ·simp only [Act.put, List.setIfInBounds_toArray, List.set_cons_zero, List.set_cons_succ, i64_w, i32_w]
                   rfl
                  refine take_ (i := 15) (N := some 116) (v := ?_) (a' := ?_) #[true, true, true, true, true, true, true, true, true, true, true, true, true, true, false, true, true, false, false, false] rfl rfl (take_ofW HT_.out HW_.out (by kernel_rfl)) (fun _ _ _ h => h) (Or.inl ⟨by rfl, ?_⟩) hHeld ?_ ?_
                  rotate_left
                  ·rintro w' ⟨s0, s1, s2, s3⟩
                   go_simp
                   with_reducible rfl
                  rotate_left
                  ·simp only [Act.put, List.setIfInBounds_toArray, List.set_cons_zero, List.set_cons_succ, i64_w, i32_w]
                   rfl
                  refine one_ (i := 14) (N := some 115) #[true, true, true, true, true, true, true, true, true, true, true, true, true, true, true, true, true, false, false, false] rfl rfl (one_of HT_.out (by kernel_rfl)) (by decide) (fun K hK => ?_)
                  refine goes_ Try.func16 (by kernel_rfl) rfl #[.agg #[.slice Ao11 t371.length co11, .slice Ao14 t374.length co14], .int .i64 (rd t393 x16_3)] (by rfl) rfl rfl ar_ ?_
                  with_reducible refine (tree_Symbol.calls kj46 _ _ t371 _ _ t374 (rd t393 x16_3) t401 _ ?side1 ?side2 ?side3 ?side4 A57.out).mono ?_
                  (case side1 => repeat (first | exact (Kd.R_reads' HO_379000.out).2.2 | (with_reducible refine Kd.C_alloc ?_ _) | (with_reducible refine Kd.C_drewN ?_ _) | (with_reducible refine Kd.C_drew ?_)))
                  (case side2 => exact (Kd.R_reads' HO_379000.out).2.1)
                  (case side3 => repeat (first | exact (Kd.R_reads' HO_379001.out).2.2 | (with_reducible refine Kd.C_alloc ?_ _) | (with_reducible refine Kd.C_drewN ?_ _) | (with_reducible refine Kd.C_drew ?_)))
                  (case side4 => exact (Kd.R_reads' HO_379001.out).2.1)
                  rintro e w62 ⟨rfl, hb⟩
                  have HS2_ := (hb.cell (World.block_lt_of_cell? _ _ (hHeld.2.2.1))).trans (hHeld.2.2.1)
                  have HS3_ := (hb.cell (World.block_lt_of_cell? _ _ (hHeld.2.2.2))).trans (hHeld.2.2.2)
                  refine ⟨_, rfl, ?_⟩
                  have n0_ := Aside0.mk (Kd.R_below (rr_ HO_9.out) hb)
                  have n1_ := Aside0.mk (Kd.R_below (rr_ HO_14.out) hb)
                  have n2_ := Aside0.mk (Kd.R_below (rr_ HO_379000.out) hb)
                  have n3_ := Aside0.mk (Kd.R_below (rr_ HO_379001.out) hb)
                  have n4_ := Aside0.mk (blk_below (g := gb368) (o := .cells #[.int .i64 a1_0, .int .i64 a1_1] 49 (0, 0)) (bk_ BK368.out) hb)
                  have n5_ := Aside0.mk (blk_below (g := gb378) (o := .cells #[.slice Ao11 t371.length co11, .slice Ao14 t374.length co14] 25 (0, 0)) (bk_ BK378.out) hb)
                  have n6_ := Aside0.mk (below_step (bt_ HB.out GE368.out GE378.out) hb)
                  clear HO_9
                  clear HO_14
                  clear HO_379000
                  clear HO_379001
                  clear BK368
                  clear BK378
                  clear HB
                  have HO_9 := n0_
                  have HO_14 := n1_
                  have HO_379000 := n2_
                  have HO_379001 := n3_
                  have BK368 := n4_
                  have BK378 := n5_
                  have HB := n6_
                  clear n0_ n1_ n2_ n3_ n4_ n5_ n6_
                  (try clear hb)
                  (try clear hb2)
                  (try clear hk)
                  (try clear hi)
                  refine hK.out _ _ ⟨(blk_cell BK378.out 0).trans rfl, (blk_cell BK378.out 1).trans rfl, HS2_, HS3_⟩ (fun hHeld => ?_)
                  clear hK K
                  refine norm_ (a' := ?_) ?_ ?_
                  rotate_left
                  ·show Act.put _ (some 115) _ = _
                   simp only [Act.put, List.setIfInBounds_toArray, List.set_cons_zero, List.set_cons_succ, i64_w, i32_w]
                   rfl
                  refine one_ (i := 17) (N := some 118) #[true, true, true, true, true, true, true, true, true, true, true, true, true, true, true, true, true, true, false, false] rfl rfl (one_of HT_.out (by kernel_rfl)) (by decide) (fun K hK => ?_)
                  refine goes_ Try.func16 (by kernel_rfl) rfl #[.agg #[.slice Ao11 t371.length co11, .slice Ao14 t374.length co14], .int .i64 (Int.tmod (wrap64 ((Int.tmod a1_0 (t374.length : Int)) + (t374.length : Int))) (t374.length : Int))] (by rfl) rfl rfl ar_ ?_
                  with_reducible refine (tree_Symbol.calls kj46 _ _ t371 _ _ t374 (Int.tmod (wrap64 ((Int.tmod a1_0 (t374.length : Int)) + (t374.length : Int))) (t374.length : Int)) t402 _ ?side1 ?side2 ?side3 ?side4 A58.out).mono ?_
                  (case side1 => repeat (first | exact (Kd.R_reads' HO_379000.out).2.2 | (with_reducible refine Kd.C_alloc ?_ _) | (with_reducible refine Kd.C_drewN ?_ _) | (with_reducible refine Kd.C_drew ?_)))
                  (case side2 => exact (Kd.R_reads' HO_379000.out).2.1)
                  (case side3 => repeat (first | exact (Kd.R_reads' HO_379001.out).2.2 | (with_reducible refine Kd.C_alloc ?_ _) | (with_reducible refine Kd.C_drewN ?_ _) | (with_reducible refine Kd.C_drew ?_)))
                  (case side4 => exact (Kd.R_reads' HO_379001.out).2.1)
                  rintro e w63 ⟨rfl, hb⟩
                  have HS2_ := (hb.cell (World.block_lt_of_cell? _ _ (hHeld.2.2.1))).trans (hHeld.2.2.1)
                  have HS3_ := (hb.cell (World.block_lt_of_cell? _ _ (hHeld.2.2.2))).trans (hHeld.2.2.2)
                  refine ⟨_, rfl, ?_⟩
                  have n0_ := Aside0.mk (Kd.R_below (rr_ HO_9.out) hb)
                  have n1_ := Aside0.mk (Kd.R_below (rr_ HO_14.out) hb)
                  have n2_ := Aside0.mk (Kd.R_below (rr_ HO_379000.out) hb)
                  have n3_ := Aside0.mk (Kd.R_below (rr_ HO_379001.out) hb)
                  have n4_ := Aside0.mk (blk_below (g := gb368) (o := .cells #[.int .i64 a1_0, .int .i64 a1_1] 49 (0, 0)) (bk_ BK368.out) hb)
                  have n5_ := Aside0.mk (blk_below (g := gb378) (o := .cells #[.slice Ao11 t371.length co11, .slice Ao14 t374.length co14] 25 (0, 0)) (bk_ BK378.out) hb)
                  have n6_ := Aside0.mk (below_step (bt_ HB.out GE368.out GE378.out) hb)
                  clear HO_9
                  clear HO_14
                  clear HO_379000
                  clear HO_379001
                  clear BK368
                  clear BK378
                  clear HB
                  have HO_9 := n0_
                  have HO_14 := n1_
                  have HO_379000 := n2_
                  have HO_379001 := n3_
                  have BK368 := n4_
                  have BK378 := n5_
                  have HB := n6_
                  clear n0_ n1_ n2_ n3_ n4_ n5_ n6_
                  (try clear hb)
                  (try clear hb2)
                  (try clear hk)
                  (try clear hi)
                  refine hK.out _ _ ⟨(blk_cell BK378.out 0).trans rfl, (blk_cell BK378.out 1).trans rfl, HS2_, HS3_⟩ (fun hHeld => ?_)
                  clear hK K
                  refine norm_ (a' := ?_) ?_ ?_
                  rotate_left
                  ·show Act.put _ (some 118) _ = _
                   simp only [Act.put, List.setIfInBounds_toArray, List.set_cons_zero, List.set_cons_succ, i64_w, i32_w]
                   rfl
                  refine pure_ (i := 18) (N := some 119) (v := ?_) (a' := ?_) #[true, true, true, true, true, true, true, true, true, true, true, true, true, true, true, true, true, true, true, false] rfl rfl (any_of HT_.out (by kernel_rfl)) (fun _ _ _ h => h) (Or.inl ⟨by rfl, ?_⟩) ?_ ?_
                  rotate_left
                  ·intro w'
                   go_simp
                   with_reducible rfl
                  rotate_left
                  ·simp only [Act.put, List.setIfInBounds_toArray, List.set_cons_zero, List.set_cons_succ, i64_w, i32_w]
                   rfl
                  refine pure_ (i := 19) (N := some 120) (v := ?_) (a' := ?_) #[true, true, true, true, true, true, true, true, true, true, true, true, true, true, true, true, true, true, true, true] rfl rfl (any_of HT_.out (by kernel_rfl)) (fun _ _ _ h => h) (Or.inl ⟨by rfl, ?_⟩) ?_ ?_
                  rotate_left
                  ·intro w'
                   go_simp
                   with_reducible rfl
                  rotate_left
                  ·simp only [Act.put, List.setIfInBounds_toArray, List.set_cons_zero, List.set_cons_succ, i64_w, i32_w]
                   rfl
                  refine done_ (done_of HT_.out (by kernel_rfl)) ?_
                  try go_wp2
                  go_roundg kj46
                  case measure => have := HJ5.out; have := HK2.out; have := HK3.out; have := HJ46.out; omega
                  case rel => exact ⟨(x15_46), (wrap64 (x16_3 + 1)), sm_, sm_, H', ⟨by have := HJ5.out; have := HK2.out; have := HK3.out; have := HJ46.out; omega⟩, ⟨by exact rr_ HO_9.out⟩, ⟨by exact rr_ HO_14.out⟩, ⟨by exact rr_ HO_379000.out⟩, ⟨by exact rr_ HO_379001.out⟩, ⟨by exact bk_ BK368.out⟩, ⟨by exact bk_ BK378.out⟩, ⟨by repeat (first | (with_reducible first | exact HB.out | apply below_alloc | apply pw_below_drewN | apply below_drew1 | refine below_set ?_ GE368.out | refine below_set ?_ GE378.out) | exact HB.out)⟩⟩
                 ·rw [if_neg c59] at H
                  have c59b0 : (t401 == t402) = false := beq_eq_false_iff_ne.mpr c59
                  have c59b1 : (t401 != t402) = true := bne_iff_ne.mpr c59
                  exact absurd ((Option.some.inj H).trans HRT.out) (by decide)
               ·rw [if_neg c52] at H
                exact absurd H (by simp)
              ·rw [if_neg c51] at H
               exact absurd H (by simp)
           ·rw [if_neg c46] at H
            have c46b0 : decide (x16_3 < (t393.length : Int)) = false := decide_eq_false c46
            clear c46
            by_cases c68 : t369 = true
            ·subst c68
             have H1 : (if x15_3 = true then ((tree_Depth.f t371 t374 (Int.tmod (wrap64 ((Int.tmod a1_0 (t374.length : Int)) + (t374.length : Int))) (t374.length : Int))).bind fun t396 => (some ((t379.length : Int) == t396))) else (some false)) = some r := by rw [if_pos rfl] at H; exact H
             clear H
             have H := H1
             clear H1
             by_cases c69 : x15_3 = true
             ·subst c69
              have H1 : ((tree_Depth.f t371 t374 (Int.tmod (wrap64 ((Int.tmod a1_0 (t374.length : Int)) + (t374.length : Int))) (t374.length : Int))).bind fun t396 => (some ((t379.length : Int) == t396))) = some r := by rw [if_pos rfl] at H; exact H
              clear H
              have H := H1
              clear H1
              replace H := Option.bind_eq_some_iff.mp H
              obtain ⟨t396, A700, H⟩ := H
              replace H : (some ((t379.length : Int) == t396)) = some r := H
              have A70 := Aside0.mk A700
              clear A700
              obtain rfl := Option.some.inj H
              obtain ⟨Ao71, co71, eo71⟩ := Kd.R_slice HO_14.out
              subst eo71
              have hnb72 := NB378_368.out
              have hnc72 := NB368_378.out
              have hcz73_0 : wr.cell? ⟨gb378, 0, none⟩ = some (.slice Ao11 t371.length co11) := (blk_cell BK378.out 0).trans rfl
              have hcz73_1 : wr.cell? ⟨gb378, 1, none⟩ = some (.slice Ao14 t374.length co14) := (blk_cell BK378.out 1).trans rfl
              have hfz73_0 := blk_frozen BK378.out 0
              have hfz73_1 := blk_frozen BK378.out 1
              go_wp2_with (first | (go_at_call 25; (with_reducible refine (tree_Depth.calls _ _ t371 _ _ t374 (Int.tmod (wrap64 ((Int.tmod a1_0 (t374.length : Int)) + (t374.length : Int))) (t374.length : Int)) t396 _ ?side1 ?side2 ?side3 ?side4 A70.out).mono ?_); (case side1 => repeat (first | exact (Kd.R_reads' HO_379000.out).2.2 | (with_reducible refine Kd.C_alloc ?_ _) | (with_reducible refine Kd.C_drewN ?_ _) | (with_reducible refine Kd.C_drew ?_))); (case side2 => exact (Kd.R_reads' HO_379000.out).2.1); (case side3 => repeat (first | exact (Kd.R_reads' HO_379001.out).2.2 | (with_reducible refine Kd.C_alloc ?_ _) | (with_reducible refine Kd.C_drewN ?_ _) | (with_reducible refine Kd.C_drew ?_))); (case side4 => exact (Kd.R_reads' HO_379001.out).2.1); rintro e w74 ⟨rfl, hb⟩; have n0_ := Aside0.mk (Kd.R_below (rr_ HO_9.out) hb); have n1_ := Aside0.mk (Kd.R_below (rr_ HO_14.out) hb); have n2_ := Aside0.mk (Kd.R_below (rr_ HO_379000.out) hb); have n3_ := Aside0.mk (Kd.R_below (rr_ HO_379001.out) hb); have n4_ := Aside0.mk (blk_below (g := gb368) (o := .cells #[.int .i64 a1_0, .int .i64 a1_1] 49 (0, 0)) (bk_ BK368.out) hb); have n5_ := Aside0.mk (blk_below (g := gb378) (o := .cells #[.slice Ao11 t371.length co11, .slice Ao14 t374.length co14] 25 (0, 0)) (bk_ BK378.out) hb); have n6_ := Aside0.mk (below_step (bt_ HB.out GE368.out GE378.out) hb); clear HO_9; clear HO_14; clear HO_379000; clear HO_379001; clear BK368; clear BK378; clear HB; have HO_9 := n0_; have HO_14 := n1_; have HO_379000 := n2_; have HO_379001 := n3_; have BK368 := n4_; have BK378 := n5_; have HB := n6_; clear n0_ n1_ n2_ n3_ n4_ n5_ n6_; (try clear hb); (try clear hb2); (try clear hk); (try clear hi)))
              go_ret
              exact ⟨by first | rfl | (simp [errW_none, errW_some] <;> rfl) | (simp [*, errW_none, errW_some] <;> rfl), by repeat (first | (with_reducible first | exact HB.out | apply below_alloc | apply pw_below_drewN | apply below_drew1 | refine below_set ?_ GE368.out | refine below_set ?_ GE378.out) | exact HB.out)⟩
             ·replace c69 := Bool.eq_false_iff.mpr c69
              subst c69
              have H1 : (some false) = some r := by rw [if_neg (show ¬ (false = true) by decide)] at H; exact H
              clear H
              have H := H1
              clear H1
              exact absurd ((Option.some.inj H).trans HRT.out) (by decide)
            ·replace c68 := Bool.eq_false_iff.mpr c68
             subst c68
             have H1 : (some false) = some r := by rw [if_neg (show ¬ (false = true) by decide)] at H; exact H
             clear H
             have H := H1
             clear H1
             exact absurd ((Option.some.inj H).trans HRT.out) (by decide)
end Go.Proofs.Ytoanmoddppmffaa.T
