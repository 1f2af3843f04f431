/- What each function of the program comes to, and its walk: laid by a program. -/
import Derived.Test.YtoanmoddppmffaaATx
namespace Go.Proofs.Ytoanmoddppmffaa.T
open Go.RowKit Go.Proofs.YtoanmoddppmffaaW.PrintWords Go.Proofs.YtoanmoddppmffaaW.PrintLast Go.Proofs.YtoanmoddppmffaaW.PrintMore
set_option linter.unusedVariables false
set_option linter.unusedSimpArgs false
mutual
def topiarylaw15_TreeNodes.j0 : Nat → Bool → Int → List Int → Int → Bool → List ByteArray → List (S52) → Int → Int → Int → Option (Bool)
 | 0, _, _, _, _, _, _, _, _, _, _ => none
 | k + 1, x5, x6, x7, x8, x31, x361000, x361001, x362000, x362001, x362002 => if x31 = true then (if 0 ≤ x362001 then (if x362001 < (x7.length : Int) then (topiarylaw15_TreeNodes.j1 k x5 x6 x7 (rd x7 x362001) x361000 x361001 x362000 x362001 x362002) else (none)) else (none)) else (topiarylaw15_TreeNodes.j1 k x5 x6 x7 x8 x361000 x361001 x362000 x362001 x362002)
def topiarylaw15_TreeNodes.j1 : Nat → Bool → Int → List Int → Int → List ByteArray → List (S52) → Int → Int → Int → Option (Bool)
 | 0, _, _, _, _, _, _, _, _, _ => none
 | k + 1, x5, x6, x7, x8, x361000, x361001, x362000, x362001, x362002 => topiarylaw15_TreeNodes.l0 k x5 x6 x7 x8 (-1) 0 0 x361000 x361001 x362000 x362001 x362002
def topiarylaw15_TreeNodes.l0 : Nat → Bool → Int → List Int → Int → Int → Int → Int → List ByteArray → List (S52) → Int → Int → Int → Option (Bool)
 | 0, _, _, _, _, _, _, _, _, _, _, _, _ => none
 | k + 1, x5, x6, x7, x8, x9, x10, x11, x361000, x361001, x362000, x362001, x362002 => if x11 < (x7.length : Int) then (if 0 ≤ x11 then ((topiaryref15_Symbol.f k x361000 x361001 (rd x7 x11)).bind fun t374 => (if t374 = x362002 then (if x10 = x362001 then (topiarylaw15_TreeNodes.l0 k x5 x6 x7 x8 (rd x7 x11) (wrap64 (x10 + 1)) (wrap64 (x11 + 1)) x361000 x361001 x362000 x362001 x362002) else (topiarylaw15_TreeNodes.l0 k x5 x6 x7 x8 x9 (wrap64 (x10 + 1)) (wrap64 (x11 + 1)) x361000 x361001 x362000 x362001 x362002)) else (topiarylaw15_TreeNodes.l0 k x5 x6 x7 x8 x9 x10 (wrap64 (x11 + 1)) x361000 x361001 x362000 x362001 x362002))) else (none)) else ((tree_Children.f x361000 x361001 x6).bind fun t376 => ((topiaryref02_Same.f k t376 x7).bind fun t379 => (if x6 ≥ 0 then (if x6 < (x361001.length : Int) then (topiarylaw15_TreeNodes.j3 k x5 x6 x7 x8 x9 t379 ((x7.length : Int) == 0) x361000 x361001 x362000 x362001 x362002) else (topiarylaw15_TreeNodes.j3 k x5 x6 x7 x8 x9 t379 false x361000 x361001 x362000 x362001 x362002)) else (topiarylaw15_TreeNodes.j3 k x5 x6 x7 x8 x9 t379 false x361000 x361001 x362000 x362001 x362002))))
def topiarylaw15_TreeNodes.j3 : Nat → Bool → Int → List Int → Int → Int → Bool → Bool → List ByteArray → List (S52) → Int → Int → Int → Option (Bool)
 | 0, _, _, _, _, _, _, _, _, _, _, _, _ => none
 | k + 1, x5, x6, x7, x8, x9, x12, x13, x361000, x361001, x362000, x362001, x362002 => if x5 = true then (if x12 = true then ((tree_Symbols.f x361000 x361001).bind fun t380 => (if t380 = (wrap64 ((wrap64 (2 * (x361000.length : Int))) + 1)) then ((tree_Symbol.f k x361000 x361001 x6).bind fun t381 => ((topiaryref15_Symbol.f k x361000 x361001 x6).bind fun t382 => (if t381 = t382 then ((tree_Parent.f k x361000 x361001 x6).bind fun t383 => ((topiaryref15_Parent.f x361000 x361001 x6).bind fun t384 => (if t383 = t384 then ((tree_Degree.f x361000 x361001 x6).bind fun t385 => (if t385 = (x7.length : Int) then ((tree_Child.f x361000 x361001 x6 x362001).bind fun t386 => (if t386 = x8 then ((tree_Labelled.f k x361000 x361001 x6 x362002 x362001).bind fun t387 => (if t387 = x9 then ((tree_Leaf.f x361000 x361001 x6).bind fun t388 => (some (t388 == x13))) else (some false))) else (some false))) else (some false))) else (some false)))) else (some false)))) else (some false))) else (some false)) else (some false)
end
def topiarylaw15_TreeNodes.f (k : Nat) (l0_0 : List ByteArray) (l0_1 : List (S52)) (a1_0 : Int) (a1_1 : Int) (a1_2 : Int) : Option (Bool) := (topiarylaw15_awake.f k).bind fun t362 => ((topiarylaw15_small.f k l0_0 l0_1).bind fun bt363 => ((topiaryref15_Children.f k bt363.1 bt363.2 a1_0).bind fun t369 => (if a1_1 ≥ 0 then (topiarylaw15_TreeNodes.j0 k t362 a1_0 t369 (-1) (decide (a1_1 < (t369.length : Int))) bt363.1 bt363.2 a1_0 a1_1 a1_2) else (topiarylaw15_TreeNodes.j0 k t362 a1_0 t369 (-1) false bt363.1 bt363.2 a1_0 a1_1 a1_2))))
def topiarylaw15_TreeNodes.T13 : Bool × List (List Nat × List Nat) := (true, [([], []), ([], []), ([], []), ([1, 2], [1, 2]), ([3], [3]), ([0, 4], [0, 4]), ([], []), ([6], [6]), ([5, 7], [5, 7])])
def topiarylaw15_TreeNodes.B13 : List Nat := [0, 0, 0, 6, 14, 31, 0, 64, 255]
theorem topiarylaw15_TreeNodes.tab13 : rtab .any (opsOf Try.f3 13) = topiarylaw15_TreeNodes.T13 := by kernel_rfl
theorem topiarylaw15_TreeNodes.bits13 : waitsOk topiarylaw15_TreeNodes.T13.2 topiarylaw15_TreeNodes.B13 = true := by kernel_rfl
def topiarylaw15_TreeNodes.T19 : Bool × List (List Nat × List Nat) := (true, [([], []), ([0], [0]), ([1], [1]), ([1, 2], [1, 2]), ([3, 1], [3]), ([4], [4]), ([5, 4, 4], [4, 5]), ([4], [4]), ([7, 4], [4, 7]), ([8, 4], [4, 8]), ([9, 4], [4, 9]), ([10, 4], [4, 10]), ([6, 11, 4], [4, 6, 11]), ([4, 12], [4, 12]), ([13, 6], [13]), ([14], [14]), ([14], [14]), ([15, 16, 14, 14], [14, 15, 16]), ([14], [14]), ([14], [14]), ([18, 19, 17, 14], [14, 18, 19]), ([17, 20, 14], [14, 17, 20]), ([14, 21], [14, 21]), ([22, 20], [22]), ([23], [23]), ([23], [23]), ([24, 25, 23, 23], [23, 24, 25]), ([23], [23]), ([23], [23]), ([27, 28, 26, 23], [23, 27, 28]), ([26, 29, 23], [23, 26, 29]), ([23, 30], [23, 30]), ([31, 29], [31]), ([32], [32]), ([32], [32]), ([33, 34, 32, 32], [32, 33, 34]), ([32], [32]), ([36, 32], [32, 36]), ([35, 37, 32], [32, 35, 37]), ([32, 38], [32, 38]), ([39, 35], [39]), ([40], [40]), ([40], [40]), ([40], [40]), ([43, 40], [40, 43]), ([41, 42, 44, 40, 40], [40, 41, 42, 44]), ([40], [40]), ([45, 46, 40], [40, 45, 46]), ([40, 47], [40, 47]), ([48, 45], [48]), ([49], [49]), ([49], [49]), ([49], [49]), ([52, 49], [49, 52]), ([49], [49]), ([54, 49], [49, 54]), ([50, 51, 53, 55, 49, 49], [49, 50, 51, 53, 55]), ([49], [49]), ([56, 57, 49], [49, 56, 57]), ([49, 58], [49, 58]), ([59, 56], [59]), ([60], [60]), ([60], [60]), ([61, 62, 60, 60], [60, 61, 62]), ([60], [60]), ([63, 64, 60], [60, 63, 64]), ([60, 65], [60, 65]), ([66, 63, 0, 1, 2, 3, 4, 5, 6, 7, 8, 9, 10, 11, 12, 13, 14, 15, 16, 17, 18, 19, 20, 21, 22, 23, 24, 25, 26, 27, 28, 29, 30, 31, 32, 33, 34, 35, 36, 37, 38, 39, 40, 41, 42, 43, 44, 45, 46, 47, 48, 49, 50, 51, 52, 53, 54, 55, 56, 57, 58, 59, 60, 61, 62, 63, 64, 65, 66], [66])])
def topiarylaw15_TreeNodes.B19 : List Nat := [0, 1, 3, 7, 15, 31, 63, 31, 159, 415, 927, 1951, 4095, 8191, 16383, 32767, 32767, 131071, 32767, 32767, 1048575, 2097151, 4194303, 8388607, 16777215, 16777215, 67108863, 16777215, 16777215, 536870911, 1073741823, 2147483647, 4294967295, 8589934591, 8589934591, 34359738367, 8589934591, 77309411327, 274877906943, 549755813887, 1099511627775, 2199023255551, 2199023255551, 2199023255551, 10995116277759, 35184372088831, 2199023255551, 140737488355327, 281474976710655, 562949953421311, 1125899906842623, 1125899906842623, 1125899906842623, 5629499534213119, 1125899906842623, 19140298416324607, 72057594037927935, 1125899906842623, 288230376151711743, 576460752303423487, 1152921504606846975, 2305843009213693951, 2305843009213693951, 9223372036854775807, 2305843009213693951, 36893488147419103231, 73786976294838206463, 147573952589676412927]
theorem topiarylaw15_TreeNodes.tab19 : rtab .any (opsOf Try.f3 19) = topiarylaw15_TreeNodes.T19 := by kernel_rfl
theorem topiarylaw15_TreeNodes.bits19 : waitsOk topiarylaw15_TreeNodes.T19.2 topiarylaw15_TreeNodes.B19 = true := by kernel_rfl
set_option maxHeartbeats 8000000 in
set_option maxRecDepth 100000 in
theorem topiarylaw15_TreeNodes.calls (k : Nat) (A0_0 : Option Addr) (c0_0 : Nat) (l0_0 : List ByteArray) (A0_1 : Option Addr) (c0_1 : Nat) (l0_1 : List (S52)) (a1_0 : Int) (a1_1 : Int) (a1_2 : Int) (r : Bool) (w : World) (hr0_0 : Kd.C Kd.string w A0_0 l0_0.length l0_0) (hc0_0 : l0_0.length ≤ c0_0) (hr0_1 : Kd.C k52 w A0_1 l0_1.length l0_1) (hc0_1 : l0_1.length ≤ c0_1) (h : topiarylaw15_TreeNodes.f k l0_0 l0_1 a1_0 a1_1 a1_2 = some r) (hrt : r = true) :
  Calls Try.prog 3 #[.agg #[.slice A0_0 l0_0.length c0_0, .slice A0_1 l0_1.length c0_1], .agg #[.int .i64 a1_0, .int .i64 a1_1, .int .i64 a1_2]] w fun e w' => e = .returned (.bool r) ∧ Below w.heap.size w w' := by
 have HRT := Aside0.mk hrt
 clear hrt
 have hu25 := Try.underlying25
 have hu26 := Try.underlying26
 have HR0_0 := Aside0.mk hr0_0
 have HC0_0 := Aside0.mk hc0_0
 clear hr0_0 hc0_0
 have HR0_1 := Aside0.mk hr0_1
 have HC0_1 := Aside0.mk hc0_1
 clear hr0_1 hc0_1
 have HB := Aside0.mk (Below.refl w.heap.size w)
 have H : ((topiarylaw15_awake.f k).bind fun t362 => ((topiarylaw15_small.f k l0_0 l0_1).bind fun bt363 => ((topiaryref15_Children.f k bt363.1 bt363.2 a1_0).bind fun t369 => (if a1_1 ≥ 0 then (topiarylaw15_TreeNodes.j0 k t362 a1_0 t369 (-1) (decide (a1_1 < (t369.length : Int))) bt363.1 bt363.2 a1_0 a1_1 a1_2) else (topiarylaw15_TreeNodes.j0 k t362 a1_0 t369 (-1) false bt363.1 bt363.2 a1_0 a1_1 a1_2))))) = some r := h
 clear h
 replace H := Option.bind_eq_some_iff.mp H
 obtain ⟨t362, A30, H⟩ := H
 replace H : ((topiarylaw15_small.f k l0_0 l0_1).bind fun bt363 => ((topiaryref15_Children.f k bt363.1 bt363.2 a1_0).bind fun t369 => (if a1_1 ≥ 0 then (topiarylaw15_TreeNodes.j0 k t362 a1_0 t369 (-1) (decide (a1_1 < (t369.length : Int))) bt363.1 bt363.2 a1_0 a1_1 a1_2) else (topiarylaw15_TreeNodes.j0 k t362 a1_0 t369 (-1) false bt363.1 bt363.2 a1_0 a1_1 a1_2)))) = some r := H
 have A3 := Aside0.mk A30
 clear A30
 replace H := Option.bind_eq_some_iff.mp H
 obtain ⟨⟨t363, t366⟩, A40, H⟩ := H
 replace H : ((topiaryref15_Children.f k t363 t366 a1_0).bind fun t369 => (if a1_1 ≥ 0 then (topiarylaw15_TreeNodes.j0 k t362 a1_0 t369 (-1) (decide (a1_1 < (t369.length : Int))) t363 t366 a1_0 a1_1 a1_2) else (topiarylaw15_TreeNodes.j0 k t362 a1_0 t369 (-1) false t363 t366 a1_0 a1_1 a1_2))) = some r := H
 have A4 := Aside0.mk A40
 clear A40
 replace H := Option.bind_eq_some_iff.mp H
 obtain ⟨t369, A50, H⟩ := H
 replace H : (if a1_1 ≥ 0 then (topiarylaw15_TreeNodes.j0 k t362 a1_0 t369 (-1) (decide (a1_1 < (t369.length : Int))) t363 t366 a1_0 a1_1 a1_2) else (topiarylaw15_TreeNodes.j0 k t362 a1_0 t369 (-1) false t363 t366 a1_0 a1_1 a1_2)) = some r := H
 have A5 := Aside0.mk A50
 clear A50
 have HC6 := Aside0.mk H
 clear H
 go_enter Try.func3, Try.ntmps3
 go_upto_region 6 with (first | ((with_reducible refine gate_dst (N := 2) rfl ?_); (try (refine gate_guard (by rfl) ?_; dsimp only)); refine box_event ?hg (N := 2) ?hd (cs := #[.slice A0_0 l0_0.length c0_0, .slice A0_1 l0_1.length c0_1]) (t := 25) ?hr ?_; (case hd => rfl); (case hg => rfl); (case hr => first | (go_simp; done) | (go_simp; rfl)); intro gb360 hg w7 hbox hb; have n0_ := Aside0.mk (below_step (bb_ HB.out) hb); have n1_ := Aside0.mk (hbox); have n2_ := Aside0.mk ((by rw [hg]; exact (below_size (bb_ HB.out)) : w.heap.size ≤ gb360)); have n3_ := Aside0.mk ((by rw [hg]; exact (below_size (bb_ HB.out)) : w.heap.size ≤ gb360)); clear HB; have HB := n0_; have BK360 := n1_; have GW360 := n2_; have GE360 := n3_; clear n0_ n1_ n2_ n3_; clear hb hbox hg) | ((with_reducible refine gate_dst (N := 3) rfl ?_); (try (refine gate_guard (by rfl) ?_; dsimp only)); refine box_event ?hg (N := 3) ?hd (cs := #[.int .i64 a1_0, .int .i64 a1_1, .int .i64 a1_2]) (t := 26) ?hr ?_; (case hd => rfl); (case hg => rfl); (case hr => first | (go_simp; done) | (go_simp; rfl)); intro gb361 hg w8 hbox hb; have n0_ := Aside0.mk (blk_below (g := gb360) (o := .cells #[.slice A0_0 l0_0.length c0_0, .slice A0_1 l0_1.length c0_1] 25 (0, 0)) (bk_ BK360.out) hb); have n1_ := Aside0.mk (below_step (bs_ HB.out GE360.out) hb); have n2_ := Aside0.mk (hbox); have n3_ := Aside0.mk ((by rw [hg]; exact (below_size (bs_ HB.out GE360.out)) : w.heap.size ≤ gb361)); have n4_ := Aside0.mk ((by rw [hg]; exact (below_size (bs_ HB.out GE360.out)) : w.heap.size ≤ gb361)); have n5_ := Aside0.mk ((by rw [hg]; exact Nat.ne_of_lt (blk_lt (g := gb360) (o := .cells #[.slice A0_0 l0_0.length c0_0, .slice A0_1 l0_1.length c0_1] 25 (0, 0)) (bk_ BK360.out)) : gb360 ≠ gb361)); have n6_ := Aside0.mk ((by rw [hg]; exact Nat.ne_of_gt (blk_lt (g := gb360) (o := .cells #[.slice A0_0 l0_0.length c0_0, .slice A0_1 l0_1.length c0_1] 25 (0, 0)) (bk_ BK360.out)) : gb361 ≠ gb360)); clear BK360; clear HB; have BK360 := n0_; have HB := n1_; have BK361 := n2_; have GW361 := n3_; have GE361 := n4_; have NB360_361 := n5_; have NB361_360 := n6_; clear n0_ n1_ n2_ n3_ n4_ n5_ n6_; clear hb hbox hg) | ((with_reducible refine gate_callee (f := 9) rfl ?_); refine goesL_ (some 14) rfl rfl Try.func9 (by kernel_rfl) rfl #[] rfl ar_ ?_; (with_reducible refine (topiarylaw15_awake.calls k  t362 _ A3.out).mono ?_); rintro e w9 ⟨rfl, hb⟩; refine ⟨_, rfl, ?_⟩; have n0_ := Aside0.mk (blk_below (g := gb360) (o := .cells #[.slice A0_0 l0_0.length c0_0, .slice A0_1 l0_1.length c0_1] 25 (0, 0)) (bk_ BK360.out) hb); have n1_ := Aside0.mk (blk_below (g := gb361) (o := .cells #[.int .i64 a1_0, .int .i64 a1_1, .int .i64 a1_2] 26 (0, 0)) (bk_ BK361.out) hb); have n2_ := Aside0.mk (below_step (bt_ HB.out GE360.out GE361.out) hb); clear BK360; clear BK361; clear HB; have BK360 := n0_; have BK361 := n1_; have HB := n2_; clear n0_ n1_ n2_; (try clear hb); (try clear hb2); (try clear hk); (try clear hi); have hnb10 := NB360_361.out; have hnc10 := NB361_360.out; have hcz11_0 : w9.cell? ⟨gb360, 0, none⟩ = some (.slice A0_0 l0_0.length c0_0) := (blk_cell BK360.out 0).trans rfl; have hcz11_1 : w9.cell? ⟨gb360, 1, none⟩ = some (.slice A0_1 l0_1.length c0_1) := (blk_cell BK360.out 1).trans rfl; have hfz11_0 := blk_frozen BK360.out 0; have hfz11_1 := blk_frozen BK360.out 1) | ((with_reducible refine gate_callee (f := 10) rfl ?_); refine goesL_ (some 16) rfl rfl Try.func10 (by kernel_rfl) rfl #[.agg #[.slice A0_0 l0_0.length c0_0, .slice A0_1 l0_1.length c0_1]] rfl ar_ ?_; (with_reducible refine (topiarylaw15_small.calls k _ _ l0_0 _ _ l0_1 t363 t366 _ ?side1 ?side2 ?side3 ?side4 A4.out).mono ?_); (case side1 => repeat (first | exact (Kd.C_below HR0_0.out HB.out) | (with_reducible refine Kd.C_alloc ?_ _) | (with_reducible refine Kd.C_drewN ?_ _) | (with_reducible refine Kd.C_drew ?_))); (case side2 => exact HC0_0.out); (case side3 => repeat (first | exact (Kd.C_below HR0_1.out HB.out) | (with_reducible refine Kd.C_alloc ?_ _) | (with_reducible refine Kd.C_drewN ?_ _) | (with_reducible refine Kd.C_drew ?_))); (case side4 => exact HC0_1.out); rintro e w12 ⟨v364, v367, rfl, ho0, ho1, hb⟩; refine ⟨_, rfl, ?_⟩; have n0_ := Aside0.mk (Kd.R_lower ho0 (below_size (bt_ HB.out GE360.out GE361.out))); have n1_ := Aside0.mk (Kd.R_lower ho1 (below_size (bt_ HB.out GE360.out GE361.out))); have n2_ := Aside0.mk (blk_below (g := gb360) (o := .cells #[.slice A0_0 l0_0.length c0_0, .slice A0_1 l0_1.length c0_1] 25 (0, 0)) (bk_ BK360.out) hb); have n3_ := Aside0.mk (blk_below (g := gb361) (o := .cells #[.int .i64 a1_0, .int .i64 a1_1, .int .i64 a1_2] 26 (0, 0)) (bk_ BK361.out) hb); have n4_ := Aside0.mk (below_step (bt_ HB.out GE360.out GE361.out) hb); clear BK360; clear BK361; clear HB; have HO365 := n0_; have HO368 := n1_; have BK360 := n2_; have BK361 := n3_; have HB := n4_; clear n0_ n1_ n2_ n3_ n4_; (try clear hb); (try clear hb2); (try clear hk); (try clear hi); (try clear ho0); (try clear ho1); obtain ⟨Ao13, co13, eo13⟩ := Kd.R_slice HO365.out; subst eo13; have hcz14_0 : w12.cell? ⟨gb360, 0, none⟩ = some (.slice A0_0 l0_0.length c0_0) := (blk_cell BK360.out 0).trans rfl; have hcz14_1 : w12.cell? ⟨gb360, 1, none⟩ = some (.slice A0_1 l0_1.length c0_1) := (blk_cell BK360.out 1).trans rfl; have hfz14_0 := blk_frozen BK360.out 0; have hfz14_1 := blk_frozen BK360.out 1; obtain ⟨Ao15, co15, eo15⟩ := Kd.R_slice HO368.out; subst eo15; have hcz16_0 : w12.cell? ⟨gb361, 0, none⟩ = some (.int .i64 a1_0) := (blk_cell BK361.out 0).trans rfl; have hcz16_1 : w12.cell? ⟨gb361, 1, none⟩ = some (.int .i64 a1_1) := (blk_cell BK361.out 1).trans rfl; have hcz16_2 : w12.cell? ⟨gb361, 2, none⟩ = some (.int .i64 a1_2) := (blk_cell BK361.out 2).trans rfl; have hfz16_0 := blk_frozen BK361.out 0; have hfz16_1 := blk_frozen BK361.out 1; have hfz16_2 := blk_frozen BK361.out 2) | ((with_reducible refine gate_callee (f := 11) rfl ?_); refine goesL_ (some 21) rfl rfl Try.func11 (by kernel_rfl) rfl #[.agg #[.slice Ao13 t363.length co13, .slice Ao15 t366.length co15], .int .i64 a1_0] rfl ar_ ?_; (with_reducible refine (topiaryref15_Children.calls k _ _ t363 _ _ t366 a1_0 t369 _ ?side1 ?side2 ?side3 ?side4 A5.out).mono ?_); (case side1 => refine (Kd.R_reads' (e := 9) (base := w.heap.size) (ok := fun k_ => True) (n := t363.length) (c := co13) ?_).2.2; exact (by (with_reducible repeat (first | apply Kd.R_alloc | apply Kd.R_drewN | apply Kd.R_drew)); exact (Kd.R_mono (Kd.R_far (p := ⟨gb360, 1, none⟩) (Kd.R_far (p := ⟨gb360, 0, none⟩) (Kd.R_types HO365.out BK360.out (by decide)) (fun _ hk => hk.2) (.slice Ao13 t363.length co13)) (fun _ hk => hk.2) (.slice Ao15 t366.length co15)) (fun _ h_ => h_.1)))); (case side2 => exact (Kd.R_reads' HO365.out).2.1); (case side3 => refine (Kd.R_reads' (e := 52) (base := w.heap.size) (ok := fun k_ => True) (n := t366.length) (c := co15) ?_).2.2; exact (by (with_reducible repeat (first | apply Kd.R_alloc | apply Kd.R_drewN | apply Kd.R_drew)); exact (Kd.R_mono (Kd.R_far (p := ⟨gb360, 1, none⟩) (Kd.R_far (p := ⟨gb360, 0, none⟩) (Kd.R_types HO368.out BK360.out (by decide)) (fun _ hk => hk.2) (.slice Ao13 t363.length co13)) (fun _ hk => hk.2) (.slice Ao15 t366.length co15)) (fun _ h_ => h_.1)))); (case side4 => exact (Kd.R_reads' HO368.out).2.1); rintro e w17 ⟨v370, rfl, ho0, hb⟩; refine ⟨_, rfl, ?_⟩; have n0_ := Aside0.mk (Kd.R_below (by (with_reducible repeat (first | apply Kd.R_alloc | apply Kd.R_drewN | apply Kd.R_drew)); exact (Kd.R_mono (Kd.R_far (p := ⟨gb360, 1, none⟩) (Kd.R_far (p := ⟨gb360, 0, none⟩) (Kd.R_types HO365.out BK360.out (by decide)) (fun _ hk => hk.2) (.slice Ao13 t363.length co13)) (fun _ hk => hk.2) (.slice Ao15 t366.length co15)) (fun _ h_ => h_.1))) hb); have n1_ := Aside0.mk (Kd.R_below (by (with_reducible repeat (first | apply Kd.R_alloc | apply Kd.R_drewN | apply Kd.R_drew)); exact (Kd.R_mono (Kd.R_far (p := ⟨gb360, 1, none⟩) (Kd.R_far (p := ⟨gb360, 0, none⟩) (Kd.R_types HO368.out BK360.out (by decide)) (fun _ hk => hk.2) (.slice Ao13 t363.length co13)) (fun _ hk => hk.2) (.slice Ao15 t366.length co15)) (fun _ h_ => h_.1))) hb); have n2_ := Aside0.mk (Kd.R_lower ho0 (below_size (bt_ HB.out GE360.out GE361.out))); have n3_ := Aside0.mk (blk_below (g := gb360) (o := .cells #[.slice Ao13 t363.length co13, .slice Ao15 t366.length co15] 25 (0, 0)) (by (with_reducible repeat (first | refine blk_drewN ?_ _ | refine blk_drew ?_ | refine blk_alloc ?_ _)); refine blk_put (cs := #[.slice Ao13 t363.length co13, .slice A0_1 l0_1.length c0_1]) ?_ 1 _ rfl; (with_reducible repeat (first | refine blk_drewN ?_ _ | refine blk_drew ?_ | refine blk_alloc ?_ _)); refine blk_put (cs := #[.slice A0_0 l0_0.length c0_0, .slice A0_1 l0_1.length c0_1]) ?_ 0 _ rfl; exact bk_ BK360.out) hb); have n4_ := Aside0.mk (blk_below (g := gb361) (o := .cells #[.int .i64 a1_0, .int .i64 a1_1, .int .i64 a1_2] 26 (0, 0)) (by (with_reducible repeat (first | refine blk_drewN ?_ _ | refine blk_drew ?_ | refine blk_alloc ?_ _)); refine blk_far ?_ NB361_360.out _; (with_reducible repeat (first | refine blk_drewN ?_ _ | refine blk_drew ?_ | refine blk_alloc ?_ _)); refine blk_far ?_ NB361_360.out _; exact bk_ BK361.out) hb); have n5_ := Aside0.mk (below_step (bt_ HB.out GE360.out GE361.out) hb); clear HO365; clear HO368; clear BK360; clear BK361; clear HB; have HO365 := n0_; have HO368 := n1_; have HO371 := n2_; have BK360 := n3_; have BK361 := n4_; have HB := n5_; clear n0_ n1_ n2_ n3_ n4_ n5_; (try clear hb); (try clear hb2); (try clear hk); (try clear hi); (try clear ho0)))
 (try simp only [Act.put, List.setIfInBounds_toArray, List.set_cons_zero, List.set_cons_succ])
 go_cut [31] (fun v31 wc => ∃ (kq : Nat) (x31_5 : Bool), v31 = .bool x31_5 ∧ Aside0 (topiarylaw15_TreeNodes.j0 kq t362 a1_0 t369 (-1) x31_5 t363 t366 a1_0 a1_1 a1_2 = some r) ∧ Aside0 (kq ≤ k) ∧ Aside0 (Kd.R (Kd.int .i64) 3 wc w.heap.size (fun _ => True) v370 t369) ∧ Aside0 (Kd.R Kd.string 9 wc w.heap.size (fun _ => True) (.slice Ao13 t363.length co13) t363) ∧ Aside0 (Kd.R k52 52 wc w.heap.size (fun _ => True) (.slice Ao15 t366.length co15) t366) ∧ Aside0 (wc.heap[gb360]? = some (.cells #[(.slice Ao13 t363.length co13), (.slice Ao15 t366.length co15)] 25 (0, 0))) ∧ Aside0 (wc.heap[gb361]? = some (.cells #[.int .i64 a1_0, .int .i64 a1_1, .int .i64 a1_2] 26 (0, 0))) ∧ Aside0 (Below w.heap.size w wc))
 case first =>
  have H := HC6.out
  clear HC6
  by_cases c18 : a1_1 ≥ 0
  ·rw [if_pos c18] at H
   have c18b0 : decide (0 ≤ a1_1) = true := decide_eq_true c18
   clear c18
   (first | rw [c18b0] | (simp only [i64_w, i32_w]; rw [c18b0]) | skip)
   have H' := Aside0.mk H
   clear H
   have hnb19 := NB361_360.out
   have hnc19 := NB360_361.out
   have hcz20_0 : w17.cell? ⟨gb361, 0, none⟩ = some (.int .i64 a1_0) := (blk_cell BK361.out 0).trans rfl
   have hcz20_1 : w17.cell? ⟨gb361, 1, none⟩ = some (.int .i64 a1_1) := (blk_cell BK361.out 1).trans rfl
   have hcz20_2 : w17.cell? ⟨gb361, 2, none⟩ = some (.int .i64 a1_2) := (blk_cell BK361.out 2).trans rfl
   have hfz20_0 := blk_frozen BK361.out 0
   have hfz20_1 := blk_frozen BK361.out 1
   have hfz20_2 := blk_frozen BK361.out 2
   obtain ⟨Ao21, co21, eo21⟩ := Kd.R_slice HO371.out
   subst eo21
   go_wp2
   go_meet
   case rel => exact ⟨_, (decide (a1_1 < (t369.length : Int))), sm_, H', ⟨by first | omega | exact Nat.le_refl _⟩, ⟨by exact rr_ HO371.out⟩, ⟨by exact rr_ HO365.out⟩, ⟨by exact rr_ HO368.out⟩, ⟨by exact bk_ BK360.out⟩, ⟨by exact bk_ BK361.out⟩, ⟨by repeat (first | (with_reducible first | exact HB.out | apply below_alloc | apply pw_below_drewN | apply below_drew1 | refine below_set ?_ GE360.out | refine below_set ?_ GE361.out) | exact HB.out)⟩⟩
  ·rw [if_neg c18] at H
   have c18b0 : decide (0 ≤ a1_1) = false := decide_eq_false c18
   clear c18
   (first | rw [c18b0] | (simp only [i64_w, i32_w]; rw [c18b0]) | skip)
   have H' := Aside0.mk H
   clear H
   have hnb22 := NB361_360.out
   have hnc22 := NB360_361.out
   have hcz23_0 : w17.cell? ⟨gb361, 0, none⟩ = some (.int .i64 a1_0) := (blk_cell BK361.out 0).trans rfl
   have hcz23_1 : w17.cell? ⟨gb361, 1, none⟩ = some (.int .i64 a1_1) := (blk_cell BK361.out 1).trans rfl
   have hcz23_2 : w17.cell? ⟨gb361, 2, none⟩ = some (.int .i64 a1_2) := (blk_cell BK361.out 2).trans rfl
   have hfz23_0 := blk_frozen BK361.out 0
   have hfz23_1 := blk_frozen BK361.out 1
   have hfz23_2 := blk_frozen BK361.out 2
   go_wp2
   go_meet
   case rel => exact ⟨_, (false), sm_, H', ⟨by first | omega | exact Nat.le_refl _⟩, ⟨by exact rr_ HO371.out⟩, ⟨by exact rr_ HO365.out⟩, ⟨by exact rr_ HO368.out⟩, ⟨by exact bk_ BK360.out⟩, ⟨by exact bk_ BK361.out⟩, ⟨by repeat (first | (with_reducible first | exact HB.out | apply below_alloc | apply pw_below_drewN | apply below_drew1 | refine below_set ?_ GE360.out | refine below_set ?_ GE361.out) | exact HB.out)⟩⟩
 case rest =>
  clear HC6
  try clear c1
  try clear c2
  try clear p2
  try clear c3
  try clear c9
  try clear c10
  try clear c11
  try clear c18
  try clear c18b0
  try clear c19
  try clear c22
  try clear hcz11_0
  try clear hcz11_1
  try clear hcz14_0
  try clear hcz14_1
  try clear hcz16_0
  try clear hcz16_1
  try clear hcz16_2
  try clear hcz20_0
  try clear hcz20_1
  try clear hcz20_2
  try clear hcz23_0
  try clear hcz23_1
  try clear hcz23_2
  try clear hfz11_0
  try clear hfz11_1
  try clear hfz14_0
  try clear hfz14_1
  try clear hfz16_0
  try clear hfz16_1
  try clear hfz16_2
  try clear hfz20_0
  try clear hfz20_1
  try clear hfz20_2
  try clear hfz23_0
  try clear hfz23_1
  try clear hfz23_2
  obtain ⟨kq, x31_5, rfl, HA, HJ5, HO_7, HO_361000, HO_361001, BK360, BK361, HB⟩ := hcut
  cases kq with
  | zero => exact absurd HA.out (by simp [topiarylaw15_TreeNodes.j0])
  | succ kj5 =>
   have H := HA.out
   clear HA
   simp only [topiarylaw15_TreeNodes.j0] at H
   have HC24 := Aside0.mk H
   clear H
   go_upto_if 31 with (fail)
   go_cut [8] (fun v8 wc => ∃ (kq : Nat) (x8_23 : Int), v8 = .int .i64 x8_23 ∧ Aside0 (topiarylaw15_TreeNodes.j1 kq t362 a1_0 t369 x8_23 t363 t366 a1_0 a1_1 a1_2 = some r) ∧ Aside0 (kq ≤ kj5) ∧ Aside0 (Kd.R (Kd.int .i64) 3 wc w.heap.size (fun _ => True) v370 t369) ∧ Aside0 (Kd.R Kd.string 9 wc w.heap.size (fun _ => True) (.slice Ao13 t363.length co13) t363) ∧ Aside0 (Kd.R k52 52 wc w.heap.size (fun _ => True) (.slice Ao15 t366.length co15) t366) ∧ Aside0 (wc.heap[gb360]? = some (.cells #[(.slice Ao13 t363.length co13), (.slice Ao15 t366.length co15)] 25 (0, 0))) ∧ Aside0 (wc.heap[gb361]? = some (.cells #[.int .i64 a1_0, .int .i64 a1_1, .int .i64 a1_2] 26 (0, 0))) ∧ Aside0 (Below w.heap.size w wc))
   case first =>
    have H := HC24.out
    clear HC24
    by_cases c25 : x31_5 = true
    ·subst c25
     have H1 : (if 0 ≤ a1_1 then (if a1_1 < (t369.length : Int) then (topiarylaw15_TreeNodes.j1 kj5 t362 a1_0 t369 (rd t369 a1_1) t363 t366 a1_0 a1_1 a1_2) else (none)) else (none)) = some r := by rw [if_pos rfl] at H; exact H
     clear H
     have H := H1
     clear H1
     by_cases c26 : 0 ≤ a1_1
     ·rw [if_pos c26] at H
      have c26b0 : decide (0 ≤ a1_1) = true := decide_eq_true c26
      clear c26
      (first | rw [c26b0] | (simp only [i64_w, i32_w]; rw [c26b0]) | skip)
      by_cases c27 : a1_1 < (t369.length : Int)
      ·rw [if_pos c27] at H
       have c27b0 : decide (a1_1 < (t369.length : Int)) = true := decide_eq_true c27
       clear c27
       have H' := Aside0.mk H
       clear H
       have hnb28 := NB361_360.out
       have hnc28 := NB360_361.out
       have hcz29_0 : wc.cell? ⟨gb361, 0, none⟩ = some (.int .i64 a1_0) := (blk_cell BK361.out 0).trans rfl
       have hcz29_1 : wc.cell? ⟨gb361, 1, none⟩ = some (.int .i64 a1_1) := (blk_cell BK361.out 1).trans rfl
       have hcz29_2 : wc.cell? ⟨gb361, 2, none⟩ = some (.int .i64 a1_2) := (blk_cell BK361.out 2).trans rfl
       have hfz29_0 := blk_frozen BK361.out 0
       have hfz29_1 := blk_frozen BK361.out 1
       have hfz29_2 := blk_frozen BK361.out 2
       obtain ⟨Ao30, co30, eo30⟩ := Kd.R_slice HO_7.out
       subst eo30
       have p372 : 0 ≤ (a1_1 : Int) := of_decide_eq_true as_
       have q372 : a1_1 < (t369.length : Int) := of_decide_eq_true as_
       obtain ⟨ad372, e372, hx372_0⟩ := Kd.at_int (Kd.R_reads' HO_7.out).2.2 a1_1 p372 q372
       cases e372
       replace p372 := eq_true p372
       replace q372 := eq_true q372
       go_wp2
       go_meet
       case rel => exact ⟨_, (rd t369 a1_1), sm_, H', ⟨by have := HJ5.out; first | omega | exact Nat.le_refl _⟩, ⟨by exact rr_ HO_7.out⟩, ⟨by exact rr_ HO_361000.out⟩, ⟨by exact rr_ HO_361001.out⟩, ⟨by exact bk_ BK360.out⟩, ⟨by exact bk_ BK361.out⟩, ⟨by repeat (first | (with_reducible first | exact HB.out | apply below_alloc | apply pw_below_drewN | apply below_drew1 | refine below_set ?_ GE360.out | refine below_set ?_ GE361.out) | exact HB.out)⟩⟩
      ·rw [if_neg c27] at H
       exact absurd H (by simp)
     ·rw [if_neg c26] at H
      exact absurd H (by simp)
    ·replace c25 := Bool.eq_false_iff.mpr c25
     subst c25
     have H1 : (topiarylaw15_TreeNodes.j1 kj5 t362 a1_0 t369 (-1) t363 t366 a1_0 a1_1 a1_2) = some r := by rw [if_neg (show ¬ (false = true) by decide)] at H; exact H
     clear H
     have H := H1
     clear H1
     have H' := Aside0.mk H
     clear H
     go_wp2
     go_meet
     case rel => exact ⟨_, ((-1)), sm_, H', ⟨by have := HJ5.out; first | omega | exact Nat.le_refl _⟩, ⟨by exact rr_ HO_7.out⟩, ⟨by exact rr_ HO_361000.out⟩, ⟨by exact rr_ HO_361001.out⟩, ⟨by exact bk_ BK360.out⟩, ⟨by exact bk_ BK361.out⟩, ⟨by repeat (first | (with_reducible first | exact HB.out | apply below_alloc | apply pw_below_drewN | apply below_drew1 | refine below_set ?_ GE360.out | refine below_set ?_ GE361.out) | exact HB.out)⟩⟩
   case rest =>
    clear HC24
    try clear c1
    try clear c2
    try clear p2
    try clear c3
    try clear p3
    try clear q3
    try clear hx3
    try clear c9
    try clear c10
    try clear c11
    try clear c18
    try clear c18b0
    try clear c19
    try clear c22
    try clear c25
    try clear c26
    try clear c26b0
    try clear c27
    try clear c27b0
    try clear c28
    try clear hcz11_0
    try clear hcz11_1
    try clear hcz14_0
    try clear hcz14_1
    try clear hcz16_0
    try clear hcz16_1
    try clear hcz16_2
    try clear hcz20_0
    try clear hcz20_1
    try clear hcz20_2
    try clear hcz23_0
    try clear hcz23_1
    try clear hcz23_2
    try clear hcz29_0
    try clear hcz29_1
    try clear hcz29_2
    try clear hfz11_0
    try clear hfz11_1
    try clear hfz14_0
    try clear hfz14_1
    try clear hfz16_0
    try clear hfz16_1
    try clear hfz16_2
    try clear hfz20_0
    try clear hfz20_1
    try clear hfz20_2
    try clear hfz23_0
    try clear hfz23_1
    try clear hfz23_2
    try clear hfz29_0
    try clear hfz29_1
    try clear hfz29_2
    try clear hx372_0
    try clear p2
    try clear p372
    try clear q372
    obtain ⟨kq, x8_23, rfl, HA, HJ23, HO_7, HO_361000, HO_361001, BK360, BK361, HB⟩ := hcut
    cases kq with
    | zero => exact absurd HA.out (by simp [topiarylaw15_TreeNodes.j1])
    | succ kj23 =>
     have H := HA.out
     clear HA
     simp only [topiarylaw15_TreeNodes.j1] at H
     have H' := Aside0.mk H
     clear H
     go_wp2
     go_loopg [9, 10, 11] kj23 (fun kq v9 v10 v11 w' => ∃ (x9_3 : Int) (x10_3 : Int) (x11_3 : Int), v9 = .int .i64 x9_3 ∧ v10 = .int .i64 x10_3 ∧ v11 = .int .i64 x11_3 ∧ Aside0 (topiarylaw15_TreeNodes.l0 kq t362 a1_0 t369 x8_23 x9_3 x10_3 x11_3 t363 t366 a1_0 a1_1 a1_2 = some r) ∧ Aside0 (kq ≤ kj23) ∧ Aside0 (Kd.R (Kd.int .i64) 3 w' w.heap.size (fun _ => True) v370 t369) ∧ Aside0 (Kd.R Kd.string 9 w' w.heap.size (fun _ => True) (.slice Ao13 t363.length co13) t363) ∧ Aside0 (Kd.R k52 52 w' w.heap.size (fun _ => True) (.slice Ao15 t366.length co15) t366) ∧ Aside0 (w'.heap[gb360]? = some (.cells #[(.slice Ao13 t363.length co13), (.slice Ao15 t366.length co15)] 25 (0, 0))) ∧ Aside0 (w'.heap[gb361]? = some (.cells #[.int .i64 a1_0, .int .i64 a1_1, .int .i64 a1_2] 26 (0, 0))) ∧ Aside0 (Below w.heap.size w w'))
     case atStart => exact ⟨((-1)), (0), (0), sm_, sm_, sm_, H', ⟨Nat.le_refl _⟩, ⟨by exact rr_ HO_7.out⟩, ⟨by exact rr_ HO_361000.out⟩, ⟨by exact rr_ HO_361001.out⟩, ⟨by exact bk_ BK360.out⟩, ⟨by exact bk_ BK361.out⟩, ⟨by repeat (first | (with_reducible first | exact HB.out | apply below_alloc | apply pw_below_drewN | apply below_drew1 | refine below_set ?_ GE360.out | refine below_set ?_ GE361.out) | exact HB.out)⟩⟩
     case round =>
      clear H'
      try clear c1
      try clear c2
      try clear p2
      try clear c3
      try clear p3
      try clear q3
      try clear hx3
      try clear c9
      try clear c10
      try clear c11
      try clear c18
      try clear c18b0
      try clear c19
      try clear c22
      try clear c25
      try clear c26
      try clear c26b0
      try clear c27
      try clear c27b0
      try clear c28
      try clear hcz11_0
      try clear hcz11_1
      try clear hcz14_0
      try clear hcz14_1
      try clear hcz16_0
      try clear hcz16_1
      try clear hcz16_2
      try clear hcz20_0
      try clear hcz20_1
      try clear hcz20_2
      try clear hcz23_0
      try clear hcz23_1
      try clear hcz23_2
      try clear hcz29_0
      try clear hcz29_1
      try clear hcz29_2
      try clear hfz11_0
      try clear hfz11_1
      try clear hfz14_0
      try clear hfz14_1
      try clear hfz16_0
      try clear hfz16_1
      try clear hfz16_2
      try clear hfz20_0
      try clear hfz20_1
      try clear hfz20_2
      try clear hfz23_0
      try clear hfz23_1
      try clear hfz23_2
      try clear hfz29_0
      try clear hfz29_1
      try clear hfz29_2
      try clear hx372_0
      try clear p2
      try clear p3
      try clear p372
      try clear q3
      try clear q372
      obtain ⟨x9_3, x10_3, x11_3, rfl, rfl, rfl, HA, HK3, HO_7, HO_361000, HO_361001, BK360, BK361, HB⟩ := hrel
      cases gk with
      | zero => exact absurd HA.out (by simp [topiarylaw15_TreeNodes.l0])
      | succ k3 =>
       have H := HA.out
       clear HA
       simp only [topiarylaw15_TreeNodes.l0] at H
       by_cases c31 : x11_3 < (t369.length : Int)
       ·rw [if_pos c31] at H
        have c31b0 : decide (x11_3 < (t369.length : Int)) = true := decide_eq_true c31
        clear c31
        by_cases c32 : 0 ≤ x11_3
        ·rw [if_pos c32] at H
         have c32b0 : decide (0 ≤ x11_3) = true := decide_eq_true c32
         clear c32
         replace H := Option.bind_eq_some_iff.mp H
         obtain ⟨t374, A330, H⟩ := H
         replace H : (if t374 = a1_2 then (if x10_3 = a1_1 then (topiarylaw15_TreeNodes.l0 k3 t362 a1_0 t369 x8_23 (rd t369 x11_3) (wrap64 (x10_3 + 1)) (wrap64 (x11_3 + 1)) t363 t366 a1_0 a1_1 a1_2) else (topiarylaw15_TreeNodes.l0 k3 t362 a1_0 t369 x8_23 x9_3 (wrap64 (x10_3 + 1)) (wrap64 (x11_3 + 1)) t363 t366 a1_0 a1_1 a1_2)) else (topiarylaw15_TreeNodes.l0 k3 t362 a1_0 t369 x8_23 x9_3 x10_3 (wrap64 (x11_3 + 1)) t363 t366 a1_0 a1_1 a1_2)) = some r := H
         have A33 := Aside0.mk A330
         clear A330
         by_cases c34 : t374 = a1_2
         ·rw [if_pos c34] at H
          have c34b0 : (t374 == a1_2) = true := beq_iff_eq.mpr c34
          have c34b1 : (t374 != a1_2) = false := bne_eq_false_iff_eq.mpr c34
          clear c34
          by_cases c35 : x10_3 = a1_1
          ·rw [if_pos c35] at H
           have c35b0 : (x10_3 == a1_1) = true := beq_iff_eq.mpr c35
           have c35b1 : (x10_3 != a1_1) = false := bne_eq_false_iff_eq.mpr c35
           clear c35
           have H' := Aside0.mk H
           clear H
           obtain ⟨Ao36, co36, eo36⟩ := Kd.R_slice HO_7.out
           subst eo36
           try go_wp2
           have n0_ := Aside0.mk (Kd.R_drew HO_7.out)
           have n1_ := Aside0.mk (Kd.R_drew HO_361000.out)
           have n2_ := Aside0.mk (Kd.R_drew HO_361001.out)
           have n3_ := Aside0.mk (blk_drew BK360.out)
           have n4_ := Aside0.mk (blk_drew BK361.out)
           have n5_ := Aside0.mk (below_drew1 HB.out)
           clear HO_7
           clear HO_361000
           clear HO_361001
           clear BK360
           clear BK361
           clear HB
           have HO_7 := n0_
           have HO_361000 := n1_
           have HO_361001 := n2_
           have BK360 := n3_
           have BK361 := n4_
           have HB := n5_
           clear n0_ n1_ n2_ n3_ n4_ n5_
           have p373 : 0 ≤ (x11_3 : Int) := of_decide_eq_true as_
           have q373 : x11_3 < (t369.length : Int) := of_decide_eq_true as_
           obtain ⟨ad373, e373, hx373_0⟩ := Kd.at_int (Kd.R_reads' HO_7.out).2.2 x11_3 p373 q373
           cases e373
           replace p373 := eq_true p373
           replace q373 := eq_true q373
           refine start_ (n := 9) (S := fun w' => w'.cell? ⟨gb360, 0, none⟩ = some (.slice Ao13 t363.length co13) ∧ w'.cell? ⟨gb360, 1, none⟩ = some (.slice Ao15 t366.length co15) ∧ w'.cell? ⟨gb361, 0, none⟩ = some (.int .i64 a1_0) ∧ w'.cell? ⟨gb361, 1, none⟩ = some (.int .i64 a1_1) ∧ w'.cell? ⟨gb361, 2, none⟩ = some (.int .i64 a1_2) ∧ w'.cell? (ad373.add (x11_3).toNat) = some (.int .i64 (rd t369 x11_3))) (ds := []) #[false, false, false, false, false, false, false, false, false] (by kernel_rfl) rfl rfl ⟨(blk_cell BK360.out 0).trans rfl, (blk_cell BK360.out 1).trans rfl, (blk_cell BK361.out 0).trans rfl, (blk_cell BK361.out 1).trans rfl, (blk_cell BK361.out 2).trans rfl, hx373_0⟩ (fun hHeld => ?_); refine with_tabW topiarylaw15_TreeNodes.tab13 topiarylaw15_TreeNodes.bits13 (fun HT_ HW_ => ?_)
           generalize wr.drew = w37 at HO_7 HO_361000 HO_361001 BK360 BK361 HB hx373_0 hHeld ⊢
           refine pure_ (i := 1) (N := some 44) (v := ?_) (a' := ?_) #[false, true, false, false, false, false, false, false, false] rfl rfl (any_of HT_.out (by kernel_rfl)) (fun _ _ _ h => h) (Or.inl ⟨by rfl, ?_⟩) ?_ ?_
           rotate_left
           ·intro w'
            go_simp
            with_reducible rfl
           rotate_left
           ·simp only [Act.put, List.setIfInBounds_toArray, List.set_cons_zero, List.set_cons_succ, i64_w, i32_w]
            rfl
           refine pure_ (i := 2) (N := some 45) (v := ?_) (a' := ?_) #[false, true, true, false, false, false, false, false, false] rfl rfl (any_of HT_.out (by kernel_rfl)) (fun _ _ _ h => h) (Or.inl ⟨by rfl, ?_⟩) ?_ ?_
           rotate_left
           ·intro w'
            go_simp
            with_reducible rfl
           rotate_left
           ·simp only [Act.put, List.setIfInBounds_toArray, List.set_cons_zero, List.set_cons_succ, i64_w, i32_w]
            rfl
           refine pure_ (i := 3) (N := some 46) (v := ?_) (a' := ?_) #[false, true, true, true, false, false, false, false, false] rfl rfl (any_of HT_.out (by kernel_rfl)) (fun _ _ _ h => h) (Or.inl ⟨by rfl, ?_⟩) ?_ ?_
           rotate_left
           ·intro w'
            go_simp
            with_reducible rfl
           rotate_left
           ·simp only [Act.put, List.setIfInBounds_toArray, List.set_cons_zero, List.set_cons_succ, i64_w, i32_w]
            rfl
           refine pure_ (i := 6) (N := some 49) (v := ?_) (a' := ?_) #[false, true, true, true, false, false, true, false, false] rfl rfl (any_of HT_.out (by kernel_rfl)) (fun _ _ _ h => h) (Or.inl ⟨by rfl, ?_⟩) ?_ ?_
           rotate_left
           ·intro w'
            go_simp
            with_reducible rfl
           rotate_left
           ·simp only [Act.put, List.setIfInBounds_toArray, List.set_cons_zero, List.set_cons_succ, i64_w, i32_w]
            rfl
           refine take_ (i := 0) (N := some 43) (v := ?_) (a' := ?_) #[true, true, true, true, false, false, true, false, false] rfl rfl (take_ofW HT_.out HW_.out (by kernel_rfl)) (fun _ _ _ h => h) (Or.inl ⟨by rfl, ?_⟩) hHeld ?_ ?_
           rotate_left
           ·rintro w' ⟨s0, s1, s2, s3, s4, s5⟩
            go_simp
            with_reducible rfl
           rotate_left
           ·simp only [Act.put, List.setIfInBounds_toArray, List.set_cons_zero, List.set_cons_succ, i64_w, i32_w]
            rfl
           refine take_ (i := 4) (N := some 47) (v := ?_) (a' := ?_) #[true, true, true, true, true, false, true, false, false] rfl rfl (take_ofW HT_.out HW_.out (by kernel_rfl)) (fun _ _ _ h => h) (Or.inl ⟨by rfl, ?_⟩) hHeld ?_ ?_
           rotate_left
           ·rintro w' ⟨s0, s1, s2, s3, s4, s5⟩
            go_simp
            with_reducible rfl
           rotate_left
           ·simp only [Act.put, List.setIfInBounds_toArray, List.set_cons_zero, List.set_cons_succ, i64_w, i32_w]
            rfl
           refine take_ (i := 7) (N := some 50) (v := ?_) (a' := ?_) #[true, true, true, true, true, false, true, true, false] rfl rfl (take_ofW HT_.out HW_.out (by kernel_rfl)) (fun _ _ _ h => h) (Or.inl ⟨by rfl, ?_⟩) hHeld ?_ ?_
           rotate_left
           ·rintro w' ⟨s0, s1, s2, s3, s4, s5⟩
            go_simp
            with_reducible rfl
           rotate_left
           ·simp only [Act.put, List.setIfInBounds_toArray, List.set_cons_zero, List.set_cons_succ, i64_w, i32_w]
            rfl
           refine one_ (i := 5) (N := some 48) #[true, true, true, true, true, true, true, true, false] rfl rfl (one_of HT_.out (by kernel_rfl)) (by decide) (fun K hK => ?_)
           refine goes_ Try.func12 (by kernel_rfl) rfl #[.agg #[.slice Ao13 t363.length co13, .slice Ao15 t366.length co15], .int .i64 (rd t369 x11_3)] (by rfl) rfl rfl ar_ ?_
           with_reducible refine (topiaryref15_Symbol.calls k3 _ _ t363 _ _ t366 (rd t369 x11_3) t374 _ ?side1 ?side2 ?side3 ?side4 A33.out).mono ?_
           (case side1 => repeat (first | exact (Kd.R_reads' HO_361000.out).2.2 | (with_reducible refine Kd.C_alloc ?_ _) | (with_reducible refine Kd.C_drewN ?_ _) | (with_reducible refine Kd.C_drew ?_)))
           (case side2 => exact (Kd.R_reads' HO_361000.out).2.1)
           (case side3 => repeat (first | exact (Kd.R_reads' HO_361001.out).2.2 | (with_reducible refine Kd.C_alloc ?_ _) | (with_reducible refine Kd.C_drewN ?_ _) | (with_reducible refine Kd.C_drew ?_)))
           (case side4 => exact (Kd.R_reads' HO_361001.out).2.1)
           rintro e w38 ⟨rfl, hb⟩
           have HS5_ := (hb.cell (World.block_lt_of_cell? _ _ (hHeld.2.2.2.2.2))).trans (hHeld.2.2.2.2.2)
           refine ⟨_, rfl, ?_⟩
           have n0_ := Aside0.mk (Kd.R_below (rr_ HO_7.out) hb)
           have n1_ := Aside0.mk (Kd.R_below (rr_ HO_361000.out) hb)
           have n2_ := Aside0.mk (Kd.R_below (rr_ HO_361001.out) hb)
           have n3_ := Aside0.mk (blk_below (g := gb360) (o := .cells #[.slice Ao13 t363.length co13, .slice Ao15 t366.length co15] 25 (0, 0)) (bk_ BK360.out) hb)
           have n4_ := Aside0.mk (blk_below (g := gb361) (o := .cells #[.int .i64 a1_0, .int .i64 a1_1, .int .i64 a1_2] 26 (0, 0)) (bk_ BK361.out) hb)
           have n5_ := Aside0.mk (below_step (bt_ HB.out GE360.out GE361.out) hb)
           clear HO_7
           clear HO_361000
           clear HO_361001
           clear BK360
           clear BK361
           clear HB
           have HO_7 := n0_
           have HO_361000 := n1_
           have HO_361001 := n2_
           have BK360 := n3_
           have BK361 := n4_
           have HB := n5_
           clear n0_ n1_ n2_ n3_ n4_ n5_
           (try clear hb)
           (try clear hb2)
           (try clear hk)
           (try clear hi)
           refine hK.out _ _ ⟨(blk_cell BK360.out 0).trans rfl, (blk_cell BK360.out 1).trans rfl, (blk_cell BK361.out 0).trans rfl, (blk_cell BK361.out 1).trans rfl, (blk_cell BK361.out 2).trans rfl, HS5_⟩ (fun hHeld => ?_)
           clear hK K
           refine norm_ (a' := ?_) ?_ ?_
           rotate_left
           ·show Act.put _ (some 48) _ = _
            simp only [Act.put, List.setIfInBounds_toArray, List.set_cons_zero, List.set_cons_succ, i64_w, i32_w]
            rfl
           refine pure_ (i := 8) (N := some 51) (v := ?_) (a' := ?_) #[true, true, true, true, true, true, true, true, true] rfl rfl (any_of HT_.out (by kernel_rfl)) (fun _ _ _ h => h) (Or.inl ⟨by rfl, ?_⟩) ?_ ?_
           rotate_left
           ·intro w'
            go_simp
            with_reducible rfl
           rotate_left
           ·simp only [Act.put, List.setIfInBounds_toArray, List.set_cons_zero, List.set_cons_succ, i64_w, i32_w]
            rfl
           refine done_ (done_of HT_.out (by kernel_rfl)) ?_
           have hnb39 := NB361_360.out
           have hnc39 := NB360_361.out
           have hcz40_0 : w38.cell? ⟨gb361, 0, none⟩ = some (.int .i64 a1_0) := (blk_cell BK361.out 0).trans rfl
           have hcz40_1 : w38.cell? ⟨gb361, 1, none⟩ = some (.int .i64 a1_1) := (blk_cell BK361.out 1).trans rfl
           have hcz40_2 : w38.cell? ⟨gb361, 2, none⟩ = some (.int .i64 a1_2) := (blk_cell BK361.out 2).trans rfl
           have hfz40_0 := blk_frozen BK361.out 0
           have hfz40_1 := blk_frozen BK361.out 1
           have hfz40_2 := blk_frozen BK361.out 2
           have p375 : 0 ≤ (x11_3 : Int) := of_decide_eq_true as_
           have q375 : x11_3 < (t369.length : Int) := of_decide_eq_true as_
           obtain ⟨ad375, e375, hx375_0⟩ := Kd.at_int (Kd.R_reads' HO_7.out).2.2 x11_3 p375 q375
           obtain rfl : ad373 = ad375 := (by injection e375)
           replace p375 := eq_true p375
           replace q375 := eq_true q375
           try go_wp2
           go_roundg k3
           case measure => have := HJ5.out; have := HJ23.out; have := HK3.out; omega
           case rel => exact ⟨(rd t369 x11_3), (wrap64 (x10_3 + 1)), (wrap64 (x11_3 + 1)), sm_, sm_, sm_, H', ⟨by have := HJ5.out; have := HJ23.out; have := HK3.out; omega⟩, ⟨by exact rr_ HO_7.out⟩, ⟨by exact rr_ HO_361000.out⟩, ⟨by exact rr_ HO_361001.out⟩, ⟨by exact bk_ BK360.out⟩, ⟨by exact bk_ BK361.out⟩, ⟨by repeat (first | (with_reducible first | exact HB.out | apply below_alloc | apply pw_below_drewN | apply below_drew1 | refine below_set ?_ GE360.out | refine below_set ?_ GE361.out) | exact HB.out)⟩⟩
          ·rw [if_neg c35] at H
           have c35b0 : (x10_3 == a1_1) = false := beq_eq_false_iff_ne.mpr c35
           have c35b1 : (x10_3 != a1_1) = true := bne_iff_ne.mpr c35
           have H' := Aside0.mk H
           clear H
           obtain ⟨Ao41, co41, eo41⟩ := Kd.R_slice HO_7.out
           subst eo41
           try go_wp2
           have n0_ := Aside0.mk (Kd.R_drew HO_7.out)
           have n1_ := Aside0.mk (Kd.R_drew HO_361000.out)
           have n2_ := Aside0.mk (Kd.R_drew HO_361001.out)
           have n3_ := Aside0.mk (blk_drew BK360.out)
           have n4_ := Aside0.mk (blk_drew BK361.out)
           have n5_ := Aside0.mk (below_drew1 HB.out)
           clear HO_7
           clear HO_361000
           clear HO_361001
           clear BK360
           clear BK361
           clear HB
           have HO_7 := n0_
           have HO_361000 := n1_
           have HO_361001 := n2_
           have BK360 := n3_
           have BK361 := n4_
           have HB := n5_
           clear n0_ n1_ n2_ n3_ n4_ n5_
           have p373 : 0 ≤ (x11_3 : Int) := of_decide_eq_true as_
           have q373 : x11_3 < (t369.length : Int) := of_decide_eq_true as_
           obtain ⟨ad373, e373, hx373_0⟩ := Kd.at_int (Kd.R_reads' HO_7.out).2.2 x11_3 p373 q373
           cases e373
           replace p373 := eq_true p373
           replace q373 := eq_true q373
           refine start_ (n := 9) (S := fun w' => w'.cell? ⟨gb360, 0, none⟩ = some (.slice Ao13 t363.length co13) ∧ w'.cell? ⟨gb360, 1, none⟩ = some (.slice Ao15 t366.length co15) ∧ w'.cell? ⟨gb361, 0, none⟩ = some (.int .i64 a1_0) ∧ w'.cell? ⟨gb361, 1, none⟩ = some (.int .i64 a1_1) ∧ w'.cell? ⟨gb361, 2, none⟩ = some (.int .i64 a1_2) ∧ w'.cell? (ad373.add (x11_3).toNat) = some (.int .i64 (rd t369 x11_3))) (ds := []) #[false, false, false, false, false, false, false, false, false] (by kernel_rfl) rfl rfl ⟨(blk_cell BK360.out 0).trans rfl, (blk_cell BK360.out 1).trans rfl, (blk_cell BK361.out 0).trans rfl, (blk_cell BK361.out 1).trans rfl, (blk_cell BK361.out 2).trans rfl, hx373_0⟩ (fun hHeld => ?_); refine with_tabW topiarylaw15_TreeNodes.tab13 topiarylaw15_TreeNodes.bits13 (fun HT_ HW_ => ?_)
           generalize wr.drew = w42 at HO_7 HO_361000 HO_361001 BK360 BK361 HB hx373_0 hHeld ⊢
           refine pure_ (i := 1) (N := some 44) (v := ?_) (a' := ?_) #[false, true, false, false, false, false, false, false, false] rfl rfl (any_of HT_.out (by kernel_rfl)) (fun _ _ _ h => h) (Or.inl ⟨by rfl, ?_⟩) ?_ ?_
           rotate_left
           ·intro w'
            go_simp
            with_reducible rfl
           rotate_left
           ·simp only [Act.put, List.setIfInBounds_toArray, List.set_cons_zero, List.set_cons_succ, i64_w, i32_w]
            rfl
           refine pure_ (i := 2) (N := some 45) (v := ?_) (a' := ?_) #[false, true, true, false, false, false, false, false, false] rfl rfl (any_of HT_.out (by kernel_rfl)) (fun _ _ _ h => h) (Or.inl ⟨by rfl, ?_⟩) ?_ ?_
           rotate_left
           ·intro w'
            go_simp
            with_reducible rfl
           rotate_left
           ·simp only [Act.put, List.setIfInBounds_toArray, List.set_cons_zero, List.set_cons_succ, i64_w, i32_w]
            rfl
           refine pure_ (i := 3) (N := some 46) (v := ?_) (a' := ?_) #[false, true, true, true, false, false, false, false, false] rfl rfl (any_of HT_.out (by kernel_rfl)) (fun _ _ _ h => h) (Or.inl ⟨by rfl, ?_⟩) ?_ ?_
           rotate_left
           ·intro w'
            go_simp
            with_reducible rfl
           rotate_left
           ·simp only [Act.put, List.setIfInBounds_toArray, List.set_cons_zero, List.set_cons_succ, i64_w, i32_w]
            rfl
           refine pure_ (i := 6) (N := some 49) (v := ?_) (a' := ?_) #[false, true, true, true, false, false, true, false, false] rfl rfl (any_of HT_.out (by kernel_rfl)) (fun _ _ _ h => h) (Or.inl ⟨by rfl, ?_⟩) ?_ ?_
           rotate_left
           ·intro w'
            go_simp
            with_reducible rfl
           rotate_left
           ·simp only [Act.put, List.setIfInBounds_toArray, List.set_cons_zero, List.set_cons_succ, i64_w, i32_w]
            rfl
           refine take_ (i := 0) (N := some 43) (v := ?_) (a' := ?_) #[true, true, true, true, false, false, true, false, false] rfl rfl (take_ofW HT_.out HW_.out (by kernel_rfl)) (fun _ _ _ h => h) (Or.inl ⟨by rfl, ?_⟩) hHeld ?_ ?_
           rotate_left
           ·rintro w' ⟨s0, s1, s2, s3, s4, s5⟩
            go_simp
            with_reducible rfl
           rotate_left
           ·simp only [Act.put, List.setIfInBounds_toArray, List.set_cons_zero, List.set_cons_succ, i64_w, i32_w]
            rfl
           refine take_ (i := 4) (N := some 47) (v := ?_) (a' := ?_) #[true, true, true, true, true, false, true, false, false] rfl rfl (take_ofW HT_.out HW_.out (by kernel_rfl)) (fun _ _ _ h => h) (Or.inl ⟨by rfl, ?_⟩) hHeld ?_ ?_
           rotate_left
           ·rintro w' ⟨s0, s1, s2, s3, s4, s5⟩
            go_simp
            with_reducible rfl
           rotate_left
           ·simp only [Act.put, List.setIfInBounds_toArray, List.set_cons_zero, List.set_cons_succ, i64_w, i32_w]
            rfl
           refine take_ (i := 7) (N := some 50) (v := ?_) (a' := ?_) #[true, true, true, true, true, false, true, true, false] rfl rfl (take_ofW HT_.out HW_.out (by kernel_rfl)) (fun _ _ _ h => h) (Or.inl ⟨by rfl, ?_⟩) hHeld ?_ ?_
           rotate_left
           ·rintro w' ⟨s0, s1, s2, s3, s4, s5⟩
            go_simp
            with_reducible rfl
           rotate_left
           ·simp only [Act.put, List.setIfInBounds_toArray, List.set_cons_zero, List.set_cons_succ, i64_w, i32_w]
            rfl
           refine one_ (i := 5) (N := some 48) #[true, true, true, true, true, true, true, true, false] rfl rfl (one_of HT_.out (by kernel_rfl)) (by decide) (fun K hK => ?_)
           refine goes_ Try.func12 (by kernel_rfl) rfl #[.agg #[.slice Ao13 t363.length co13, .slice Ao15 t366.length co15], .int .i64 (rd t369 x11_3)] (by rfl) rfl rfl ar_ ?_
           with_reducible refine (topiaryref15_Symbol.calls k3 _ _ t363 _ _ t366 (rd t369 x11_3) t374 _ ?side1 ?side2 ?side3 ?side4 A33.out).mono ?_
           (case side1 => repeat (first | exact (Kd.R_reads' HO_361000.out).2.2 | (with_reducible refine Kd.C_alloc ?_ _) | (with_reducible refine Kd.C_drewN ?_ _) | (with_reducible refine Kd.C_drew ?_)))
           (case side2 => exact (Kd.R_reads' HO_361000.out).2.1)
           (case side3 => repeat (first | exact (Kd.R_reads' HO_361001.out).2.2 | (with_reducible refine Kd.C_alloc ?_ _) | (with_reducible refine Kd.C_drewN ?_ _) | (with_reducible refine Kd.C_drew ?_)))
           (case side4 => exact (Kd.R_reads' HO_361001.out).2.1)
           rintro e w43 ⟨rfl, hb⟩
           have HS5_ := (hb.cell (World.block_lt_of_cell? _ _ (hHeld.2.2.2.2.2))).trans (hHeld.2.2.2.2.2)
           refine ⟨_, rfl, ?_⟩
           have n0_ := Aside0.mk (Kd.R_below (rr_ HO_7.out) hb)
           have n1_ := Aside0.mk (Kd.R_below (rr_ HO_361000.out) hb)
           have n2_ := Aside0.mk (Kd.R_below (rr_ HO_361001.out) hb)
           have n3_ := Aside0.mk (blk_below (g := gb360) (o := .cells #[.slice Ao13 t363.length co13, .slice Ao15 t366.length co15] 25 (0, 0)) (bk_ BK360.out) hb)
           have n4_ := Aside0.mk (blk_below (g := gb361) (o := .cells #[.int .i64 a1_0, .int .i64 a1_1, .int .i64 a1_2] 26 (0, 0)) (bk_ BK361.out) hb)
           have n5_ := Aside0.mk (below_step (bt_ HB.out GE360.out GE361.out) hb)
           clear HO_7
           clear HO_361000
           clear HO_361001
           clear BK360
           clear BK361
           clear HB
           have HO_7 := n0_
           have HO_361000 := n1_
           have HO_361001 := n2_
           have BK360 := n3_
           have BK361 := n4_
           have HB := n5_
           clear n0_ n1_ n2_ n3_ n4_ n5_
           (try clear hb)
           (try clear hb2)
           (try clear hk)
           (try clear hi)
           refine hK.out _ _ ⟨(blk_cell BK360.out 0).trans rfl, (blk_cell BK360.out 1).trans rfl, (blk_cell BK361.out 0).trans rfl, (blk_cell BK361.out 1).trans rfl, (blk_cell BK361.out 2).trans rfl, HS5_⟩ (fun hHeld => ?_)
           clear hK K
           refine norm_ (a' := ?_) ?_ ?_
           rotate_left
           ·show Act.put _ (some 48) _ = _
            simp only [Act.put, List.setIfInBounds_toArray, List.set_cons_zero, List.set_cons_succ, i64_w, i32_w]
            rfl
           refine pure_ (i := 8) (N := some 51) (v := ?_) (a' := ?_) #[true, true, true, true, true, true, true, true, true] rfl rfl (any_of HT_.out (by kernel_rfl)) (fun _ _ _ h => h) (Or.inl ⟨by rfl, ?_⟩) ?_ ?_
           rotate_left
           ·intro w'
            go_simp
            with_reducible rfl
           rotate_left
           ·simp only [Act.put, List.setIfInBounds_toArray, List.set_cons_zero, List.set_cons_succ, i64_w, i32_w]
            rfl
           refine done_ (done_of HT_.out (by kernel_rfl)) ?_
           have hnb44 := NB361_360.out
           have hnc44 := NB360_361.out
           have hcz45_0 : w43.cell? ⟨gb361, 0, none⟩ = some (.int .i64 a1_0) := (blk_cell BK361.out 0).trans rfl
           have hcz45_1 : w43.cell? ⟨gb361, 1, none⟩ = some (.int .i64 a1_1) := (blk_cell BK361.out 1).trans rfl
           have hcz45_2 : w43.cell? ⟨gb361, 2, none⟩ = some (.int .i64 a1_2) := (blk_cell BK361.out 2).trans rfl
           have hfz45_0 := blk_frozen BK361.out 0
           have hfz45_1 := blk_frozen BK361.out 1
           have hfz45_2 := blk_frozen BK361.out 2
           try go_wp2
           go_roundg k3
           case measure => have := HJ5.out; have := HJ23.out; have := HK3.out; omega
           case rel => exact ⟨(x9_3), (wrap64 (x10_3 + 1)), (wrap64 (x11_3 + 1)), sm_, sm_, sm_, H', ⟨by have := HJ5.out; have := HJ23.out; have := HK3.out; omega⟩, ⟨by exact rr_ HO_7.out⟩, ⟨by exact rr_ HO_361000.out⟩, ⟨by exact rr_ HO_361001.out⟩, ⟨by exact bk_ BK360.out⟩, ⟨by exact bk_ BK361.out⟩, ⟨by repeat (first | (with_reducible first | exact HB.out | apply below_alloc | apply pw_below_drewN | apply below_drew1 | refine below_set ?_ GE360.out | refine below_set ?_ GE361.out) | exact HB.out)⟩⟩
         ·rw [if_neg c34] at H
          have c34b0 : (t374 == a1_2) = false := beq_eq_false_iff_ne.mpr c34
          have c34b1 : (t374 != a1_2) = true := bne_iff_ne.mpr c34
          have H' := Aside0.mk H
          clear H
          obtain ⟨Ao46, co46, eo46⟩ := Kd.R_slice HO_7.out
          subst eo46
          try go_wp2
          have n0_ := Aside0.mk (Kd.R_drew HO_7.out)
          have n1_ := Aside0.mk (Kd.R_drew HO_361000.out)
          have n2_ := Aside0.mk (Kd.R_drew HO_361001.out)
          have n3_ := Aside0.mk (blk_drew BK360.out)
          have n4_ := Aside0.mk (blk_drew BK361.out)
          have n5_ := Aside0.mk (below_drew1 HB.out)
          clear HO_7
          clear HO_361000
          clear HO_361001
          clear BK360
          clear BK361
          clear HB
          have HO_7 := n0_
          have HO_361000 := n1_
          have HO_361001 := n2_
          have BK360 := n3_
          have BK361 := n4_
          have HB := n5_
          clear n0_ n1_ n2_ n3_ n4_ n5_
          have p373 : 0 ≤ (x11_3 : Int) := of_decide_eq_true as_
          have q373 : x11_3 < (t369.length : Int) := of_decide_eq_true as_
          obtain ⟨ad373, e373, hx373_0⟩ := Kd.at_int (Kd.R_reads' HO_7.out).2.2 x11_3 p373 q373
          cases e373
          replace p373 := eq_true p373
          replace q373 := eq_true q373
          refine start_ (n := 9) (S := fun w' => w'.cell? ⟨gb360, 0, none⟩ = some (.slice Ao13 t363.length co13) ∧ w'.cell? ⟨gb360, 1, none⟩ = some (.slice Ao15 t366.length co15) ∧ w'.cell? ⟨gb361, 0, none⟩ = some (.int .i64 a1_0) ∧ w'.cell? ⟨gb361, 1, none⟩ = some (.int .i64 a1_1) ∧ w'.cell? ⟨gb361, 2, none⟩ = some (.int .i64 a1_2) ∧ w'.cell? (ad373.add (x11_3).toNat) = some (.int .i64 (rd t369 x11_3))) (ds := []) #[false, false, false, false, false, false, false, false, false] (by kernel_rfl) rfl rfl ⟨(blk_cell BK360.out 0).trans rfl, (blk_cell BK360.out 1).trans rfl, (blk_cell BK361.out 0).trans rfl, (blk_cell BK361.out 1).trans rfl, (blk_cell BK361.out 2).trans rfl, hx373_0⟩ (fun hHeld => ?_); refine with_tabW topiarylaw15_TreeNodes.tab13 topiarylaw15_TreeNodes.bits13 (fun HT_ HW_ => ?_)
          generalize wr.drew = w47 at HO_7 HO_361000 HO_361001 BK360 BK361 HB hx373_0 hHeld ⊢
          refine pure_ (i := 1) (N := some 44) (v := ?_) (a' := ?_) #[false, true, false, false, false, false, false, false, false] rfl rfl (any_of HT_.out (by kernel_rfl)) (fun _ _ _ h => h) (Or.inl ⟨by rfl, ?_⟩) ?_ ?_
          rotate_left
          ·intro w'
           go_simp
           with_reducible rfl
          rotate_left
          ·simp only [Act.put, List.setIfInBounds_toArray, List.set_cons_zero, List.set_cons_succ, i64_w, i32_w]
           rfl
          refine pure_ (i := 2) (N := some 45) (v := ?_) (a' := ?_) #[false, true, true, false, false, false, false, false, false] rfl rfl (any_of HT_.out (by kernel_rfl)) (fun _ _ _ h => h) (Or.inl ⟨by rfl, ?_⟩) ?_ ?_
          rotate_left
          ·intro w'
           go_simp
           with_reducible rfl
          rotate_left
          ·simp only [Act.put, List.setIfInBounds_toArray, List.set_cons_zero, List.set_cons_succ, i64_w, i32_w]
           rfl
          refine pure_ (i := 3) (N := some 46) (v := ?_) (a' := ?_) #[false, true, true, true, false, false, false, false, false] rfl rfl (any_of HT_.out (by kernel_rfl)) (fun _ _ _ h => h) (Or.inl ⟨by rfl, ?_⟩) ?_ ?_
          rotate_left
          ·intro w'
           go_simp
           with_reducible rfl
          rotate_left
          ·simp only [Act.put, List.setIfInBounds_toArray, List.set_cons_zero, List.set_cons_succ, i64_w, i32_w]
           rfl
          refine pure_ (i := 6) (N := some 49) (v := ?_) (a' := ?_) #[false, true, true, true, false, false, true, false, false] rfl rfl (any_of HT_.out (by kernel_rfl)) (fun _ _ _ h => h) (Or.inl ⟨by rfl, ?_⟩) ?_ ?_
          rotate_left
          ·intro w'
           go_simp
           with_reducible rfl
          rotate_left
          ·simp only [Act.put, List.setIfInBounds_toArray, List.set_cons_zero, List.set_cons_succ, i64_w, i32_w]
           rfl
          refine take_ (i := 0) (N := some 43) (v := ?_) (a' := ?_) #[true, true, true, true, false, false, true, false, false] rfl rfl (take_ofW HT_.out HW_.out (by kernel_rfl)) (fun _ _ _ h => h) (Or.inl ⟨by rfl, ?_⟩) hHeld ?_ ?_
          rotate_left
          ·rintro w' ⟨s0, s1, s2, s3, s4, s5⟩
           go_simp
           with_reducible rfl
          rotate_left
          ·simp only [Act.put, List.setIfInBounds_toArray, List.set_cons_zero, List.set_cons_succ, i64_w, i32_w]
           rfl
          refine take_ (i := 4) (N := some 47) (v := ?_) (a' := ?_) #[true, true, true, true, true, false, true, false, false] rfl rfl (take_ofW HT_.out HW_.out (by kernel_rfl)) (fun _ _ _ h => h) (Or.inl ⟨by rfl, ?_⟩) hHeld ?_ ?_
          rotate_left
          ·rintro w' ⟨s0, s1, s2, s3, s4, s5⟩
           go_simp
           with_reducible rfl
          rotate_left
          ·simp only [Act.put, List.setIfInBounds_toArray, List.set_cons_zero, List.set_cons_succ, i64_w, i32_w]
           rfl
          refine take_ (i := 7) (N := some 50) (v := ?_) (a' := ?_) #[true, true, true, true, true, false, true, true, false] rfl rfl (take_ofW HT_.out HW_.out (by kernel_rfl)) (fun _ _ _ h => h) (Or.inl ⟨by rfl, ?_⟩) hHeld ?_ ?_
          rotate_left
          ·rintro w' ⟨s0, s1, s2, s3, s4, s5⟩
           go_simp
           with_reducible rfl
          rotate_left
          ·simp only [Act.put, List.setIfInBounds_toArray, List.set_cons_zero, List.set_cons_succ, i64_w, i32_w]
           rfl
          refine one_ (i := 5) (N := some 48) #[true, true, true, true, true, true, true, true, false] rfl rfl (one_of HT_.out (by kernel_rfl)) (by decide) (fun K hK => ?_)
          refine goes_ Try.func12 (by kernel_rfl) rfl #[.agg #[.slice Ao13 t363.length co13, .slice Ao15 t366.length co15], .int .i64 (rd t369 x11_3)] (by rfl) rfl rfl ar_ ?_
          with_reducible refine (topiaryref15_Symbol.calls k3 _ _ t363 _ _ t366 (rd t369 x11_3) t374 _ ?side1 ?side2 ?side3 ?side4 A33.out).mono ?_
          (case side1 => repeat (first | exact (Kd.R_reads' HO_361000.out).2.2 | (with_reducible refine Kd.C_alloc ?_ _) | (with_reducible refine Kd.C_drewN ?_ _) | (with_reducible refine Kd.C_drew ?_)))
          (case side2 => exact (Kd.R_reads' HO_361000.out).2.1)
          (case side3 => repeat (first | exact (Kd.R_reads' HO_361001.out).2.2 | (with_reducible refine Kd.C_alloc ?_ _) | (with_reducible refine Kd.C_drewN ?_ _) | (with_reducible refine Kd.C_drew ?_)))
          (case side4 => exact (Kd.R_reads' HO_361001.out).2.1)
          rintro e w48 ⟨rfl, hb⟩
          have HS5_ := (hb.cell (World.block_lt_of_cell? _ _ (hHeld.2.2.2.2.2))).trans (hHeld.2.2.2.2.2)
          refine ⟨_, rfl, ?_⟩
          have n0_ := Aside0.mk (Kd.R_below (rr_ HO_7.out) hb)
          have n1_ := Aside0.mk (Kd.R_below (rr_ HO_361000.out) hb)
          have n2_ := Aside0.mk (Kd.R_below (rr_ HO_361001.out) hb)
          have n3_ := Aside0.mk (blk_below (g := gb360) (o := .cells #[.slice Ao13 t363.length co13, .slice Ao15 t366.length co15] 25 (0, 0)) (bk_ BK360.out) hb)
          have n4_ := Aside0.mk (blk_below (g := gb361) (o := .cells #[.int .i64 a1_0, .int .i64 a1_1, .int .i64 a1_2] 26 (0, 0)) (bk_ BK361.out) hb)
          have n5_ := Aside0.mk (below_step (bt_ HB.out GE360.out GE361.out) hb)
          clear HO_7
          clear HO_361000
          clear HO_361001
          clear BK360
          clear BK361
          clear HB
          have HO_7 := n0_
          have HO_361000 := n1_
          have HO_361001 := n2_
          have BK360 := n3_
          have BK361 := n4_
          have HB := n5_
          clear n0_ n1_ n2_ n3_ n4_ n5_
          (try clear hb)
          (try clear hb2)
          (try clear hk)
          (try clear hi)
          refine hK.out _ _ ⟨(blk_cell BK360.out 0).trans rfl, (blk_cell BK360.out 1).trans rfl, (blk_cell BK361.out 0).trans rfl, (blk_cell BK361.out 1).trans rfl, (blk_cell BK361.out 2).trans rfl, HS5_⟩ (fun hHeld => ?_)
          clear hK K
          refine norm_ (a' := ?_) ?_ ?_
          rotate_left
          ·show Act.put _ (some 48) _ = _
           simp only [Act.put, List.setIfInBounds_toArray, List.set_cons_zero, List.set_cons_succ, i64_w, i32_w]
           rfl
          refine pure_ (i := 8) (N := some 51) (v := ?_) (a' := ?_) #[true, true, true, true, true, true, true, true, true] rfl rfl (any_of HT_.out (by kernel_rfl)) (fun _ _ _ h => h) (Or.inl ⟨by rfl, ?_⟩) ?_ ?_
          rotate_left
          ·intro w'
           go_simp
           with_reducible rfl
          rotate_left
          ·simp only [Act.put, List.setIfInBounds_toArray, List.set_cons_zero, List.set_cons_succ, i64_w, i32_w]
           rfl
          refine done_ (done_of HT_.out (by kernel_rfl)) ?_
          try go_wp2
          go_roundg k3
          case measure => have := HJ5.out; have := HJ23.out; have := HK3.out; omega
          case rel => exact ⟨(x9_3), (x10_3), (wrap64 (x11_3 + 1)), sm_, sm_, sm_, H', ⟨by have := HJ5.out; have := HJ23.out; have := HK3.out; omega⟩, ⟨by exact rr_ HO_7.out⟩, ⟨by exact rr_ HO_361000.out⟩, ⟨by exact rr_ HO_361001.out⟩, ⟨by exact bk_ BK360.out⟩, ⟨by exact bk_ BK361.out⟩, ⟨by repeat (first | (with_reducible first | exact HB.out | apply below_alloc | apply pw_below_drewN | apply below_drew1 | refine below_set ?_ GE360.out | refine below_set ?_ GE361.out) | exact HB.out)⟩⟩
        ·rw [if_neg c32] at H
         exact absurd H (by simp)
       ·rw [if_neg c31] at H
        have c31b0 : decide (x11_3 < (t369.length : Int)) = false := decide_eq_false c31
        clear c31
        replace H := Option.bind_eq_some_iff.mp H
        obtain ⟨t376, A490, H⟩ := H
        replace H : ((topiaryref02_Same.f k3 t376 t369).bind fun t379 => (if a1_0 ≥ 0 then (if a1_0 < (t366.length : Int) then (topiarylaw15_TreeNodes.j3 k3 t362 a1_0 t369 x8_23 x9_3 t379 ((t369.length : Int) == 0) t363 t366 a1_0 a1_1 a1_2) else (topiarylaw15_TreeNodes.j3 k3 t362 a1_0 t369 x8_23 x9_3 t379 false t363 t366 a1_0 a1_1 a1_2)) else (topiarylaw15_TreeNodes.j3 k3 t362 a1_0 t369 x8_23 x9_3 t379 false t363 t366 a1_0 a1_1 a1_2))) = some r := H
        have A49 := Aside0.mk A490
        clear A490
        replace H := Option.bind_eq_some_iff.mp H
        obtain ⟨t379, A500, H⟩ := H
        replace H : (if a1_0 ≥ 0 then (if a1_0 < (t366.length : Int) then (topiarylaw15_TreeNodes.j3 k3 t362 a1_0 t369 x8_23 x9_3 t379 ((t369.length : Int) == 0) t363 t366 a1_0 a1_1 a1_2) else (topiarylaw15_TreeNodes.j3 k3 t362 a1_0 t369 x8_23 x9_3 t379 false t363 t366 a1_0 a1_1 a1_2)) else (topiarylaw15_TreeNodes.j3 k3 t362 a1_0 t369 x8_23 x9_3 t379 false t363 t366 a1_0 a1_1 a1_2)) = some r := H
        have A50 := Aside0.mk A500
        clear A500
        have HC51 := Aside0.mk H
        clear H
        obtain ⟨Ao52, co52, eo52⟩ := Kd.R_slice HO_7.out
        subst eo52
        have hnb53 := NB360_361.out
        have hnc53 := NB361_360.out
        have hcz54_0 : wr.cell? ⟨gb360, 0, none⟩ = some (.slice Ao13 t363.length co13) := (blk_cell BK360.out 0).trans rfl
        have hcz54_1 : wr.cell? ⟨gb360, 1, none⟩ = some (.slice Ao15 t366.length co15) := (blk_cell BK360.out 1).trans rfl
        have hfz54_0 := blk_frozen BK360.out 0
        have hfz54_1 := blk_frozen BK360.out 1
        go_upto_region 18 with (first | ((with_reducible refine gate_callee (f := 14) rfl ?_); refine goesL_ (some 64) rfl rfl Try.func14 (by kernel_rfl) rfl #[.agg #[.slice Ao13 t363.length co13, .slice Ao15 t366.length co15], .int .i64 a1_0] rfl ar_ ?_; (with_reducible refine (tree_Children.calls _ _ t363 _ _ t366 a1_0 t376 _ ?side1 ?side2 ?side3 ?side4 A49.out).mono ?_); (case side1 => repeat (first | exact (Kd.R_reads' HO_361000.out).2.2 | (with_reducible refine Kd.C_alloc ?_ _) | (with_reducible refine Kd.C_drewN ?_ _) | (with_reducible refine Kd.C_drew ?_))); (case side2 => exact (Kd.R_reads' HO_361000.out).2.1); (case side3 => repeat (first | exact (Kd.R_reads' HO_361001.out).2.2 | (with_reducible refine Kd.C_alloc ?_ _) | (with_reducible refine Kd.C_drewN ?_ _) | (with_reducible refine Kd.C_drew ?_))); (case side4 => exact (Kd.R_reads' HO_361001.out).2.1); rintro e w55 ⟨v377, rfl, ho0, hb⟩; refine ⟨_, rfl, ?_⟩; have n0_ := Aside0.mk (Kd.R_elder' (rr_ HO_7.out) (Kd.R_base ho0) hb); have n1_ := Aside0.mk (Kd.R_below (rr_ HO_361000.out) hb); have n2_ := Aside0.mk (Kd.R_below (rr_ HO_361001.out) hb); have n3_ := Aside0.mk (Kd.R_lower (Kd.R_new' ho0 (Kd.R_lt (rr_ HO_7.out))) (below_size (bt_ HB.out GE360.out GE361.out))); have n4_ := Aside0.mk (blk_below (g := gb360) (o := .cells #[.slice Ao13 t363.length co13, .slice Ao15 t366.length co15] 25 (0, 0)) (bk_ BK360.out) hb); have n5_ := Aside0.mk (blk_below (g := gb361) (o := .cells #[.int .i64 a1_0, .int .i64 a1_1, .int .i64 a1_2] 26 (0, 0)) (bk_ BK361.out) hb); have n6_ := Aside0.mk (below_step (bt_ HB.out GE360.out GE361.out) hb); clear HO_7; clear HO_361000; clear HO_361001; clear BK360; clear BK361; clear HB; have HO_7 := n0_; have HO_361000 := n1_; have HO_361001 := n2_; have HO378 := n3_; have BK360 := n4_; have BK361 := n5_; have HB := n6_; clear n0_ n1_ n2_ n3_ n4_ n5_ n6_; (try clear hb); (try clear hb2); (try clear hk); (try clear hi); (try clear ho0); obtain ⟨Ao56, co56, eo56⟩ := Kd.R_slice HO378.out; subst eo56) | ((with_reducible refine gate_callee (f := 13) rfl ?_); refine goesL_ (some 66) rfl rfl Try.func13 (by kernel_rfl) rfl #[.slice Ao56 t376.length co56, .slice Ao52 t369.length co52] rfl ar_ ?_; (with_reducible refine (topiaryref02_Same.calls k3 _ _ t376 _ _ t369 t379 _ ?side1 ?side2 ?side3 ?side4 A50.out).mono ?_); (case side1 => repeat (first | exact (Kd.R_reads' HO378.out).2.2 | (with_reducible refine Kd.C_alloc ?_ _) | (with_reducible refine Kd.C_drewN ?_ _) | (with_reducible refine Kd.C_drew ?_))); (case side2 => exact (Kd.R_reads' HO378.out).2.1); (case side3 => repeat (first | exact (Kd.R_reads' HO_7.out).2.2 | (with_reducible refine Kd.C_alloc ?_ _) | (with_reducible refine Kd.C_drewN ?_ _) | (with_reducible refine Kd.C_drew ?_))); (case side4 => exact (Kd.R_reads' HO_7.out).2.1); rintro e w' ⟨rfl, ⟨nd, rfl⟩⟩; refine ⟨_, rfl, ?_⟩))
        (try simp only [Act.put, List.setIfInBounds_toArray, List.set_cons_zero, List.set_cons_succ])
        go_cut [13] (fun v13 wc => ∃ (kq : Nat) (x13_50 : Bool), v13 = .bool x13_50 ∧ Aside0 (topiarylaw15_TreeNodes.j3 kq t362 a1_0 t369 x8_23 x9_3 t379 x13_50 t363 t366 a1_0 a1_1 a1_2 = some r) ∧ Aside0 (kq ≤ k3) ∧ Aside0 (Kd.R (Kd.int .i64) 3 wc w.heap.size (fun _ => True) (.slice Ao52 t369.length co52) t369) ∧ Aside0 (Kd.R Kd.string 9 wc w.heap.size (fun _ => True) (.slice Ao13 t363.length co13) t363) ∧ Aside0 (Kd.R k52 52 wc w.heap.size (fun _ => True) (.slice Ao15 t366.length co15) t366) ∧ Aside0 (wc.heap[gb360]? = some (.cells #[(.slice Ao13 t363.length co13), (.slice Ao15 t366.length co15)] 25 (0, 0))) ∧ Aside0 (wc.heap[gb361]? = some (.cells #[.int .i64 a1_0, .int .i64 a1_1, .int .i64 a1_2] 26 (0, 0))) ∧ Aside0 (Below w.heap.size w wc))
        case first =>
         have H := HC51.out
         clear HC51
         by_cases c57 : a1_0 ≥ 0
         ·rw [if_pos c57] at H
          have c57b0 : decide (0 ≤ a1_0) = true := decide_eq_true c57
          clear c57
          (first | rw [c57b0] | (simp only [i64_w, i32_w]; rw [c57b0]) | skip)
          by_cases c58 : a1_0 < (t366.length : Int)
          ·rw [if_pos c58] at H
           have c58b0 : decide (a1_0 < (t366.length : Int)) = true := decide_eq_true c58
           clear c58
           have H' := Aside0.mk H
           clear H
           have hnb59 := NB360_361.out
           have hnc59 := NB361_360.out
           have hcz60_0 : w55.cell? ⟨gb360, 0, none⟩ = some (.slice Ao13 t363.length co13) := (blk_cell BK360.out 0).trans rfl
           have hcz60_1 : w55.cell? ⟨gb360, 1, none⟩ = some (.slice Ao15 t366.length co15) := (blk_cell BK360.out 1).trans rfl
           have hfz60_0 := blk_frozen BK360.out 0
           have hfz60_1 := blk_frozen BK360.out 1
           go_wp2
           go_meet
           case rel => exact ⟨_, (((t369.length : Int) == 0)), sm_, H', ⟨by have := HJ5.out; have := HJ23.out; have := HK3.out; first | omega | exact Nat.le_refl _⟩, ⟨by (with_reducible repeat (first | apply Kd.R_alloc | apply Kd.R_drewN | apply Kd.R_drew)); exact Kd.R_mono HO_7.out (fun _ hk => trivial)⟩, ⟨by exact rr_ HO_361000.out⟩, ⟨by exact rr_ HO_361001.out⟩, ⟨by exact bk_ BK360.out⟩, ⟨by exact bk_ BK361.out⟩, ⟨by repeat (first | (with_reducible first | exact HB.out | apply below_alloc | apply pw_below_drewN | apply below_drew1 | refine below_set ?_ GE360.out | refine below_set ?_ GE361.out) | exact HB.out)⟩⟩
          ·rw [if_neg c58] at H
           have c58b0 : decide (a1_0 < (t366.length : Int)) = false := decide_eq_false c58
           clear c58
           have H' := Aside0.mk H
           clear H
           have hnb61 := NB360_361.out
           have hnc61 := NB361_360.out
           have hcz62_0 : w55.cell? ⟨gb360, 0, none⟩ = some (.slice Ao13 t363.length co13) := (blk_cell BK360.out 0).trans rfl
           have hcz62_1 : w55.cell? ⟨gb360, 1, none⟩ = some (.slice Ao15 t366.length co15) := (blk_cell BK360.out 1).trans rfl
           have hfz62_0 := blk_frozen BK360.out 0
           have hfz62_1 := blk_frozen BK360.out 1
           go_wp2
           go_meet
           case rel => exact ⟨_, (false), sm_, H', ⟨by have := HJ5.out; have := HJ23.out; have := HK3.out; first | omega | exact Nat.le_refl _⟩, ⟨by (with_reducible repeat (first | apply Kd.R_alloc | apply Kd.R_drewN | apply Kd.R_drew)); exact Kd.R_mono HO_7.out (fun _ hk => trivial)⟩, ⟨by exact rr_ HO_361000.out⟩, ⟨by exact rr_ HO_361001.out⟩, ⟨by exact bk_ BK360.out⟩, ⟨by exact bk_ BK361.out⟩, ⟨by repeat (first | (with_reducible first | exact HB.out | apply below_alloc | apply pw_below_drewN | apply below_drew1 | refine below_set ?_ GE360.out | refine below_set ?_ GE361.out) | exact HB.out)⟩⟩
         ·rw [if_neg c57] at H
          have c57b0 : decide (0 ≤ a1_0) = false := decide_eq_false c57
          clear c57
          (first | rw [c57b0] | (simp only [i64_w, i32_w]; rw [c57b0]) | skip)
          have H' := Aside0.mk H
          clear H
          go_wp2
          go_meet
          case rel => exact ⟨_, (false), sm_, H', ⟨by have := HJ5.out; have := HJ23.out; have := HK3.out; first | omega | exact Nat.le_refl _⟩, ⟨by (with_reducible repeat (first | apply Kd.R_alloc | apply Kd.R_drewN | apply Kd.R_drew)); exact Kd.R_mono HO_7.out (fun _ hk => trivial)⟩, ⟨by exact rr_ HO_361000.out⟩, ⟨by exact rr_ HO_361001.out⟩, ⟨by exact bk_ BK360.out⟩, ⟨by exact bk_ BK361.out⟩, ⟨by repeat (first | (with_reducible first | exact HB.out | apply below_alloc | apply pw_below_drewN | apply below_drew1 | refine below_set ?_ GE360.out | refine below_set ?_ GE361.out) | exact HB.out)⟩⟩
        case rest =>
         clear HC51
         try clear c1
         try clear c2
         try clear p2
         try clear c3
         try clear p3
         try clear q3
         try clear hx3
         try clear c4
         try clear c5
         try clear c6
         try clear p6
         try clear c12
         try clear c13
         try clear c14
         try clear c26
         try clear c26b0
         try clear c27
         try clear c27b0
         try clear c28
         try clear c31
         try clear c31b0
         try clear c32
         try clear c32b0
         try clear c34
         try clear c34b0
         try clear c34b1
         try clear c35
         try clear c35b0
         try clear c35b1
         try clear p37
         try clear q37
         try clear hx37
         try clear c39
         try clear c44
         try clear c53
         try clear c57
         try clear c57b0
         try clear c58
         try clear c58b0
         try clear c59
         try clear c61
         try clear hcz11_0
         try clear hcz11_1
         try clear hcz14_0
         try clear hcz14_1
         try clear hcz16_0
         try clear hcz16_1
         try clear hcz16_2
         try clear hcz20_0
         try clear hcz20_1
         try clear hcz20_2
         try clear hcz23_0
         try clear hcz23_1
         try clear hcz23_2
         try clear hcz29_0
         try clear hcz29_1
         try clear hcz29_2
         try clear hcz40_0
         try clear hcz40_1
         try clear hcz40_2
         try clear hcz45_0
         try clear hcz45_1
         try clear hcz45_2
         try clear hcz54_0
         try clear hcz54_1
         try clear hcz60_0
         try clear hcz60_1
         try clear hcz62_0
         try clear hcz62_1
         try clear hfz11_0
         try clear hfz11_1
         try clear hfz14_0
         try clear hfz14_1
         try clear hfz16_0
         try clear hfz16_1
         try clear hfz16_2
         try clear hfz20_0
         try clear hfz20_1
         try clear hfz20_2
         try clear hfz23_0
         try clear hfz23_1
         try clear hfz23_2
         try clear hfz29_0
         try clear hfz29_1
         try clear hfz29_2
         try clear hfz40_0
         try clear hfz40_1
         try clear hfz40_2
         try clear hfz45_0
         try clear hfz45_1
         try clear hfz45_2
         try clear hfz54_0
         try clear hfz54_1
         try clear hfz60_0
         try clear hfz60_1
         try clear hfz62_0
         try clear hfz62_1
         try clear hx372_0
         try clear hx373_0
         try clear hx375_0
         try clear p2
         try clear p3
         try clear p372
         try clear p373
         try clear p375
         try clear q3
         try clear q372
         try clear q373
         try clear q375
         obtain ⟨kq, x13_50, rfl, HA, HJ50, HO_7, HO_361000, HO_361001, BK360, BK361, HB⟩ := hcut
         cases kq with
         | zero => exact absurd HA.out (by simp [topiarylaw15_TreeNodes.j3])
         | succ kj50 =>
          have H := HA.out
          clear HA
          simp only [topiarylaw15_TreeNodes.j3] at H
          by_cases c63 : t362 = true
          ·subst c63
           have H1 : (if t379 = true then ((tree_Symbols.f t363 t366).bind fun t380 => (if t380 = (wrap64 ((wrap64 (2 * (t363.length : Int))) + 1)) then ((tree_Symbol.f kj50 t363 t366 a1_0).bind fun t381 => ((topiaryref15_Symbol.f kj50 t363 t366 a1_0).bind fun t382 => (if t381 = t382 then ((tree_Parent.f kj50 t363 t366 a1_0).bind fun t383 => ((topiaryref15_Parent.f t363 t366 a1_0).bind fun t384 => (if t383 = t384 then ((tree_Degree.f t363 t366 a1_0).bind fun t385 => (if t385 = (t369.length : Int) then ((tree_Child.f t363 t366 a1_0 a1_1).bind fun t386 => (if t386 = x8_23 then ((tree_Labelled.f kj50 t363 t366 a1_0 a1_2 a1_1).bind fun t387 => (if t387 = x9_3 then ((tree_Leaf.f t363 t366 a1_0).bind fun t388 => (some (t388 == x13_50))) else (some false))) else (some false))) else (some false))) else (some false)))) else (some false)))) else (some false))) else (some false)) = some r := by rw [if_pos rfl] at H; exact H
           clear H
           have H := H1
           clear H1
           by_cases c64 : t379 = true
           ·subst c64
            have H1 : ((tree_Symbols.f t363 t366).bind fun t380 => (if t380 = (wrap64 ((wrap64 (2 * (t363.length : Int))) + 1)) then ((tree_Symbol.f kj50 t363 t366 a1_0).bind fun t381 => ((topiaryref15_Symbol.f kj50 t363 t366 a1_0).bind fun t382 => (if t381 = t382 then ((tree_Parent.f kj50 t363 t366 a1_0).bind fun t383 => ((topiaryref15_Parent.f t363 t366 a1_0).bind fun t384 => (if t383 = t384 then ((tree_Degree.f t363 t366 a1_0).bind fun t385 => (if t385 = (t369.length : Int) then ((tree_Child.f t363 t366 a1_0 a1_1).bind fun t386 => (if t386 = x8_23 then ((tree_Labelled.f kj50 t363 t366 a1_0 a1_2 a1_1).bind fun t387 => (if t387 = x9_3 then ((tree_Leaf.f t363 t366 a1_0).bind fun t388 => (some (t388 == x13_50))) else (some false))) else (some false))) else (some false))) else (some false)))) else (some false)))) else (some false))) = some r := by rw [if_pos rfl] at H; exact H
            clear H
            have H := H1
            clear H1
            replace H := Option.bind_eq_some_iff.mp H
            obtain ⟨t380, A650, H⟩ := H
            replace H : (if t380 = (wrap64 ((wrap64 (2 * (t363.length : Int))) + 1)) then ((tree_Symbol.f kj50 t363 t366 a1_0).bind fun t381 => ((topiaryref15_Symbol.f kj50 t363 t366 a1_0).bind fun t382 => (if t381 = t382 then ((tree_Parent.f kj50 t363 t366 a1_0).bind fun t383 => ((topiaryref15_Parent.f t363 t366 a1_0).bind fun t384 => (if t383 = t384 then ((tree_Degree.f t363 t366 a1_0).bind fun t385 => (if t385 = (t369.length : Int) then ((tree_Child.f t363 t366 a1_0 a1_1).bind fun t386 => (if t386 = x8_23 then ((tree_Labelled.f kj50 t363 t366 a1_0 a1_2 a1_1).bind fun t387 => (if t387 = x9_3 then ((tree_Leaf.f t363 t366 a1_0).bind fun t388 => (some (t388 == x13_50))) else (some false))) else (some false))) else (some false))) else (some false)))) else (some false)))) else (some false)) = some r := H
            have A65 := Aside0.mk A650
            clear A650
            by_cases c66 : t380 = (wrap64 ((wrap64 (2 * (t363.length : Int))) + 1))
            ·rw [if_pos c66] at H
             have c66b0 : (t380 == (wrap64 ((wrap64 (2 * (t363.length : Int))) + 1))) = true := beq_iff_eq.mpr c66
             have c66b1 : (t380 != (wrap64 ((wrap64 (2 * (t363.length : Int))) + 1))) = false := bne_eq_false_iff_eq.mpr c66
             clear c66
             replace H := Option.bind_eq_some_iff.mp H
             obtain ⟨t381, A670, H⟩ := H
             replace H : ((topiaryref15_Symbol.f kj50 t363 t366 a1_0).bind fun t382 => (if t381 = t382 then ((tree_Parent.f kj50 t363 t366 a1_0).bind fun t383 => ((topiaryref15_Parent.f t363 t366 a1_0).bind fun t384 => (if t383 = t384 then ((tree_Degree.f t363 t366 a1_0).bind fun t385 => (if t385 = (t369.length : Int) then ((tree_Child.f t363 t366 a1_0 a1_1).bind fun t386 => (if t386 = x8_23 then ((tree_Labelled.f kj50 t363 t366 a1_0 a1_2 a1_1).bind fun t387 => (if t387 = x9_3 then ((tree_Leaf.f t363 t366 a1_0).bind fun t388 => (some (t388 == x13_50))) else (some false))) else (some false))) else (some false))) else (some false)))) else (some false))) = some r := H
             have A67 := Aside0.mk A670
             clear A670
             replace H := Option.bind_eq_some_iff.mp H
             obtain ⟨t382, A680, H⟩ := H
             replace H : (if t381 = t382 then ((tree_Parent.f kj50 t363 t366 a1_0).bind fun t383 => ((topiaryref15_Parent.f t363 t366 a1_0).bind fun t384 => (if t383 = t384 then ((tree_Degree.f t363 t366 a1_0).bind fun t385 => (if t385 = (t369.length : Int) then ((tree_Child.f t363 t366 a1_0 a1_1).bind fun t386 => (if t386 = x8_23 then ((tree_Labelled.f kj50 t363 t366 a1_0 a1_2 a1_1).bind fun t387 => (if t387 = x9_3 then ((tree_Leaf.f t363 t366 a1_0).bind fun t388 => (some (t388 == x13_50))) else (some false))) else (some false))) else (some false))) else (some false)))) else (some false)) = some r := H
             have A68 := Aside0.mk A680
             clear A680
             by_cases c69 : t381 = t382
             ·rw [if_pos c69] at H
              have c69b0 : (t381 == t382) = true := beq_iff_eq.mpr c69
              have c69b1 : (t381 != t382) = false := bne_eq_false_iff_eq.mpr c69
              clear c69
              replace H := Option.bind_eq_some_iff.mp H
              obtain ⟨t383, A700, H⟩ := H
              replace H : ((topiaryref15_Parent.f t363 t366 a1_0).bind fun t384 => (if t383 = t384 then ((tree_Degree.f t363 t366 a1_0).bind fun t385 => (if t385 = (t369.length : Int) then ((tree_Child.f t363 t366 a1_0 a1_1).bind fun t386 => (if t386 = x8_23 then ((tree_Labelled.f kj50 t363 t366 a1_0 a1_2 a1_1).bind fun t387 => (if t387 = x9_3 then ((tree_Leaf.f t363 t366 a1_0).bind fun t388 => (some (t388 == x13_50))) else (some false))) else (some false))) else (some false))) else (some false))) = some r := H
              have A70 := Aside0.mk A700
              clear A700
              replace H := Option.bind_eq_some_iff.mp H
              obtain ⟨t384, A710, H⟩ := H
              replace H : (if t383 = t384 then ((tree_Degree.f t363 t366 a1_0).bind fun t385 => (if t385 = (t369.length : Int) then ((tree_Child.f t363 t366 a1_0 a1_1).bind fun t386 => (if t386 = x8_23 then ((tree_Labelled.f kj50 t363 t366 a1_0 a1_2 a1_1).bind fun t387 => (if t387 = x9_3 then ((tree_Leaf.f t363 t366 a1_0).bind fun t388 => (some (t388 == x13_50))) else (some false))) else (some false))) else (some false))) else (some false)) = some r := H
              have A71 := Aside0.mk A710
              clear A710
              by_cases c72 : t383 = t384
              ·rw [if_pos c72] at H
               have c72b0 : (t383 == t384) = true := beq_iff_eq.mpr c72
               have c72b1 : (t383 != t384) = false := bne_eq_false_iff_eq.mpr c72
               clear c72
               replace H := Option.bind_eq_some_iff.mp H
               obtain ⟨t385, A730, H⟩ := H
               replace H : (if t385 = (t369.length : Int) then ((tree_Child.f t363 t366 a1_0 a1_1).bind fun t386 => (if t386 = x8_23 then ((tree_Labelled.f kj50 t363 t366 a1_0 a1_2 a1_1).bind fun t387 => (if t387 = x9_3 then ((tree_Leaf.f t363 t366 a1_0).bind fun t388 => (some (t388 == x13_50))) else (some false))) else (some false))) else (some false)) = some r := H
               have A73 := Aside0.mk A730
               clear A730
               by_cases c74 : t385 = (t369.length : Int)
               ·rw [if_pos c74] at H
                have c74b0 : (t385 == (t369.length : Int)) = true := beq_iff_eq.mpr c74
                have c74b1 : (t385 != (t369.length : Int)) = false := bne_eq_false_iff_eq.mpr c74
                clear c74
                replace H := Option.bind_eq_some_iff.mp H
                obtain ⟨t386, A750, H⟩ := H
                replace H : (if t386 = x8_23 then ((tree_Labelled.f kj50 t363 t366 a1_0 a1_2 a1_1).bind fun t387 => (if t387 = x9_3 then ((tree_Leaf.f t363 t366 a1_0).bind fun t388 => (some (t388 == x13_50))) else (some false))) else (some false)) = some r := H
                have A75 := Aside0.mk A750
                clear A750
                by_cases c76 : t386 = x8_23
                ·rw [if_pos c76] at H
                 have c76b0 : (t386 == x8_23) = true := beq_iff_eq.mpr c76
                 have c76b1 : (t386 != x8_23) = false := bne_eq_false_iff_eq.mpr c76
                 clear c76
                 replace H := Option.bind_eq_some_iff.mp H
                 obtain ⟨t387, A770, H⟩ := H
                 replace H : (if t387 = x9_3 then ((tree_Leaf.f t363 t366 a1_0).bind fun t388 => (some (t388 == x13_50))) else (some false)) = some r := H
                 have A77 := Aside0.mk A770
                 clear A770
                 by_cases c78 : t387 = x9_3
                 ·rw [if_pos c78] at H
                  have c78b0 : (t387 == x9_3) = true := beq_iff_eq.mpr c78
                  have c78b1 : (t387 != x9_3) = false := bne_eq_false_iff_eq.mpr c78
                  clear c78
                  replace H := Option.bind_eq_some_iff.mp H
                  obtain ⟨t388, A790, H⟩ := H
                  replace H : (some (t388 == x13_50)) = some r := H
                  have A79 := Aside0.mk A790
                  clear A790
                  obtain rfl := Option.some.inj H
                  try go_wp2
                  have n0_ := Aside0.mk (Kd.R_drew HO_7.out)
                  have n1_ := Aside0.mk (Kd.R_drew HO_361000.out)
                  have n2_ := Aside0.mk (Kd.R_drew HO_361001.out)
                  have n3_ := Aside0.mk (blk_drew BK360.out)
                  have n4_ := Aside0.mk (blk_drew BK361.out)
                  have n5_ := Aside0.mk (below_drew1 HB.out)
                  clear HO_7
                  clear HO_361000
                  clear HO_361001
                  clear BK360
                  clear BK361
                  clear HB
                  have HO_7 := n0_
                  have HO_361000 := n1_
                  have HO_361001 := n2_
                  have BK360 := n3_
                  have BK361 := n4_
                  have HB := n5_
                  clear n0_ n1_ n2_ n3_ n4_ n5_
                  refine start_ (n := 68) (S := fun w' => w'.cell? ⟨gb360, 0, none⟩ = some (.slice Ao13 t363.length co13) ∧ w'.cell? ⟨gb360, 1, none⟩ = some (.slice Ao15 t366.length co15) ∧ w'.cell? ⟨gb361, 0, none⟩ = some (.int .i64 a1_0) ∧ w'.cell? ⟨gb361, 1, none⟩ = some (.int .i64 a1_1) ∧ w'.cell? ⟨gb361, 2, none⟩ = some (.int .i64 a1_2)) (ds := []) #[false, false, false, false, false, false, false, false, false, false, false, false, false, false, false, false, false, false, false, false, false, false, false, false, false, false, false, false, false, false, false, false, false, false, false, false, false, false, false, false, false, false, false, false, false, false, false, false, false, false, false, false, false, false, false, false, false, false, false, false, false, false, false, false, false, false, false, false] (by kernel_rfl) rfl rfl ⟨(blk_cell BK360.out 0).trans rfl, (blk_cell BK360.out 1).trans rfl, (blk_cell BK361.out 0).trans rfl, (blk_cell BK361.out 1).trans rfl, (blk_cell BK361.out 2).trans rfl⟩ (fun hHeld => ?_); refine with_tabW topiarylaw15_TreeNodes.tab19 topiarylaw15_TreeNodes.bits19 (fun HT_ HW_ => ?_)
                  generalize wc.drew = w80 at HO_7 HO_361000 HO_361001 BK360 BK361 HB hHeld ⊢
                  refine pure_ (i := 0) (N := some 81) (v := ?_) (a' := ?_) #[true, false, false, false, false, false, false, false, false, false, false, false, false, false, false, false, false, false, false, false, false, false, false, false, false, false, false, false, false, false, false, false, false, false, false, false, false, false, false, false, false, false, false, false, false, false, false, false, false, false, false, false, false, false, false, false, false, false, false, false, false, false, false, false, false, false, false, false] rfl rfl (any_of HT_.out (by kernel_rfl)) (fun _ _ _ h => h) (Or.inl ⟨by rfl, ?_⟩) ?_ ?_
                  rotate_left
                  ·intro w'
                   go_simp
                   with_reducible rfl
                  rotate_left
                  ·simp only [Act.put, List.setIfInBounds_toArray, List.set_cons_zero, List.set_cons_succ, i64_w, i32_w]
                   rfl
                  refine pure_ (i := 1) (N := some 82) (v := ?_) (a' := ?_) #[true, true, false, false, false, false, false, false, false, false, false, false, false, false, false, false, false, false, false, false, false, false, false, false, false, false, false, false, false, false, false, false, false, false, false, false, false, false, false, false, false, false, false, false, false, false, false, false, false, false, false, false, false, false, false, false, false, false, false, false, false, false, false, false, false, false, false, false] rfl rfl (any_of HT_.out (by kernel_rfl)) (fun _ _ _ h => h) (Or.inl ⟨by rfl, ?_⟩) ?_ ?_
                  rotate_left
                  ·intro w'
                   go_simp
                   with_reducible rfl
                  rotate_left
                  ·simp only [Act.put, List.setIfInBounds_toArray, List.set_cons_zero, List.set_cons_succ, i64_w, i32_w]
                   rfl
                  refine pure_ (i := 2) (N := some 83) (v := ?_) (a' := ?_) #[true, true, true, false, false, false, false, false, false, false, false, false, false, false, false, false, false, false, false, false, false, false, false, false, false, false, false, false, false, false, false, false, false, false, false, false, false, false, false, false, false, false, false, false, false, false, false, false, false, false, false, false, false, false, false, false, false, false, false, false, false, false, false, false, false, false, false, false] rfl rfl (any_of HT_.out (by kernel_rfl)) (fun _ _ _ h => h) (Or.inl ⟨by rfl, ?_⟩) ?_ ?_
                  rotate_left
                  ·intro w'
                   go_simp
                   with_reducible rfl
                  rotate_left
                  ·simp only [Act.put, List.setIfInBounds_toArray, List.set_cons_zero, List.set_cons_succ, i64_w, i32_w]
                   rfl
                  refine pure_ (i := 3) (N := some 84) (v := ?_) (a' := ?_) #[true, true, true, true, false, false, false, false, false, false, false, false, false, false, false, false, false, false, false, false, false, false, false, false, false, false, false, false, false, false, false, false, false, false, false, false, false, false, false, false, false, false, false, false, false, false, false, false, false, false, false, false, false, false, false, false, false, false, false, false, false, false, false, false, false, false, false, false] rfl rfl (any_of HT_.out (by kernel_rfl)) (fun _ _ _ h => h) (Or.inl ⟨by rfl, ?_⟩) ?_ ?_
                  rotate_left
                  ·intro w'
                   go_simp
                   with_reducible rfl
                  rotate_left
                  ·simp only [Act.put, List.setIfInBounds_toArray, List.set_cons_zero, List.set_cons_succ, i64_w, i32_w]
                   rfl
                  refine pure_ (i := 4) (N := some 85) (v := ?_) (a' := ?_) #[true, true, true, true, true, false, false, false, false, false, false, false, false, false, false, false, false, false, false, false, false, false, false, false, false, false, false, false, false, false, false, false, false, false, false, false, false, false, false, false, false, false, false, false, false, false, false, false, false, false, false, false, false, false, false, false, false, false, false, false, false, false, false, false, false, false, false, false] rfl rfl (any_of HT_.out (by kernel_rfl)) (fun _ _ _ h => h) (Or.inl ⟨by rfl, ?_⟩) ?_ ?_
                  rotate_left
                  ·intro w'
                   go_simp
                   with_reducible rfl
                  rotate_left
                  ·simp only [Act.put, List.setIfInBounds_toArray, List.set_cons_zero, List.set_cons_succ, i64_w, i32_w]
                   rfl
                  refine pure_ (i := 7) (N := some 88) (v := ?_) (a' := ?_) #[true, true, true, true, true, false, false, true, false, false, false, false, false, false, false, false, false, false, false, false, false, false, false, false, false, false, false, false, false, false, false, false, false, false, false, false, false, false, false, false, false, false, false, false, false, false, false, false, false, false, false, false, false, false, false, false, false, false, false, false, false, false, false, false, false, false, false, false] rfl rfl (any_of HT_.out (by kernel_rfl)) (fun _ _ _ h => h) (Or.inl ⟨by rfl, ?_⟩) ?_ ?_
                  rotate_left
                  ·intro w'
                   go_simp
                   with_reducible rfl
                  rotate_left
                  ·simp only [Act.put, List.setIfInBounds_toArray, List.set_cons_zero, List.set_cons_succ, i64_w, i32_w]
                   rfl
                  refine take_ (i := 5) (N := some 86) (v := ?_) (a' := ?_) #[true, true, true, true, true, true, false, true, false, false, false, false, false, false, false, false, false, false, false, false, false, false, false, false, false, false, false, false, false, false, false, false, false, false, false, false, false, false, false, false, false, false, false, false, false, false, false, false, false, false, false, false, false, false, false, false, false, false, false, false, false, false, false, false, false, false, false, false] rfl rfl (take_ofW HT_.out HW_.out (by kernel_rfl)) (fun _ _ _ h => h) (Or.inl ⟨by rfl, ?_⟩) hHeld ?_ ?_
                  rotate_left
                  ·rintro w' ⟨s0, s1, s2, s3, s4⟩
                   go_simp
                   with_reducible rfl
                  rotate_left
                  ·simp only [Act.put, List.setIfInBounds_toArray, List.set_cons_zero, List.set_cons_succ, i64_w, i32_w]
                   rfl
                  refine take_ (i := 8) (N := some 89) (v := ?_) (a' := ?_) #[true, true, true, true, true, true, false, true, true, false, false, false, false, false, false, false, false, false, false, false, false, false, false, false, false, false, false, false, false, false, false, false, false, false, false, false, false, false, false, false, false, false, false, false, false, false, false, false, false, false, false, false, false, false, false, false, false, false, false, false, false, false, false, false, false, false, false, false] rfl rfl (take_ofW HT_.out HW_.out (by kernel_rfl)) (fun _ _ _ h => h) (Or.inl ⟨by rfl, ?_⟩) hHeld ?_ ?_
                  rotate_left
                  ·rintro w' ⟨s0, s1, s2, s3, s4⟩
                   go_simp
                   with_reducible rfl
                  rotate_left
                  ·simp only [Act.put, List.setIfInBounds_toArray, List.set_cons_zero, List.set_cons_succ, i64_w, i32_w]
                   rfl
                  refine pure_ (i := 9) (N := some 90) (v := ?_) (a' := ?_) #[true, true, true, true, true, true, false, true, true, true, false, false, false, false, false, false, false, false, false, false, false, false, false, false, false, false, false, false, false, false, false, false, false, false, false, false, false, false, false, false, false, false, false, false, false, false, false, false, false, false, false, false, false, false, false, false, false, false, false, false, false, false, false, false, false, false, false, false] rfl rfl (any_of HT_.out (by kernel_rfl)) (fun _ _ _ h => h) (Or.inl ⟨by rfl, ?_⟩) ?_ ?_
                  rotate_left
                  ·intro w'
                   go_simp
                   with_reducible rfl
                  rotate_left
                  ·simp only [Act.put, List.setIfInBounds_toArray, List.set_cons_zero, List.set_cons_succ, i64_w, i32_w]
                   rfl
                  refine pure_ (i := 10) (N := some 91) (v := ?_) (a' := ?_) #[true, true, true, true, true, true, false, true, true, true, true, false, false, false, false, false, false, false, false, false, false, false, false, false, false, false, false, false, false, false, false, false, false, false, false, false, false, false, false, false, false, false, false, false, false, false, false, false, false, false, false, false, false, false, false, false, false, false, false, false, false, false, false, false, false, false, false, false] rfl rfl (any_of HT_.out (by kernel_rfl)) (fun _ _ _ h => h) (Or.inl ⟨by rfl, ?_⟩) ?_ ?_
                  rotate_left
                  ·intro w'
                   go_simp
                   with_reducible rfl
                  rotate_left
                  ·simp only [Act.put, List.setIfInBounds_toArray, List.set_cons_zero, List.set_cons_succ, i64_w, i32_w]
                   rfl
                  refine pure_ (i := 11) (N := some 92) (v := ?_) (a' := ?_) #[true, true, true, true, true, true, false, true, true, true, true, true, false, false, false, false, false, false, false, false, false, false, false, false, false, false, false, false, false, false, false, false, false, false, false, false, false, false, false, false, false, false, false, false, false, false, false, false, false, false, false, false, false, false, false, false, false, false, false, false, false, false, false, false, false, false, false, false] rfl rfl (any_of HT_.out (by kernel_rfl)) (fun _ _ _ h => h) (Or.inl ⟨by rfl, ?_⟩) ?_ ?_
                  rotate_left
                  ·intro w'
                   go_simp
                   with_reducible rfl
                  rotate_left
                  ·simp only [Act.put, List.setIfInBounds_toArray, List.set_cons_zero, List.set_cons_succ, i64_w, i32_w]
                   rfl
                  refine one_ (i := 6) (N := some 87) #[true, true, true, true, true, true, true, true, true, true, true, true, false, false, false, false, false, false, false, false, false, false, false, false, false, false, false, false, false, false, false, false, false, false, false, false, false, false, false, false, false, false, false, false, false, false, false, false, false, false, false, false, false, false, false, false, false, false, false, false, false, false, false, false, false, false, false, false] rfl rfl (one_of HT_.out (by kernel_rfl)) (by decide) (fun K hK => ?_)
                  refine goes_ Try.func15 (by kernel_rfl) rfl #[.agg #[.slice Ao13 t363.length co13, .slice Ao15 t366.length co15]] (by rfl) rfl rfl ar_ ?_
                  with_reducible refine (tree_Symbols.calls _ _ t363 _ _ t366 t380 _ ?side1 ?side2 ?side3 ?side4 A65.out).mono ?_
                  (case side1 => repeat (first | exact (Kd.R_reads' HO_361000.out).2.2 | (with_reducible refine Kd.C_alloc ?_ _) | (with_reducible refine Kd.C_drewN ?_ _) | (with_reducible refine Kd.C_drew ?_)))
                  (case side2 => exact (Kd.R_reads' HO_361000.out).2.1)
                  (case side3 => repeat (first | exact (Kd.R_reads' HO_361001.out).2.2 | (with_reducible refine Kd.C_alloc ?_ _) | (with_reducible refine Kd.C_drewN ?_ _) | (with_reducible refine Kd.C_drew ?_)))
                  (case side4 => exact (Kd.R_reads' HO_361001.out).2.1)
                  rintro e w81 ⟨rfl, hb⟩
                  refine ⟨_, rfl, ?_⟩
                  have n0_ := Aside0.mk (Kd.R_below (rr_ HO_7.out) hb)
                  have n1_ := Aside0.mk (Kd.R_below (rr_ HO_361000.out) hb)
                  have n2_ := Aside0.mk (Kd.R_below (rr_ HO_361001.out) hb)
                  have n3_ := Aside0.mk (blk_below (g := gb360) (o := .cells #[.slice Ao13 t363.length co13, .slice Ao15 t366.length co15] 25 (0, 0)) (bk_ BK360.out) hb)
                  have n4_ := Aside0.mk (blk_below (g := gb361) (o := .cells #[.int .i64 a1_0, .int .i64 a1_1, .int .i64 a1_2] 26 (0, 0)) (bk_ BK361.out) hb)
                  have n5_ := Aside0.mk (below_step (bt_ HB.out GE360.out GE361.out) hb)
                  clear HO_7
                  clear HO_361000
                  clear HO_361001
                  clear BK360
                  clear BK361
                  clear HB
                  have HO_7 := n0_
                  have HO_361000 := n1_
                  have HO_361001 := n2_
                  have BK360 := n3_
                  have BK361 := n4_
                  have HB := n5_
                  clear n0_ n1_ n2_ n3_ n4_ n5_
                  (try clear hb)
                  (try clear hb2)
                  (try clear hk)
                  (try clear hi)
                  refine hK.out _ _ ⟨(blk_cell BK360.out 0).trans rfl, (blk_cell BK360.out 1).trans rfl, (blk_cell BK361.out 0).trans rfl, (blk_cell BK361.out 1).trans rfl, (blk_cell BK361.out 2).trans rfl⟩ (fun hHeld => ?_)
                  clear hK K
                  refine norm_ (a' := ?_) ?_ ?_
                  rotate_left
                  ·show Act.put _ (some 87) _ = _
                   simp only [Act.put, List.setIfInBounds_toArray, List.set_cons_zero, List.set_cons_succ, i64_w, i32_w]
                   rfl
                  refine pure_ (i := 12) (N := some 93) (v := ?_) (a' := ?_) #[true, true, true, true, true, true, true, true, true, true, true, true, true, false, false, false, false, false, false, false, false, false, false, false, false, false, false, false, false, false, false, false, false, false, false, false, false, false, false, false, false, false, false, false, false, false, false, false, false, false, false, false, false, false, false, false, false, false, false, false, false, false, false, false, false, false, false, false] rfl rfl (any_of HT_.out (by kernel_rfl)) (fun _ _ _ h => h) (Or.inl ⟨by rfl, ?_⟩) ?_ ?_
                  rotate_left
                  ·intro w'
                   go_simp
                   with_reducible rfl
                  rotate_left
                  ·simp only [Act.put, List.setIfInBounds_toArray, List.set_cons_zero, List.set_cons_succ, i64_w, i32_w]
                   rfl
                  refine pure_ (i := 13) (N := some 94) (v := ?_) (a' := ?_) #[true, true, true, true, true, true, true, true, true, true, true, true, true, true, false, false, false, false, false, false, false, false, false, false, false, false, false, false, false, false, false, false, false, false, false, false, false, false, false, false, false, false, false, false, false, false, false, false, false, false, false, false, false, false, false, false, false, false, false, false, false, false, false, false, false, false, false, false] rfl rfl (any_of HT_.out (by kernel_rfl)) (fun _ _ _ h => h) (Or.inl ⟨by rfl, ?_⟩) ?_ ?_
                  rotate_left
                  ·intro w'
                   go_simp
                   with_reducible rfl
                  rotate_left
                  ·simp only [Act.put, List.setIfInBounds_toArray, List.set_cons_zero, List.set_cons_succ, i64_w, i32_w]
                   rfl
                  refine pure_ (i := 14) (N := some 95) (v := ?_) (a' := ?_) #[true, true, true, true, true, true, true, true, true, true, true, true, true, true, true, false, false, false, false, false, false, false, false, false, false, false, false, false, false, false, false, false, false, false, false, false, false, false, false, false, false, false, false, false, false, false, false, false, false, false, false, false, false, false, false, false, false, false, false, false, false, false, false, false, false, false, false, false] rfl rfl (any_of HT_.out (by kernel_rfl)) (fun _ _ _ h => h) (Or.inl ⟨by rfl, ?_⟩) ?_ ?_
                  rotate_left
                  ·intro w'
                   go_simp
                   with_reducible rfl
                  rotate_left
                  ·simp only [Act.put, List.setIfInBounds_toArray, List.set_cons_zero, List.set_cons_succ, i64_w, i32_w]
                   rfl
                  refine pure_ (i := 16) (N := some 97) (v := ?_) (a' := ?_) #[true, true, true, true, true, true, true, true, true, true, true, true, true, true, true, false, true, false, false, false, false, false, false, false, false, false, false, false, false, false, false, false, false, false, false, false, false, false, false, false, false, false, false, false, false, false, false, false, false, false, false, false, false, false, false, false, false, false, false, false, false, false, false, false, false, false, false, false] rfl rfl (any_of HT_.out (by kernel_rfl)) (fun _ _ _ h => h) (Or.inl ⟨by rfl, ?_⟩) ?_ ?_
                  rotate_left
                  ·intro w'
                   go_simp
                   with_reducible rfl
                  rotate_left
                  ·simp only [Act.put, List.setIfInBounds_toArray, List.set_cons_zero, List.set_cons_succ, i64_w, i32_w]
                   rfl
                  refine pure_ (i := 19) (N := some 100) (v := ?_) (a' := ?_) #[true, true, true, true, true, true, true, true, true, true, true, true, true, true, true, false, true, false, false, true, false, false, false, false, false, false, false, false, false, false, false, false, false, false, false, false, false, false, false, false, false, false, false, false, false, false, false, false, false, false, false, false, false, false, false, false, false, false, false, false, false, false, false, false, false, false, false, false] rfl rfl (any_of HT_.out (by kernel_rfl)) (fun _ _ _ h => h) (Or.inl ⟨by rfl, ?_⟩) ?_ ?_
                  rotate_left
                  ·intro w'
                   go_simp
                   with_reducible rfl
                  rotate_left
                  ·simp only [Act.put, List.setIfInBounds_toArray, List.set_cons_zero, List.set_cons_succ, i64_w, i32_w]
                   rfl
                  refine take_ (i := 15) (N := some 96) (v := ?_) (a' := ?_) #[true, true, true, true, true, true, true, true, true, true, true, true, true, true, true, true, true, false, false, true, false, false, false, false, false, false, false, false, false, false, false, false, false, false, false, false, false, false, false, false, false, false, false, false, false, false, false, false, false, false, false, false, false, false, false, false, false, false, false, false, false, false, false, false, false, false, false, false] rfl rfl (take_ofW HT_.out HW_.out (by kernel_rfl)) (fun _ _ _ h => h) (Or.inl ⟨by rfl, ?_⟩) hHeld ?_ ?_
                  rotate_left
                  ·rintro w' ⟨s0, s1, s2, s3, s4⟩
                   go_simp
                   with_reducible rfl
                  rotate_left
                  ·simp only [Act.put, List.setIfInBounds_toArray, List.set_cons_zero, List.set_cons_succ, i64_w, i32_w]
                   rfl
                  refine take_ (i := 18) (N := some 99) (v := ?_) (a' := ?_) #[true, true, true, true, true, true, true, true, true, true, true, true, true, true, true, true, true, false, true, true, false, false, false, false, false, false, false, false, false, false, false, false, false, false, false, false, false, false, false, false, false, false, false, false, false, false, false, false, false, false, false, false, false, false, false, false, false, false, false, false, false, false, false, false, false, false, false, false] rfl rfl (take_ofW HT_.out HW_.out (by kernel_rfl)) (fun _ _ _ h => h) (Or.inl ⟨by rfl, ?_⟩) hHeld ?_ ?_
                  rotate_left
                  ·rintro w' ⟨s0, s1, s2, s3, s4⟩
                   go_simp
                   with_reducible rfl
                  rotate_left
                  ·simp only [Act.put, List.setIfInBounds_toArray, List.set_cons_zero, List.set_cons_succ, i64_w, i32_w]
                   rfl
                  refine one_ (i := 17) (N := some 98) #[true, true, true, true, true, true, true, true, true, true, true, true, true, true, true, true, true, true, true, true, false, false, false, false, false, false, false, false, false, false, false, false, false, false, false, false, false, false, false, false, false, false, false, false, false, false, false, false, false, false, false, false, false, false, false, false, false, false, false, false, false, false, false, false, false, false, false, false] rfl rfl (one_of HT_.out (by kernel_rfl)) (by decide) (fun K hK => ?_)
                  refine goes_ Try.func16 (by kernel_rfl) rfl #[.agg #[.slice Ao13 t363.length co13, .slice Ao15 t366.length co15], .int .i64 a1_0] (by rfl) rfl rfl ar_ ?_
                  with_reducible refine (tree_Symbol.calls kj50 _ _ t363 _ _ t366 a1_0 t381 _ ?side1 ?side2 ?side3 ?side4 A67.out).mono ?_
                  (case side1 => repeat (first | exact (Kd.R_reads' HO_361000.out).2.2 | (with_reducible refine Kd.C_alloc ?_ _) | (with_reducible refine Kd.C_drewN ?_ _) | (with_reducible refine Kd.C_drew ?_)))
                  (case side2 => exact (Kd.R_reads' HO_361000.out).2.1)
                  (case side3 => repeat (first | exact (Kd.R_reads' HO_361001.out).2.2 | (with_reducible refine Kd.C_alloc ?_ _) | (with_reducible refine Kd.C_drewN ?_ _) | (with_reducible refine Kd.C_drew ?_)))
                  (case side4 => exact (Kd.R_reads' HO_361001.out).2.1)
                  rintro e w82 ⟨rfl, hb⟩
                  refine ⟨_, rfl, ?_⟩
                  have n0_ := Aside0.mk (Kd.R_below (rr_ HO_7.out) hb)
                  have n1_ := Aside0.mk (Kd.R_below (rr_ HO_361000.out) hb)
                  have n2_ := Aside0.mk (Kd.R_below (rr_ HO_361001.out) hb)
                  have n3_ := Aside0.mk (blk_below (g := gb360) (o := .cells #[.slice Ao13 t363.length co13, .slice Ao15 t366.length co15] 25 (0, 0)) (bk_ BK360.out) hb)
                  have n4_ := Aside0.mk (blk_below (g := gb361) (o := .cells #[.int .i64 a1_0, .int .i64 a1_1, .int .i64 a1_2] 26 (0, 0)) (bk_ BK361.out) hb)
                  have n5_ := Aside0.mk (below_step (bt_ HB.out GE360.out GE361.out) hb)
                  clear HO_7
                  clear HO_361000
                  clear HO_361001
                  clear BK360
                  clear BK361
                  clear HB
                  have HO_7 := n0_
                  have HO_361000 := n1_
                  have HO_361001 := n2_
                  have BK360 := n3_
                  have BK361 := n4_
                  have HB := n5_
                  clear n0_ n1_ n2_ n3_ n4_ n5_
                  (try clear hb)
                  (try clear hb2)
                  (try clear hk)
                  (try clear hi)
                  refine hK.out _ _ ⟨(blk_cell BK360.out 0).trans rfl, (blk_cell BK360.out 1).trans rfl, (blk_cell BK361.out 0).trans rfl, (blk_cell BK361.out 1).trans rfl, (blk_cell BK361.out 2).trans rfl⟩ (fun hHeld => ?_)
                  clear hK K
                  refine norm_ (a' := ?_) ?_ ?_
                  rotate_left
                  ·show Act.put _ (some 98) _ = _
                   simp only [Act.put, List.setIfInBounds_toArray, List.set_cons_zero, List.set_cons_succ, i64_w, i32_w]
                   rfl
                  refine one_ (i := 20) (N := some 101) #[true, true, true, true, true, true, true, true, true, true, true, true, true, true, true, true, true, true, true, true, true, false, false, false, false, false, false, false, false, false, false, false, false, false, false, false, false, false, false, false, false, false, false, false, false, false, false, false, false, false, false, false, false, false, false, false, false, false, false, false, false, false, false, false, false, false, false, false] rfl rfl (one_of HT_.out (by kernel_rfl)) (by decide) (fun K hK => ?_)
                  refine goes_ Try.func12 (by kernel_rfl) rfl #[.agg #[.slice Ao13 t363.length co13, .slice Ao15 t366.length co15], .int .i64 a1_0] (by rfl) rfl rfl ar_ ?_
                  with_reducible refine (topiaryref15_Symbol.calls kj50 _ _ t363 _ _ t366 a1_0 t382 _ ?side1 ?side2 ?side3 ?side4 A68.out).mono ?_
                  (case side1 => repeat (first | exact (Kd.R_reads' HO_361000.out).2.2 | (with_reducible refine Kd.C_alloc ?_ _) | (with_reducible refine Kd.C_drewN ?_ _) | (with_reducible refine Kd.C_drew ?_)))
                  (case side2 => exact (Kd.R_reads' HO_361000.out).2.1)
                  (case side3 => repeat (first | exact (Kd.R_reads' HO_361001.out).2.2 | (with_reducible refine Kd.C_alloc ?_ _) | (with_reducible refine Kd.C_drewN ?_ _) | (with_reducible refine Kd.C_drew ?_)))
                  (case side4 => exact (Kd.R_reads' HO_361001.out).2.1)
                  rintro e w83 ⟨rfl, hb⟩
                  refine ⟨_, rfl, ?_⟩
                  have n0_ := Aside0.mk (Kd.R_below (rr_ HO_7.out) hb)
                  have n1_ := Aside0.mk (Kd.R_below (rr_ HO_361000.out) hb)
                  have n2_ := Aside0.mk (Kd.R_below (rr_ HO_361001.out) hb)
                  have n3_ := Aside0.mk (blk_below (g := gb360) (o := .cells #[.slice Ao13 t363.length co13, .slice Ao15 t366.length co15] 25 (0, 0)) (bk_ BK360.out) hb)
                  have n4_ := Aside0.mk (blk_below (g := gb361) (o := .cells #[.int .i64 a1_0, .int .i64 a1_1, .int .i64 a1_2] 26 (0, 0)) (bk_ BK361.out) hb)
                  have n5_ := Aside0.mk (below_step (bt_ HB.out GE360.out GE361.out) hb)
                  clear HO_7
                  clear HO_361000
                  clear HO_361001
                  clear BK360
                  clear BK361
                  clear HB
                  have HO_7 := n0_
                  have HO_361000 := n1_
                  have HO_361001 := n2_
                  have BK360 := n3_
                  have BK361 := n4_
                  have HB := n5_
                  clear n0_ n1_ n2_ n3_ n4_ n5_
                  (try clear hb)
                  (try clear hb2)
                  (try clear hk)
                  (try clear hi)
                  refine hK.out _ _ ⟨(blk_cell BK360.out 0).trans rfl, (blk_cell BK360.out 1).trans rfl, (blk_cell BK361.out 0).trans rfl, (blk_cell BK361.out 1).trans rfl, (blk_cell BK361.out 2).trans rfl⟩ (fun hHeld => ?_)
                  clear hK K
                  refine norm_ (a' := ?_) ?_ ?_
                  rotate_left
                  ·show Act.put _ (some 101) _ = _
                   simp only [Act.put, List.setIfInBounds_toArray, List.set_cons_zero, List.set_cons_succ, i64_w, i32_w]
                   rfl
                  refine pure_ (i := 21) (N := some 102) (v := ?_) (a' := ?_) #[true, true, true, true, true, true, true, true, true, true, true, true, true, true, true, true, true, true, true, true, true, true, false, false, false, false, false, false, false, false, false, false, false, false, false, false, false, false, false, false, false, false, false, false, false, false, false, false, false, false, false, false, false, false, false, false, false, false, false, false, false, false, false, false, false, false, false, false] rfl rfl (any_of HT_.out (by kernel_rfl)) (fun _ _ _ h => h) (Or.inl ⟨by rfl, ?_⟩) ?_ ?_
                  rotate_left
                  ·intro w'
                   go_simp
                   with_reducible rfl
                  rotate_left
                  ·simp only [Act.put, List.setIfInBounds_toArray, List.set_cons_zero, List.set_cons_succ, i64_w, i32_w]
                   rfl
                  refine pure_ (i := 22) (N := some 103) (v := ?_) (a' := ?_) #[true, true, true, true, true, true, true, true, true, true, true, true, true, true, true, true, true, true, true, true, true, true, true, false, false, false, false, false, false, false, false, false, false, false, false, false, false, false, false, false, false, false, false, false, false, false, false, false, false, false, false, false, false, false, false, false, false, false, false, false, false, false, false, false, false, false, false, false] rfl rfl (any_of HT_.out (by kernel_rfl)) (fun _ _ _ h => h) (Or.inl ⟨by rfl, ?_⟩) ?_ ?_
                  rotate_left
                  ·intro w'
                   go_simp
                   with_reducible rfl
                  rotate_left
                  ·simp only [Act.put, List.setIfInBounds_toArray, List.set_cons_zero, List.set_cons_succ, i64_w, i32_w]
                   rfl
                  refine pure_ (i := 23) (N := some 104) (v := ?_) (a' := ?_) #[true, true, true, true, true, true, true, true, true, true, true, true, true, true, true, true, true, true, true, true, true, true, true, true, false, false, false, false, false, false, false, false, false, false, false, false, false, false, false, false, false, false, false, false, false, false, false, false, false, false, false, false, false, false, false, false, false, false, false, false, false, false, false, false, false, false, false, false] rfl rfl (any_of HT_.out (by kernel_rfl)) (fun _ _ _ h => h) (Or.inl ⟨by rfl, ?_⟩) ?_ ?_
                  rotate_left
                  ·intro w'
                   go_simp
                   with_reducible rfl
                  rotate_left
                  ·simp only [Act.put, List.setIfInBounds_toArray, List.set_cons_zero, List.set_cons_succ, i64_w, i32_w]
                   rfl
                  refine pure_ (i := 25) (N := some 106) (v := ?_) (a' := ?_) #[true, true, true, true, true, true, true, true, true, true, true, true, true, true, true, true, true, true, true, true, true, true, true, true, false, true, false, false, false, false, false, false, false, false, false, false, false, false, false, false, false, false, false, false, false, false, false, false, false, false, false, false, false, false, false, false, false, false, false, false, false, false, false, false, false, false, false, false] rfl rfl (any_of HT_.out (by kernel_rfl)) (fun _ _ _ h => h) (Or.inl ⟨by rfl, ?_⟩) ?_ ?_
                  rotate_left
                  ·intro w'
                   go_simp
                   with_reducible rfl
                  rotate_left
                  ·simp only [Act.put, List.setIfInBounds_toArray, List.set_cons_zero, List.set_cons_succ, i64_w, i32_w]
                   rfl
                  refine pure_ (i := 28) (N := some 109) (v := ?_) (a' := ?_) #[true, true, true, true, true, true, true, true, true, true, true, true, true, true, true, true, true, true, true, true, true, true, true, true, false, true, false, false, true, false, false, false, false, false, false, false, false, false, false, false, false, false, false, false, false, false, false, false, false, false, false, false, false, false, false, false, false, false, false, false, false, false, false, false, false, false, false, false] rfl rfl (any_of HT_.out (by kernel_rfl)) (fun _ _ _ h => h) (Or.inl ⟨by rfl, ?_⟩) ?_ ?_
                  rotate_left
                  ·intro w'
                   go_simp
                   with_reducible rfl
                  rotate_left
                  ·simp only [Act.put, List.setIfInBounds_toArray, List.set_cons_zero, List.set_cons_succ, i64_w, i32_w]
                   rfl
                  refine take_ (i := 24) (N := some 105) (v := ?_) (a' := ?_) #[true, true, true, true, true, true, true, true, true, true, true, true, true, true, true, true, true, true, true, true, true, true, true, true, true, true, false, false, true, false, false, false, false, false, false, false, false, false, false, false, false, false, false, false, false, false, false, false, false, false, false, false, false, false, false, false, false, false, false, false, false, false, false, false, false, false, false, false] rfl rfl (take_ofW HT_.out HW_.out (by kernel_rfl)) (fun _ _ _ h => h) (Or.inl ⟨by rfl, ?_⟩) hHeld ?_ ?_
                  rotate_left
                  ·rintro w' ⟨s0, s1, s2, s3, s4⟩
                   go_simp
                   with_reducible rfl
                  rotate_left
                  ·simp only [Act.put, List.setIfInBounds_toArray, List.set_cons_zero, List.set_cons_succ, i64_w, i32_w]
                   rfl
                  refine take_ (i := 27) (N := some 108) (v := ?_) (a' := ?_) #[true, true, true, true, true, true, true, true, true, true, true, true, true, true, true, true, true, true, true, true, true, true, true, true, true, true, false, true, true, false, false, false, false, false, false, false, false, false, false, false, false, false, false, false, false, false, false, false, false, false, false, false, false, false, false, false, false, false, false, false, false, false, false, false, false, false, false, false] rfl rfl (take_ofW HT_.out HW_.out (by kernel_rfl)) (fun _ _ _ h => h) (Or.inl ⟨by rfl, ?_⟩) hHeld ?_ ?_
                  rotate_left
                  ·rintro w' ⟨s0, s1, s2, s3, s4⟩
                   go_simp
                   with_reducible rfl
                  rotate_left
                  ·simp only [Act.put, List.setIfInBounds_toArray, List.set_cons_zero, List.set_cons_succ, i64_w, i32_w]
                   rfl
                  refine one_ (i := 26) (N := some 107) #[true, true, true, true, true, true, true, true, true, true, true, true, true, true, true, true, true, true, true, true, true, true, true, true, true, true, true, true, true, false, false, false, false, false, false, false, false, false, false, false, false, false, false, false, false, false, false, false, false, false, false, false, false, false, false, false, false, false, false, false, false, false, false, false, false, false, false, false] rfl rfl (one_of HT_.out (by kernel_rfl)) (by decide) (fun K hK => ?_)
                  refine goes_ Try.func17 (by kernel_rfl) rfl #[.agg #[.slice Ao13 t363.length co13, .slice Ao15 t366.length co15], .int .i64 a1_0] (by rfl) rfl rfl ar_ ?_
                  with_reducible refine (tree_Parent.calls kj50 _ _ t363 _ _ t366 a1_0 t383 _ ?side1 ?side2 ?side3 ?side4 A70.out).mono ?_
                  (case side1 => repeat (first | exact (Kd.R_reads' HO_361000.out).2.2 | (with_reducible refine Kd.C_alloc ?_ _) | (with_reducible refine Kd.C_drewN ?_ _) | (with_reducible refine Kd.C_drew ?_)))
                  (case side2 => exact (Kd.R_reads' HO_361000.out).2.1)
                  (case side3 => repeat (first | exact (Kd.R_reads' HO_361001.out).2.2 | (with_reducible refine Kd.C_alloc ?_ _) | (with_reducible refine Kd.C_drewN ?_ _) | (with_reducible refine Kd.C_drew ?_)))
                  (case side4 => exact (Kd.R_reads' HO_361001.out).2.1)
                  rintro e w84 ⟨rfl, hb⟩
                  refine ⟨_, rfl, ?_⟩
                  have n0_ := Aside0.mk (Kd.R_below (rr_ HO_7.out) hb)
                  have n1_ := Aside0.mk (Kd.R_below (rr_ HO_361000.out) hb)
                  have n2_ := Aside0.mk (Kd.R_below (rr_ HO_361001.out) hb)
                  have n3_ := Aside0.mk (blk_below (g := gb360) (o := .cells #[.slice Ao13 t363.length co13, .slice Ao15 t366.length co15] 25 (0, 0)) (bk_ BK360.out) hb)
                  have n4_ := Aside0.mk (blk_below (g := gb361) (o := .cells #[.int .i64 a1_0, .int .i64 a1_1, .int .i64 a1_2] 26 (0, 0)) (bk_ BK361.out) hb)
                  have n5_ := Aside0.mk (below_step (bt_ HB.out GE360.out GE361.out) hb)
                  clear HO_7
                  clear HO_361000
                  clear HO_361001
                  clear BK360
                  clear BK361
                  clear HB
                  have HO_7 := n0_
                  have HO_361000 := n1_
                  have HO_361001 := n2_
                  have BK360 := n3_
                  have BK361 := n4_
                  have HB := n5_
                  clear n0_ n1_ n2_ n3_ n4_ n5_
                  (try clear hb)
                  (try clear hb2)
                  (try clear hk)
                  (try clear hi)
                  refine hK.out _ _ ⟨(blk_cell BK360.out 0).trans rfl, (blk_cell BK360.out 1).trans rfl, (blk_cell BK361.out 0).trans rfl, (blk_cell BK361.out 1).trans rfl, (blk_cell BK361.out 2).trans rfl⟩ (fun hHeld => ?_)
                  clear hK K
                  refine norm_ (a' := ?_) ?_ ?_
                  rotate_left
                  ·show Act.put _ (some 107) _ = _
                   simp only [Act.put, List.setIfInBounds_toArray, List.set_cons_zero, List.set_cons_succ, i64_w, i32_w]
                   rfl
                  refine one_ (i := 29) (N := some 110) #[true, true, true, true, true, true, true, true, true, true, true, true, true, true, true, true, true, true, true, true, true, true, true, true, true, true, true, true, true, true, false, false, false, false, false, false, false, false, false, false, false, false, false, false, false, false, false, false, false, false, false, false, false, false, false, false, false, false, false, false, false, false, false, false, false, false, false, false] rfl rfl (one_of HT_.out (by kernel_rfl)) (by decide) (fun K hK => ?_)
                  refine goes_ Try.func18 (by kernel_rfl) rfl #[.agg #[.slice Ao13 t363.length co13, .slice Ao15 t366.length co15], .int .i64 a1_0] (by rfl) rfl rfl ar_ ?_
                  with_reducible refine (topiaryref15_Parent.calls _ _ t363 _ _ t366 a1_0 t384 _ ?side1 ?side2 ?side3 ?side4 A71.out).mono ?_
                  (case side1 => repeat (first | exact (Kd.R_reads' HO_361000.out).2.2 | (with_reducible refine Kd.C_alloc ?_ _) | (with_reducible refine Kd.C_drewN ?_ _) | (with_reducible refine Kd.C_drew ?_)))
                  (case side2 => exact (Kd.R_reads' HO_361000.out).2.1)
                  (case side3 => repeat (first | exact (Kd.R_reads' HO_361001.out).2.2 | (with_reducible refine Kd.C_alloc ?_ _) | (with_reducible refine Kd.C_drewN ?_ _) | (with_reducible refine Kd.C_drew ?_)))
                  (case side4 => exact (Kd.R_reads' HO_361001.out).2.1)
                  rintro e w85 ⟨rfl, hb⟩
                  refine ⟨_, rfl, ?_⟩
                  have n0_ := Aside0.mk (Kd.R_below (rr_ HO_7.out) hb)
                  have n1_ := Aside0.mk (Kd.R_below (rr_ HO_361000.out) hb)
                  have n2_ := Aside0.mk (Kd.R_below (rr_ HO_361001.out) hb)
                  have n3_ := Aside0.mk (blk_below (g := gb360) (o := .cells #[.slice Ao13 t363.length co13, .slice Ao15 t366.length co15] 25 (0, 0)) (bk_ BK360.out) hb)
                  have n4_ := Aside0.mk (blk_below (g := gb361) (o := .cells #[.int .i64 a1_0, .int .i64 a1_1, .int .i64 a1_2] 26 (0, 0)) (bk_ BK361.out) hb)
                  have n5_ := Aside0.mk (below_step (bt_ HB.out GE360.out GE361.out) hb)
                  clear HO_7
                  clear HO_361000
                  clear HO_361001
                  clear BK360
                  clear BK361
                  clear HB
                  have HO_7 := n0_
                  have HO_361000 := n1_
                  have HO_361001 := n2_
                  have BK360 := n3_
                  have BK361 := n4_
                  have HB := n5_
                  clear n0_ n1_ n2_ n3_ n4_ n5_
                  (try clear hb)
                  (try clear hb2)
                  (try clear hk)
                  (try clear hi)
                  refine hK.out _ _ ⟨(blk_cell BK360.out 0).trans rfl, (blk_cell BK360.out 1).trans rfl, (blk_cell BK361.out 0).trans rfl, (blk_cell BK361.out 1).trans rfl, (blk_cell BK361.out 2).trans rfl⟩ (fun hHeld => ?_)
                  clear hK K
                  refine norm_ (a' := ?_) ?_ ?_
                  rotate_left
                  ·show Act.put _ (some 110) _ = _
                   simp only [Act.put, List.setIfInBounds_toArray, List.set_cons_zero, List.set_cons_succ, i64_w, i32_w]
                   rfl
                  refine pure_ (i := 30) (N := some 111) (v := ?_) (a' := ?_) #[true, true, true, true, true, true, true, true, true, true, true, true, true, true, true, true, true, true, true, true, true, true, true, true, true, true, true, true, true, true, true, false, false, false, false, false, false, false, false, false, false, false, false, false, false, false, false, false, false, false, false, false, false, false, false, false, false, false, false, false, false, false, false, false, false, false, false, false] rfl rfl (any_of HT_.out (by kernel_rfl)) (fun _ _ _ h => h) (Or.inl ⟨by rfl, ?_⟩) ?_ ?_
                  rotate_left
                  ·intro w'
                   go_simp
                   with_reducible rfl
                  rotate_left
                  ·simp only [Act.put, List.setIfInBounds_toArray, List.set_cons_zero, List.set_cons_succ, i64_w, i32_w]
                   rfl
                  refine pure_ (i := 31) (N := some 112) (v := ?_) (a' := ?_) #[true, true, true, true, true, true, true, true, true, true, true, true, true, true, true, true, true, true, true, true, true, true, true, true, true, true, true, true, true, true, true, true, false, false, false, false, false, false, false, false, false, false, false, false, false, false, false, false, false, false, false, false, false, false, false, false, false, false, false, false, false, false, false, false, false, false, false, false] rfl rfl (any_of HT_.out (by kernel_rfl)) (fun _ _ _ h => h) (Or.inl ⟨by rfl, ?_⟩) ?_ ?_
                  rotate_left
                  ·intro w'
                   go_simp
                   with_reducible rfl
                  rotate_left
                  ·simp only [Act.put, List.setIfInBounds_toArray, List.set_cons_zero, List.set_cons_succ, i64_w, i32_w]
                   rfl
                  refine pure_ (i := 32) (N := some 113) (v := ?_) (a' := ?_) #[true, true, true, true, true, true, true, true, true, true, true, true, true, true, true, true, true, true, true, true, true, true, true, true, true, true, true, true, true, true, true, true, true, false, false, false, false, false, false, false, false, false, false, false, false, false, false, false, false, false, false, false, false, false, false, false, false, false, false, false, false, false, false, false, false, false, false, false] rfl rfl (any_of HT_.out (by kernel_rfl)) (fun _ _ _ h => h) (Or.inl ⟨by rfl, ?_⟩) ?_ ?_
                  rotate_left
                  ·intro w'
                   go_simp
                   with_reducible rfl
                  rotate_left
                  ·simp only [Act.put, List.setIfInBounds_toArray, List.set_cons_zero, List.set_cons_succ, i64_w, i32_w]
                   rfl
                  refine pure_ (i := 34) (N := some 115) (v := ?_) (a' := ?_) #[true, true, true, true, true, true, true, true, true, true, true, true, true, true, true, true, true, true, true, true, true, true, true, true, true, true, true, true, true, true, true, true, true, false, true, false, false, false, false, false, false, false, false, false, false, false, false, false, false, false, false, false, false, false, false, false, false, false, false, false, false, false, false, false, false, false, false, false] rfl rfl (any_of HT_.out (by kernel_rfl)) (fun _ _ _ h => h) (Or.inl ⟨by rfl, ?_⟩) ?_ ?_
                  rotate_left
                  ·intro w'
                   go_simp
                   with_reducible rfl
                  rotate_left
                  ·simp only [Act.put, List.setIfInBounds_toArray, List.set_cons_zero, List.set_cons_succ, i64_w, i32_w]
                   rfl
                  refine pure_ (i := 36) (N := some 117) (v := ?_) (a' := ?_) #[true, true, true, true, true, true, true, true, true, true, true, true, true, true, true, true, true, true, true, true, true, true, true, true, true, true, true, true, true, true, true, true, true, false, true, false, true, false, false, false, false, false, false, false, false, false, false, false, false, false, false, false, false, false, false, false, false, false, false, false, false, false, false, false, false, false, false, false] rfl rfl (any_of HT_.out (by kernel_rfl)) (fun _ _ _ h => h) (Or.inl ⟨by rfl, ?_⟩) ?_ ?_
                  rotate_left
                  ·intro w'
                   go_simp
                   with_reducible rfl
                  rotate_left
                  ·simp only [Act.put, List.setIfInBounds_toArray, List.set_cons_zero, List.set_cons_succ, i64_w, i32_w]
                   rfl
                  refine pure_ (i := 37) (N := some 118) (v := ?_) (a' := ?_) #[true, true, true, true, true, true, true, true, true, true, true, true, true, true, true, true, true, true, true, true, true, true, true, true, true, true, true, true, true, true, true, true, true, false, true, false, true, true, false, false, false, false, false, false, false, false, false, false, false, false, false, false, false, false, false, false, false, false, false, false, false, false, false, false, false, false, false, false] rfl rfl (any_of HT_.out (by kernel_rfl)) (fun _ _ _ h => h) (Or.inl ⟨by rfl, ?_⟩) ?_ ?_
                  rotate_left
                  ·intro w'
                   go_simp
                   with_reducible rfl
                  rotate_left
                  ·simp only [Act.put, List.setIfInBounds_toArray, List.set_cons_zero, List.set_cons_succ, i64_w, i32_w]
                   rfl
                  refine take_ (i := 33) (N := some 114) (v := ?_) (a' := ?_) #[true, true, true, true, true, true, true, true, true, true, true, true, true, true, true, true, true, true, true, true, true, true, true, true, true, true, true, true, true, true, true, true, true, true, true, false, true, true, false, false, false, false, false, false, false, false, false, false, false, false, false, false, false, false, false, false, false, false, false, false, false, false, false, false, false, false, false, false] rfl rfl (take_ofW HT_.out HW_.out (by kernel_rfl)) (fun _ _ _ h => h) (Or.inl ⟨by rfl, ?_⟩) hHeld ?_ ?_
                  rotate_left
                  ·rintro w' ⟨s0, s1, s2, s3, s4⟩
                   go_simp
                   with_reducible rfl
                  rotate_left
                  ·simp only [Act.put, List.setIfInBounds_toArray, List.set_cons_zero, List.set_cons_succ, i64_w, i32_w]
                   rfl
                  refine one_ (i := 35) (N := some 116) #[true, true, true, true, true, true, true, true, true, true, true, true, true, true, true, true, true, true, true, true, true, true, true, true, true, true, true, true, true, true, true, true, true, true, true, true, true, true, false, false, false, false, false, false, false, false, false, false, false, false, false, false, false, false, false, false, false, false, false, false, false, false, false, false, false, false, false, false] rfl rfl (one_of HT_.out (by kernel_rfl)) (by decide) (fun K hK => ?_)
                  refine goes_ Try.func19 (by kernel_rfl) rfl #[.agg #[.slice Ao13 t363.length co13, .slice Ao15 t366.length co15], .int .i64 a1_0] (by rfl) rfl rfl ar_ ?_
                  with_reducible refine (tree_Degree.calls _ _ t363 _ _ t366 a1_0 t385 _ ?side1 ?side2 ?side3 ?side4 A73.out).mono ?_
                  (case side1 => repeat (first | exact (Kd.R_reads' HO_361000.out).2.2 | (with_reducible refine Kd.C_alloc ?_ _) | (with_reducible refine Kd.C_drewN ?_ _) | (with_reducible refine Kd.C_drew ?_)))
                  (case side2 => exact (Kd.R_reads' HO_361000.out).2.1)
                  (case side3 => repeat (first | exact (Kd.R_reads' HO_361001.out).2.2 | (with_reducible refine Kd.C_alloc ?_ _) | (with_reducible refine Kd.C_drewN ?_ _) | (with_reducible refine Kd.C_drew ?_)))
                  (case side4 => exact (Kd.R_reads' HO_361001.out).2.1)
                  rintro e w86 ⟨rfl, hb⟩
                  refine ⟨_, rfl, ?_⟩
                  have n0_ := Aside0.mk (Kd.R_below (rr_ HO_7.out) hb)
                  have n1_ := Aside0.mk (Kd.R_below (rr_ HO_361000.out) hb)
                  have n2_ := Aside0.mk (Kd.R_below (rr_ HO_361001.out) hb)
                  have n3_ := Aside0.mk (blk_below (g := gb360) (o := .cells #[.slice Ao13 t363.length co13, .slice Ao15 t366.length co15] 25 (0, 0)) (bk_ BK360.out) hb)
                  have n4_ := Aside0.mk (blk_below (g := gb361) (o := .cells #[.int .i64 a1_0, .int .i64 a1_1, .int .i64 a1_2] 26 (0, 0)) (bk_ BK361.out) hb)
                  have n5_ := Aside0.mk (below_step (bt_ HB.out GE360.out GE361.out) hb)
                  clear HO_7
                  clear HO_361000
                  clear HO_361001
                  clear BK360
                  clear BK361
                  clear HB
                  have HO_7 := n0_
                  have HO_361000 := n1_
                  have HO_361001 := n2_
                  have BK360 := n3_
                  have BK361 := n4_
                  have HB := n5_
                  clear n0_ n1_ n2_ n3_ n4_ n5_
                  (try clear hb)
                  (try clear hb2)
                  (try clear hk)
                  (try clear hi)
                  refine hK.out _ _ ⟨(blk_cell BK360.out 0).trans rfl, (blk_cell BK360.out 1).trans rfl, (blk_cell BK361.out 0).trans rfl, (blk_cell BK361.out 1).trans rfl, (blk_cell BK361.out 2).trans rfl⟩ (fun hHeld => ?_)
                  clear hK K
                  refine norm_ (a' := ?_) ?_ ?_
                  rotate_left
                  ·show Act.put _ (some 116) _ = _
                   simp only [Act.put, List.setIfInBounds_toArray, List.set_cons_zero, List.set_cons_succ, i64_w, i32_w]
                   rfl
                  refine pure_ (i := 38) (N := some 119) (v := ?_) (a' := ?_) #[true, true, true, true, true, true, true, true, true, true, true, true, true, true, true, true, true, true, true, true, true, true, true, true, true, true, true, true, true, true, true, true, true, true, true, true, true, true, true, false, false, false, false, false, false, false, false, false, false, false, false, false, false, false, false, false, false, false, false, false, false, false, false, false, false, false, false, false] rfl rfl (any_of HT_.out (by kernel_rfl)) (fun _ _ _ h => h) (Or.inl ⟨by rfl, ?_⟩) ?_ ?_
                  rotate_left
                  ·intro w'
                   go_simp
                   with_reducible rfl
                  rotate_left
                  ·simp only [Act.put, List.setIfInBounds_toArray, List.set_cons_zero, List.set_cons_succ, i64_w, i32_w]
                   rfl
                  refine pure_ (i := 39) (N := some 120) (v := ?_) (a' := ?_) #[true, true, true, true, true, true, true, true, true, true, true, true, true, true, true, true, true, true, true, true, true, true, true, true, true, true, true, true, true, true, true, true, true, true, true, true, true, true, true, true, false, false, false, false, false, false, false, false, false, false, false, false, false, false, false, false, false, false, false, false, false, false, false, false, false, false, false, false] rfl rfl (any_of HT_.out (by kernel_rfl)) (fun _ _ _ h => h) (Or.inl ⟨by rfl, ?_⟩) ?_ ?_
                  rotate_left
                  ·intro w'
                   go_simp
                   with_reducible rfl
                  rotate_left
                  ·simp only [Act.put, List.setIfInBounds_toArray, List.set_cons_zero, List.set_cons_succ, i64_w, i32_w]
                   rfl
                  refine pure_ (i := 40) (N := some 121) (v := ?_) (a' := ?_) #[true, true, true, true, true, true, true, true, true, true, true, true, true, true, true, true, true, true, true, true, true, true, true, true, true, true, true, true, true, true, true, true, true, true, true, true, true, true, true, true, true, false, false, false, false, false, false, false, false, false, false, false, false, false, false, false, false, false, false, false, false, false, false, false, false, false, false, false] rfl rfl (any_of HT_.out (by kernel_rfl)) (fun _ _ _ h => h) (Or.inl ⟨by rfl, ?_⟩) ?_ ?_
                  rotate_left
                  ·intro w'
                   go_simp
                   with_reducible rfl
                  rotate_left
                  ·simp only [Act.put, List.setIfInBounds_toArray, List.set_cons_zero, List.set_cons_succ, i64_w, i32_w]
                   rfl
                  refine pure_ (i := 42) (N := some 123) (v := ?_) (a' := ?_) #[true, true, true, true, true, true, true, true, true, true, true, true, true, true, true, true, true, true, true, true, true, true, true, true, true, true, true, true, true, true, true, true, true, true, true, true, true, true, true, true, true, false, true, false, false, false, false, false, false, false, false, false, false, false, false, false, false, false, false, false, false, false, false, false, false, false, false, false] rfl rfl (any_of HT_.out (by kernel_rfl)) (fun _ _ _ h => h) (Or.inl ⟨by rfl, ?_⟩) ?_ ?_
                  rotate_left
                  ·intro w'
                   go_simp
                   with_reducible rfl
                  rotate_left
                  ·simp only [Act.put, List.setIfInBounds_toArray, List.set_cons_zero, List.set_cons_succ, i64_w, i32_w]
                   rfl
                  refine pure_ (i := 43) (N := some 124) (v := ?_) (a' := ?_) #[true, true, true, true, true, true, true, true, true, true, true, true, true, true, true, true, true, true, true, true, true, true, true, true, true, true, true, true, true, true, true, true, true, true, true, true, true, true, true, true, true, false, true, true, false, false, false, false, false, false, false, false, false, false, false, false, false, false, false, false, false, false, false, false, false, false, false, false] rfl rfl (any_of HT_.out (by kernel_rfl)) (fun _ _ _ h => h) (Or.inl ⟨by rfl, ?_⟩) ?_ ?_
                  rotate_left
                  ·intro w'
                   go_simp
                   with_reducible rfl
                  rotate_left
                  ·simp only [Act.put, List.setIfInBounds_toArray, List.set_cons_zero, List.set_cons_succ, i64_w, i32_w]
                   rfl
                  refine pure_ (i := 46) (N := some 127) (v := ?_) (a' := ?_) #[true, true, true, true, true, true, true, true, true, true, true, true, true, true, true, true, true, true, true, true, true, true, true, true, true, true, true, true, true, true, true, true, true, true, true, true, true, true, true, true, true, false, true, true, false, false, true, false, false, false, false, false, false, false, false, false, false, false, false, false, false, false, false, false, false, false, false, false] rfl rfl (any_of HT_.out (by kernel_rfl)) (fun _ _ _ h => h) (Or.inl ⟨by rfl, ?_⟩) ?_ ?_
                  rotate_left
                  ·intro w'
                   go_simp
                   with_reducible rfl
                  rotate_left
                  ·simp only [Act.put, List.setIfInBounds_toArray, List.set_cons_zero, List.set_cons_succ, i64_w, i32_w]
                   rfl
                  refine take_ (i := 41) (N := some 122) (v := ?_) (a' := ?_) #[true, true, true, true, true, true, true, true, true, true, true, true, true, true, true, true, true, true, true, true, true, true, true, true, true, true, true, true, true, true, true, true, true, true, true, true, true, true, true, true, true, true, true, true, false, false, true, false, false, false, false, false, false, false, false, false, false, false, false, false, false, false, false, false, false, false, false, false] rfl rfl (take_ofW HT_.out HW_.out (by kernel_rfl)) (fun _ _ _ h => h) (Or.inl ⟨by rfl, ?_⟩) hHeld ?_ ?_
                  rotate_left
                  ·rintro w' ⟨s0, s1, s2, s3, s4⟩
                   go_simp
                   with_reducible rfl
                  rotate_left
                  ·simp only [Act.put, List.setIfInBounds_toArray, List.set_cons_zero, List.set_cons_succ, i64_w, i32_w]
                   rfl
                  refine take_ (i := 44) (N := some 125) (v := ?_) (a' := ?_) #[true, true, true, true, true, true, true, true, true, true, true, true, true, true, true, true, true, true, true, true, true, true, true, true, true, true, true, true, true, true, true, true, true, true, true, true, true, true, true, true, true, true, true, true, true, false, true, false, false, false, false, false, false, false, false, false, false, false, false, false, false, false, false, false, false, false, false, false] rfl rfl (take_ofW HT_.out HW_.out (by kernel_rfl)) (fun _ _ _ h => h) (Or.inl ⟨by rfl, ?_⟩) hHeld ?_ ?_
                  rotate_left
                  ·rintro w' ⟨s0, s1, s2, s3, s4⟩
                   go_simp
                   with_reducible rfl
                  rotate_left
                  ·simp only [Act.put, List.setIfInBounds_toArray, List.set_cons_zero, List.set_cons_succ, i64_w, i32_w]
                   rfl
                  refine one_ (i := 45) (N := some 126) #[true, true, true, true, true, true, true, true, true, true, true, true, true, true, true, true, true, true, true, true, true, true, true, true, true, true, true, true, true, true, true, true, true, true, true, true, true, true, true, true, true, true, true, true, true, true, true, false, false, false, false, false, false, false, false, false, false, false, false, false, false, false, false, false, false, false, false, false] rfl rfl (one_of HT_.out (by kernel_rfl)) (by decide) (fun K hK => ?_)
                  refine goes_ Try.func20 (by kernel_rfl) rfl #[.agg #[.slice Ao13 t363.length co13, .slice Ao15 t366.length co15], .int .i64 a1_0, .int .i64 a1_1] (by rfl) rfl rfl ar_ ?_
                  with_reducible refine (tree_Child.calls _ _ t363 _ _ t366 a1_0 a1_1 t386 _ ?side1 ?side2 ?side3 ?side4 A75.out).mono ?_
                  (case side1 => repeat (first | exact (Kd.R_reads' HO_361000.out).2.2 | (with_reducible refine Kd.C_alloc ?_ _) | (with_reducible refine Kd.C_drewN ?_ _) | (with_reducible refine Kd.C_drew ?_)))
                  (case side2 => exact (Kd.R_reads' HO_361000.out).2.1)
                  (case side3 => repeat (first | exact (Kd.R_reads' HO_361001.out).2.2 | (with_reducible refine Kd.C_alloc ?_ _) | (with_reducible refine Kd.C_drewN ?_ _) | (with_reducible refine Kd.C_drew ?_)))
                  (case side4 => exact (Kd.R_reads' HO_361001.out).2.1)
                  rintro e w87 ⟨rfl, hb⟩
                  refine ⟨_, rfl, ?_⟩
                  have n0_ := Aside0.mk (Kd.R_below (rr_ HO_7.out) hb)
                  have n1_ := Aside0.mk (Kd.R_below (rr_ HO_361000.out) hb)
                  have n2_ := Aside0.mk (Kd.R_below (rr_ HO_361001.out) hb)
                  have n3_ := Aside0.mk (blk_below (g := gb360) (o := .cells #[.slice Ao13 t363.length co13, .slice Ao15 t366.length co15] 25 (0, 0)) (bk_ BK360.out) hb)
                  have n4_ := Aside0.mk (blk_below (g := gb361) (o := .cells #[.int .i64 a1_0, .int .i64 a1_1, .int .i64 a1_2] 26 (0, 0)) (bk_ BK361.out) hb)
                  have n5_ := Aside0.mk (below_step (bt_ HB.out GE360.out GE361.out) hb)
                  clear HO_7
                  clear HO_361000
                  clear HO_361001
                  clear BK360
                  clear BK361
                  clear HB
                  have HO_7 := n0_
                  have HO_361000 := n1_
                  have HO_361001 := n2_
                  have BK360 := n3_
                  have BK361 := n4_
                  have HB := n5_
                  clear n0_ n1_ n2_ n3_ n4_ n5_
                  (try clear hb)
                  (try clear hb2)
                  (try clear hk)
                  (try clear hi)
                  refine hK.out _ _ ⟨(blk_cell BK360.out 0).trans rfl, (blk_cell BK360.out 1).trans rfl, (blk_cell BK361.out 0).trans rfl, (blk_cell BK361.out 1).trans rfl, (blk_cell BK361.out 2).trans rfl⟩ (fun hHeld => ?_)
                  clear hK K
                  refine norm_ (a' := ?_) ?_ ?_
                  rotate_left
                  ·show Act.put _ (some 126) _ = _
                   simp only [Act.put, List.setIfInBounds_toArray, List.set_cons_zero, List.set_cons_succ, i64_w, i32_w]
                   rfl
                  refine pure_ (i := 47) (N := some 128) (v := ?_) (a' := ?_) #[true, true, true, true, true, true, true, true, true, true, true, true, true, true, true, true, true, true, true, true, true, true, true, true, true, true, true, true, true, true, true, true, true, true, true, true, true, true, true, true, true, true, true, true, true, true, true, true, false, false, false, false, false, false, false, false, false, false, false, false, false, false, false, false, false, false, false, false] rfl rfl (any_of HT_.out (by kernel_rfl)) (fun _ _ _ h => h) (Or.inl ⟨by rfl, ?_⟩) ?_ ?_
                  rotate_left
                  ·intro w'
                   go_simp
                   with_reducible rfl
                  rotate_left
                  ·simp only [Act.put, List.setIfInBounds_toArray, List.set_cons_zero, List.set_cons_succ, i64_w, i32_w]
                   rfl
                  refine pure_ (i := 48) (N := some 129) (v := ?_) (a' := ?_) #[true, true, true, true, true, true, true, true, true, true, true, true, true, true, true, true, true, true, true, true, true, true, true, true, true, true, true, true, true, true, true, true, true, true, true, true, true, true, true, true, true, true, true, true, true, true, true, true, true, false, false, false, false, false, false, false, false, false, false, false, false, false, false, false, false, false, false, false] rfl rfl (any_of HT_.out (by kernel_rfl)) (fun _ _ _ h => h) (Or.inl ⟨by rfl, ?_⟩) ?_ ?_
                  rotate_left
                  ·intro w'
                   go_simp
                   with_reducible rfl
                  rotate_left
                  ·simp only [Act.put, List.setIfInBounds_toArray, List.set_cons_zero, List.set_cons_succ, i64_w, i32_w]
                   rfl
                  refine pure_ (i := 49) (N := some 130) (v := ?_) (a' := ?_) #[true, true, true, true, true, true, true, true, true, true, true, true, true, true, true, true, true, true, true, true, true, true, true, true, true, true, true, true, true, true, true, true, true, true, true, true, true, true, true, true, true, true, true, true, true, true, true, true, true, true, false, false, false, false, false, false, false, false, false, false, false, false, false, false, false, false, false, false] rfl rfl (any_of HT_.out (by kernel_rfl)) (fun _ _ _ h => h) (Or.inl ⟨by rfl, ?_⟩) ?_ ?_
                  rotate_left
                  ·intro w'
                   go_simp
                   with_reducible rfl
                  rotate_left
                  ·simp only [Act.put, List.setIfInBounds_toArray, List.set_cons_zero, List.set_cons_succ, i64_w, i32_w]
                   rfl
                  refine pure_ (i := 51) (N := some 132) (v := ?_) (a' := ?_) #[true, true, true, true, true, true, true, true, true, true, true, true, true, true, true, true, true, true, true, true, true, true, true, true, true, true, true, true, true, true, true, true, true, true, true, true, true, true, true, true, true, true, true, true, true, true, true, true, true, true, false, true, false, false, false, false, false, false, false, false, false, false, false, false, false, false, false, false] rfl rfl (any_of HT_.out (by kernel_rfl)) (fun _ _ _ h => h) (Or.inl ⟨by rfl, ?_⟩) ?_ ?_
                  rotate_left
                  ·intro w'
                   go_simp
                   with_reducible rfl
                  rotate_left
                  ·simp only [Act.put, List.setIfInBounds_toArray, List.set_cons_zero, List.set_cons_succ, i64_w, i32_w]
                   rfl
                  refine pure_ (i := 52) (N := some 133) (v := ?_) (a' := ?_) #[true, true, true, true, true, true, true, true, true, true, true, true, true, true, true, true, true, true, true, true, true, true, true, true, true, true, true, true, true, true, true, true, true, true, true, true, true, true, true, true, true, true, true, true, true, true, true, true, true, true, false, true, true, false, false, false, false, false, false, false, false, false, false, false, false, false, false, false] rfl rfl (any_of HT_.out (by kernel_rfl)) (fun _ _ _ h => h) (Or.inl ⟨by rfl, ?_⟩) ?_ ?_
                  rotate_left
                  ·intro w'
                   go_simp
                   with_reducible rfl
                  rotate_left
                  ·simp only [Act.put, List.setIfInBounds_toArray, List.set_cons_zero, List.set_cons_succ, i64_w, i32_w]
                   rfl
                  refine pure_ (i := 54) (N := some 135) (v := ?_) (a' := ?_) #[true, true, true, true, true, true, true, true, true, true, true, true, true, true, true, true, true, true, true, true, true, true, true, true, true, true, true, true, true, true, true, true, true, true, true, true, true, true, true, true, true, true, true, true, true, true, true, true, true, true, false, true, true, false, true, false, false, false, false, false, false, false, false, false, false, false, false, false] rfl rfl (any_of HT_.out (by kernel_rfl)) (fun _ _ _ h => h) (Or.inl ⟨by rfl, ?_⟩) ?_ ?_
                  rotate_left
                  ·intro w'
                   go_simp
                   with_reducible rfl
                  rotate_left
                  ·simp only [Act.put, List.setIfInBounds_toArray, List.set_cons_zero, List.set_cons_succ, i64_w, i32_w]
                   rfl
                  refine pure_ (i := 57) (N := some 138) (v := ?_) (a' := ?_) #[true, true, true, true, true, true, true, true, true, true, true, true, true, true, true, true, true, true, true, true, true, true, true, true, true, true, true, true, true, true, true, true, true, true, true, true, true, true, true, true, true, true, true, true, true, true, true, true, true, true, false, true, true, false, true, false, false, true, false, false, false, false, false, false, false, false, false, false] rfl rfl (any_of HT_.out (by kernel_rfl)) (fun _ _ _ h => h) (Or.inl ⟨by rfl, ?_⟩) ?_ ?_
                  rotate_left
                  ·intro w'
                   go_simp
                   with_reducible rfl
                  rotate_left
                  ·simp only [Act.put, List.setIfInBounds_toArray, List.set_cons_zero, List.set_cons_succ, i64_w, i32_w]
                   rfl
                  refine take_ (i := 50) (N := some 131) (v := ?_) (a' := ?_) #[true, true, true, true, true, true, true, true, true, true, true, true, true, true, true, true, true, true, true, true, true, true, true, true, true, true, true, true, true, true, true, true, true, true, true, true, true, true, true, true, true, true, true, true, true, true, true, true, true, true, true, true, true, false, true, false, false, true, false, false, false, false, false, false, false, false, false, false] rfl rfl (take_ofW HT_.out HW_.out (by kernel_rfl)) (fun _ _ _ h => h) (Or.inl ⟨by rfl, ?_⟩) hHeld ?_ ?_
                  rotate_left
                  ·rintro w' ⟨s0, s1, s2, s3, s4⟩
                   go_simp
                   with_reducible rfl
                  rotate_left
                  ·simp only [Act.put, List.setIfInBounds_toArray, List.set_cons_zero, List.set_cons_succ, i64_w, i32_w]
                   rfl
                  refine take_ (i := 53) (N := some 134) (v := ?_) (a' := ?_) #[true, true, true, true, true, true, true, true, true, true, true, true, true, true, true, true, true, true, true, true, true, true, true, true, true, true, true, true, true, true, true, true, true, true, true, true, true, true, true, true, true, true, true, true, true, true, true, true, true, true, true, true, true, true, true, false, false, true, false, false, false, false, false, false, false, false, false, false] rfl rfl (take_ofW HT_.out HW_.out (by kernel_rfl)) (fun _ _ _ h => h) (Or.inl ⟨by rfl, ?_⟩) hHeld ?_ ?_
                  rotate_left
                  ·rintro w' ⟨s0, s1, s2, s3, s4⟩
                   go_simp
                   with_reducible rfl
                  rotate_left
                  ·simp only [Act.put, List.setIfInBounds_toArray, List.set_cons_zero, List.set_cons_succ, i64_w, i32_w]
                   rfl
                  refine take_ (i := 55) (N := some 136) (v := ?_) (a' := ?_) #[true, true, true, true, true, true, true, true, true, true, true, true, true, true, true, true, true, true, true, true, true, true, true, true, true, true, true, true, true, true, true, true, true, true, true, true, true, true, true, true, true, true, true, true, true, true, true, true, true, true, true, true, true, true, true, true, false, true, false, false, false, false, false, false, false, false, false, false] rfl rfl (take_ofW HT_.out HW_.out (by kernel_rfl)) (fun _ _ _ h => h) (Or.inl ⟨by rfl, ?_⟩) hHeld ?_ ?_
                  rotate_left
                  ·rintro w' ⟨s0, s1, s2, s3, s4⟩
                   go_simp
                   with_reducible rfl
                  rotate_left
                  ·simp only [Act.put, List.setIfInBounds_toArray, List.set_cons_zero, List.set_cons_succ, i64_w, i32_w]
                   rfl
                  refine one_ (i := 56) (N := some 137) #[true, true, true, true, true, true, true, true, true, true, true, true, true, true, true, true, true, true, true, true, true, true, true, true, true, true, true, true, true, true, true, true, true, true, true, true, true, true, true, true, true, true, true, true, true, true, true, true, true, true, true, true, true, true, true, true, true, true, false, false, false, false, false, false, false, false, false, false] rfl rfl (one_of HT_.out (by kernel_rfl)) (by decide) (fun K hK => ?_)
                  refine goes_ Try.func21 (by kernel_rfl) rfl #[.agg #[.slice Ao13 t363.length co13, .slice Ao15 t366.length co15], .int .i64 a1_0, .int .i64 a1_2, .int .i64 a1_1] (by rfl) rfl rfl ar_ ?_
                  with_reducible refine (tree_Labelled.calls kj50 _ _ t363 _ _ t366 a1_0 a1_2 a1_1 t387 _ ?side1 ?side2 ?side3 ?side4 A77.out).mono ?_
                  (case side1 => repeat (first | exact (Kd.R_reads' HO_361000.out).2.2 | (with_reducible refine Kd.C_alloc ?_ _) | (with_reducible refine Kd.C_drewN ?_ _) | (with_reducible refine Kd.C_drew ?_)))
                  (case side2 => exact (Kd.R_reads' HO_361000.out).2.1)
                  (case side3 => repeat (first | exact (Kd.R_reads' HO_361001.out).2.2 | (with_reducible refine Kd.C_alloc ?_ _) | (with_reducible refine Kd.C_drewN ?_ _) | (with_reducible refine Kd.C_drew ?_)))
                  (case side4 => exact (Kd.R_reads' HO_361001.out).2.1)
                  rintro e w88 ⟨rfl, hb⟩
                  refine ⟨_, rfl, ?_⟩
                  have n0_ := Aside0.mk (Kd.R_below (rr_ HO_7.out) hb)
                  have n1_ := Aside0.mk (Kd.R_below (rr_ HO_361000.out) hb)
                  have n2_ := Aside0.mk (Kd.R_below (rr_ HO_361001.out) hb)
                  have n3_ := Aside0.mk (blk_below (g := gb360) (o := .cells #[.slice Ao13 t363.length co13, .slice Ao15 t366.length co15] 25 (0, 0)) (bk_ BK360.out) hb)
                  have n4_ := Aside0.mk (blk_below (g := gb361) (o := .cells #[.int .i64 a1_0, .int .i64 a1_1, .int .i64 a1_2] 26 (0, 0)) (bk_ BK361.out) hb)
                  have n5_ := Aside0.mk (below_step (bt_ HB.out GE360.out GE361.out) hb)
                  clear HO_7
                  clear HO_361000
                  clear HO_361001
                  clear BK360
                  clear BK361
                  clear HB
                  have HO_7 := n0_
                  have HO_361000 := n1_
                  have HO_361001 := n2_
                  have BK360 := n3_
                  have BK361 := n4_
                  have HB := n5_
                  clear n0_ n1_ n2_ n3_ n4_ n5_
                  (try clear hb)
                  (try clear hb2)
                  (try clear hk)
                  (try clear hi)
                  refine hK.out _ _ ⟨(blk_cell BK360.out 0).trans rfl, (blk_cell BK360.out 1).trans rfl, (blk_cell BK361.out 0).trans rfl, (blk_cell BK361.out 1).trans rfl, (blk_cell BK361.out 2).trans rfl⟩ (fun hHeld => ?_)
                  clear hK K
                  refine norm_ (a' := ?_) ?_ ?_
                  rotate_left
                  ·show Act.put _ (some 137) _ = _
                   simp only [Act.put, List.setIfInBounds_toArray, List.set_cons_zero, List.set_cons_succ, i64_w, i32_w]
                   rfl
                  refine pure_ (i := 58) (N := some 139) (v := ?_) (a' := ?_) #[true, true, true, true, true, true, true, true, true, true, true, true, true, true, true, true, true, true, true, true, true, true, true, true, true, true, true, true, true, true, true, true, true, true, true, true, true, true, true, true, true, true, true, true, true, true, true, true, true, true, true, true, true, true, true, true, true, true, true, false, false, false, false, false, false, false, false, false] rfl rfl (any_of HT_.out (by kernel_rfl)) (fun _ _ _ h => h) (Or.inl ⟨by rfl, ?_⟩) ?_ ?_
                  rotate_left
                  ·intro w'
                   go_simp
                   with_reducible rfl
                  rotate_left
                  ·simp only [Act.put, List.setIfInBounds_toArray, List.set_cons_zero, List.set_cons_succ, i64_w, i32_w]
                   rfl
                  refine pure_ (i := 59) (N := some 140) (v := ?_) (a' := ?_) #[true, true, true, true, true, true, true, true, true, true, true, true, true, true, true, true, true, true, true, true, true, true, true, true, true, true, true, true, true, true, true, true, true, true, true, true, true, true, true, true, true, true, true, true, true, true, true, true, true, true, true, true, true, true, true, true, true, true, true, true, false, false, false, false, false, false, false, false] rfl rfl (any_of HT_.out (by kernel_rfl)) (fun _ _ _ h => h) (Or.inl ⟨by rfl, ?_⟩) ?_ ?_
                  rotate_left
                  ·intro w'
                   go_simp
                   with_reducible rfl
                  rotate_left
                  ·simp only [Act.put, List.setIfInBounds_toArray, List.set_cons_zero, List.set_cons_succ, i64_w, i32_w]
                   rfl
                  refine pure_ (i := 60) (N := some 141) (v := ?_) (a' := ?_) #[true, true, true, true, true, true, true, true, true, true, true, true, true, true, true, true, true, true, true, true, true, true, true, true, true, true, true, true, true, true, true, true, true, true, true, true, true, true, true, true, true, true, true, true, true, true, true, true, true, true, true, true, true, true, true, true, true, true, true, true, true, false, false, false, false, false, false, false] rfl rfl (any_of HT_.out (by kernel_rfl)) (fun _ _ _ h => h) (Or.inl ⟨by rfl, ?_⟩) ?_ ?_
                  rotate_left
                  ·intro w'
                   go_simp
                   with_reducible rfl
                  rotate_left
                  ·simp only [Act.put, List.setIfInBounds_toArray, List.set_cons_zero, List.set_cons_succ, i64_w, i32_w]
                   rfl
                  refine pure_ (i := 62) (N := some 143) (v := ?_) (a' := ?_) #[true, true, true, true, true, true, true, true, true, true, true, true, true, true, true, true, true, true, true, true, true, true, true, true, true, true, true, true, true, true, true, true, true, true, true, true, true, true, true, true, true, true, true, true, true, true, true, true, true, true, true, true, true, true, true, true, true, true, true, true, true, false, true, false, false, false, false, false] rfl rfl (any_of HT_.out (by kernel_rfl)) (fun _ _ _ h => h) (Or.inl ⟨by rfl, ?_⟩) ?_ ?_
                  rotate_left
                  ·intro w'
                   go_simp
                   with_reducible rfl
                  rotate_left
                  ·simp only [Act.put, List.setIfInBounds_toArray, List.set_cons_zero, List.set_cons_succ, i64_w, i32_w]
                   rfl
                  refine pure_ (i := 64) (N := some 145) (v := ?_) (a' := ?_) #[true, true, true, true, true, true, true, true, true, true, true, true, true, true, true, true, true, true, true, true, true, true, true, true, true, true, true, true, true, true, true, true, true, true, true, true, true, true, true, true, true, true, true, true, true, true, true, true, true, true, true, true, true, true, true, true, true, true, true, true, true, false, true, false, true, false, false, false] rfl rfl (any_of HT_.out (by kernel_rfl)) (fun _ _ _ h => h) (Or.inl ⟨by rfl, ?_⟩) ?_ ?_
                  rotate_left
                  ·intro w'
                   go_simp
                   with_reducible rfl
                  rotate_left
                  ·simp only [Act.put, List.setIfInBounds_toArray, List.set_cons_zero, List.set_cons_succ, i64_w, i32_w]
                   rfl
                  refine take_ (i := 61) (N := some 142) (v := ?_) (a' := ?_) #[true, true, true, true, true, true, true, true, true, true, true, true, true, true, true, true, true, true, true, true, true, true, true, true, true, true, true, true, true, true, true, true, true, true, true, true, true, true, true, true, true, true, true, true, true, true, true, true, true, true, true, true, true, true, true, true, true, true, true, true, true, true, true, false, true, false, false, false] rfl rfl (take_ofW HT_.out HW_.out (by kernel_rfl)) (fun _ _ _ h => h) (Or.inl ⟨by rfl, ?_⟩) hHeld ?_ ?_
                  rotate_left
                  ·rintro w' ⟨s0, s1, s2, s3, s4⟩
                   go_simp
                   with_reducible rfl
                  rotate_left
                  ·simp only [Act.put, List.setIfInBounds_toArray, List.set_cons_zero, List.set_cons_succ, i64_w, i32_w]
                   rfl
                  refine one_ (i := 63) (N := some 144) #[true, true, true, true, true, true, true, true, true, true, true, true, true, true, true, true, true, true, true, true, true, true, true, true, true, true, true, true, true, true, true, true, true, true, true, true, true, true, true, true, true, true, true, true, true, true, true, true, true, true, true, true, true, true, true, true, true, true, true, true, true, true, true, true, true, false, false, false] rfl rfl (one_of HT_.out (by kernel_rfl)) (by decide) (fun K hK => ?_)
                  refine goes_ Try.func22 (by kernel_rfl) rfl #[.agg #[.slice Ao13 t363.length co13, .slice Ao15 t366.length co15], .int .i64 a1_0] (by rfl) rfl rfl ar_ ?_
                  with_reducible refine (tree_Leaf.calls _ _ t363 _ _ t366 a1_0 t388 _ ?side1 ?side2 ?side3 ?side4 A79.out).mono ?_
                  (case side1 => repeat (first | exact (Kd.R_reads' HO_361000.out).2.2 | (with_reducible refine Kd.C_alloc ?_ _) | (with_reducible refine Kd.C_drewN ?_ _) | (with_reducible refine Kd.C_drew ?_)))
                  (case side2 => exact (Kd.R_reads' HO_361000.out).2.1)
                  (case side3 => repeat (first | exact (Kd.R_reads' HO_361001.out).2.2 | (with_reducible refine Kd.C_alloc ?_ _) | (with_reducible refine Kd.C_drewN ?_ _) | (with_reducible refine Kd.C_drew ?_)))
                  (case side4 => exact (Kd.R_reads' HO_361001.out).2.1)
                  rintro e w89 ⟨rfl, hb⟩
                  refine ⟨_, rfl, ?_⟩
                  have n0_ := Aside0.mk (Kd.R_below (rr_ HO_7.out) hb)
                  have n1_ := Aside0.mk (Kd.R_below (rr_ HO_361000.out) hb)
                  have n2_ := Aside0.mk (Kd.R_below (rr_ HO_361001.out) hb)
                  have n3_ := Aside0.mk (blk_below (g := gb360) (o := .cells #[.slice Ao13 t363.length co13, .slice Ao15 t366.length co15] 25 (0, 0)) (bk_ BK360.out) hb)
                  have n4_ := Aside0.mk (blk_below (g := gb361) (o := .cells #[.int .i64 a1_0, .int .i64 a1_1, .int .i64 a1_2] 26 (0, 0)) (bk_ BK361.out) hb)
                  have n5_ := Aside0.mk (below_step (bt_ HB.out GE360.out GE361.out) hb)
                  clear HO_7
                  clear HO_361000
                  clear HO_361001
                  clear BK360
                  clear BK361
                  clear HB
                  have HO_7 := n0_
                  have HO_361000 := n1_
                  have HO_361001 := n2_
                  have BK360 := n3_
                  have BK361 := n4_
                  have HB := n5_
                  clear n0_ n1_ n2_ n3_ n4_ n5_
                  (try clear hb)
                  (try clear hb2)
                  (try clear hk)
                  (try clear hi)
                  refine hK.out _ _ ⟨(blk_cell BK360.out 0).trans rfl, (blk_cell BK360.out 1).trans rfl, (blk_cell BK361.out 0).trans rfl, (blk_cell BK361.out 1).trans rfl, (blk_cell BK361.out 2).trans rfl⟩ (fun hHeld => ?_)
                  clear hK K
                  refine norm_ (a' := ?_) ?_ ?_
                  rotate_left
                  ·show Act.put _ (some 144) _ = _
                   simp only [Act.put, List.setIfInBounds_toArray, List.set_cons_zero, List.set_cons_succ, i64_w, i32_w]
                   rfl
                  refine pure_ (i := 65) (N := some 146) (v := ?_) (a' := ?_) #[true, true, true, true, true, true, true, true, true, true, true, true, true, true, true, true, true, true, true, true, true, true, true, true, true, true, true, true, true, true, true, true, true, true, true, true, true, true, true, true, true, true, true, true, true, true, true, true, true, true, true, true, true, true, true, true, true, true, true, true, true, true, true, true, true, true, false, false] rfl rfl (any_of HT_.out (by kernel_rfl)) (fun _ _ _ h => h) (Or.inl ⟨by rfl, ?_⟩) ?_ ?_
                  rotate_left
                  ·intro w'
                   go_simp
                   with_reducible rfl
                  rotate_left
                  ·simp only [Act.put, List.setIfInBounds_toArray, List.set_cons_zero, List.set_cons_succ, i64_w, i32_w]
                   rfl
                  refine pure_ (i := 66) (N := some 147) (v := ?_) (a' := ?_) #[true, true, true, true, true, true, true, true, true, true, true, true, true, true, true, true, true, true, true, true, true, true, true, true, true, true, true, true, true, true, true, true, true, true, true, true, true, true, true, true, true, true, true, true, true, true, true, true, true, true, true, true, true, true, true, true, true, true, true, true, true, true, true, true, true, true, true, false] rfl rfl (any_of HT_.out (by kernel_rfl)) (fun _ _ _ h => h) (Or.inl ⟨by rfl, ?_⟩) ?_ ?_
                  rotate_left
                  ·intro w'
                   go_simp
                   with_reducible rfl
                  rotate_left
                  ·simp only [Act.put, List.setIfInBounds_toArray, List.set_cons_zero, List.set_cons_succ, i64_w, i32_w]
                   rfl
                  refine pure_ (i := 67) (N := some 4) (v := ?_) (a' := ?_) #[true, true, true, true, true, true, true, true, true, true, true, true, true, true, true, true, true, true, true, true, true, true, true, true, true, true, true, true, true, true, true, true, true, true, true, true, true, true, true, true, true, true, true, true, true, true, true, true, true, true, true, true, true, true, true, true, true, true, true, true, true, true, true, true, true, true, true, true] rfl rfl (any_of HT_.out (by kernel_rfl)) (fun _ _ _ h => h) (Or.inl ⟨by rfl, ?_⟩) ?_ ?_
                  rotate_left
                  ·intro w'
                   go_simp
                   with_reducible rfl
                  rotate_left
                  ·simp only [Act.put, List.setIfInBounds_toArray, List.set_cons_zero, List.set_cons_succ, i64_w, i32_w]
                   rfl
                  refine done_ (done_of HT_.out (by kernel_rfl)) ?_
                  try go_wp2
                  go_ret
                  exact ⟨by first | rfl | (simp [errW_none, errW_some] <;> rfl) | (simp [*, errW_none, errW_some] <;> rfl), by repeat (first | (with_reducible first | exact HB.out | apply below_alloc | apply pw_below_drewN | apply below_drew1 | refine below_set ?_ GE360.out | refine below_set ?_ GE361.out) | exact HB.out)⟩
                 ·rw [if_neg c78] at H
                  have c78b0 : (t387 == x9_3) = false := beq_eq_false_iff_ne.mpr c78
                  have c78b1 : (t387 != x9_3) = true := bne_iff_ne.mpr c78
                  exact absurd ((Option.some.inj H).trans HRT.out) (by decide)
                ·rw [if_neg c76] at H
                 have c76b0 : (t386 == x8_23) = false := beq_eq_false_iff_ne.mpr c76
                 have c76b1 : (t386 != x8_23) = true := bne_iff_ne.mpr c76
                 exact absurd ((Option.some.inj H).trans HRT.out) (by decide)
               ·rw [if_neg c74] at H
                have c74b0 : (t385 == (t369.length : Int)) = false := beq_eq_false_iff_ne.mpr c74
                have c74b1 : (t385 != (t369.length : Int)) = true := bne_iff_ne.mpr c74
                exact absurd ((Option.some.inj H).trans HRT.out) (by decide)
              ·rw [if_neg c72] at H
               have c72b0 : (t383 == t384) = false := beq_eq_false_iff_ne.mpr c72
               have c72b1 : (t383 != t384) = true := bne_iff_ne.mpr c72
               exact absurd ((Option.some.inj H).trans HRT.out) (by decide)
             ·rw [if_neg c69] at H
              have c69b0 : (t381 == t382) = false := beq_eq_false_iff_ne.mpr c69
              have c69b1 : (t381 != t382) = true := bne_iff_ne.mpr c69
              exact absurd ((Option.some.inj H).trans HRT.out) (by decide)
            ·rw [if_neg c66] at H
             have c66b0 : (t380 == (wrap64 ((wrap64 (2 * (t363.length : Int))) + 1))) = false := beq_eq_false_iff_ne.mpr c66
             have c66b1 : (t380 != (wrap64 ((wrap64 (2 * (t363.length : Int))) + 1))) = true := bne_iff_ne.mpr c66
             exact absurd ((Option.some.inj H).trans HRT.out) (by decide)
           ·replace c64 := Bool.eq_false_iff.mpr c64
            subst c64
            have H1 : (some false) = some r := by rw [if_neg (show ¬ (false = true) by decide)] at H; exact H
            clear H
            have H := H1
            clear H1
            exact absurd ((Option.some.inj H).trans HRT.out) (by decide)
          ·replace c63 := Bool.eq_false_iff.mpr c63
           subst c63
           have H1 : (some false) = some r := by rw [if_neg (show ¬ (false = true) by decide)] at H; exact H
           clear H
           have H := H1
           clear H1
           exact absurd ((Option.some.inj H).trans HRT.out) (by decide)
end Go.Proofs.Ytoanmoddppmffaa.T
