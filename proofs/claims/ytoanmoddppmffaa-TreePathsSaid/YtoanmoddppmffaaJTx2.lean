/- What each function of the program comes to, and its walk: laid by a program. -/
import Derived.Test.YtoanmoddppmffaaJTx0
import Derived.Test.YtoanmoddppmffaaJTx1
namespace Go.Proofs.Ytoanmoddppmffaa.T
open Go.RowKit Go.Proofs.YtoanmoddppmffaaW.PrintWords Go.Proofs.YtoanmoddppmffaaW.PrintLast Go.Proofs.YtoanmoddppmffaaW.PrintMore
set_option linter.unusedVariables false
set_option linter.unusedSimpArgs false
mutual
def tree_Symbol.j0 : Nat → Int → Bool → List ByteArray → List (S52) → Option (Int)
 | 0, _, _, _, _ => none
 | k + 1, x1, x15, x107000, x107001 => if x15 = true then (some (-1)) else (if 0 ≤ x1 then (if x1 < (x107001.length : Int) then (if ((rd_T52 x107001 x1).f1) ≥ 0 then (tree_Symbol.j1 k (decide (((rd_T52 x107001 x1).f1) < (x107000.length : Int))) x107000 x107001 ((rd_T52 x107001 x1).f0) ((rd_T52 x107001 x1).f1) ((rd_T52 x107001 x1).f2) ((rd_T52 x107001 x1).f3)) else (tree_Symbol.j1 k false x107000 x107001 ((rd_T52 x107001 x1).f0) ((rd_T52 x107001 x1).f1) ((rd_T52 x107001 x1).f2) ((rd_T52 x107001 x1).f3))) else (none)) else (none))
def tree_Symbol.j1 : Nat → Bool → List ByteArray → List (S52) → Int → Int → Int → ByteArray → Option (Int)
 | 0, _, _, _, _, _, _, _ => none
 | k + 1, x6, x107000, x107001, x109000, x109001, x109002, x109003 => if x109000 = 1 then (tree_Symbol.j2 k x6 false x107000 x107001 x109000 x109001 x109002 x109003) else (tree_Symbol.j2 k x6 (x109000 != 2) x107000 x107001 x109000 x109001 x109002 x109003)
def tree_Symbol.j2 : Nat → Bool → Bool → List ByteArray → List (S52) → Int → Int → Int → ByteArray → Option (Int)
 | 0, _, _, _, _, _, _, _, _ => none
 | k + 1, x6, x32, x107000, x107001, x109000, x109001, x109002, x109003 => if x32 = true then ((tree_Symbols.f x107000 x107001).bind fun t109 => (some (wrap64 (t109 - 1)))) else (if x6 = true then (if x109000 = 2 then (some (wrap64 ((wrap64 (2 * x109001)) + 1))) else (some (wrap64 (2 * x109001)))) else (some (-1)))
end
def tree_Symbol.f (k : Nat) (l0_0 : List ByteArray) (l0_1 : List (S52)) (a1 : Int) : Option (Int) := if a1 < 0 then (tree_Symbol.j0 k a1 true l0_0 l0_1) else (tree_Symbol.j0 k a1 (decide (a1 ≥ (l0_1.length : Int))) l0_0 l0_1)
theorem tree_Symbol.mono_l : ∀ k, (∀ y0 y1 y2 y3, LeO (tree_Symbol.j0 k y0 y1 y2 y3) (tree_Symbol.j0 (k + 1) y0 y1 y2 y3)) ∧ (∀ y0 y1 y2 y3 y4 y5 y6, LeO (tree_Symbol.j1 k y0 y1 y2 y3 y4 y5 y6) (tree_Symbol.j1 (k + 1) y0 y1 y2 y3 y4 y5 y6)) ∧ (∀ y0 y1 y2 y3 y4 y5 y6 y7, LeO (tree_Symbol.j2 k y0 y1 y2 y3 y4 y5 y6 y7) (tree_Symbol.j2 (k + 1) y0 y1 y2 y3 y4 y5 y6 y7))
 | 0 => ⟨fun _ _ _ _ r h => by simp [tree_Symbol.j0] at h, fun _ _ _ _ _ _ _ r h => by simp [tree_Symbol.j1] at h, fun _ _ _ _ _ _ _ _ r h => by simp [tree_Symbol.j2] at h⟩
 | k + 1 => by
  obtain ⟨ih0, ih1, ih2⟩ := tree_Symbol.mono_l k
  refine ⟨?_, ?_, ?_⟩
  ·intro y0 y1 y2 y3
   unfold tree_Symbol.j0
   repeat' first
   | (with_reducible exact ih0 _ _ _ _)
   | (with_reducible exact ih1 _ _ _ _ _ _ _)
   | (with_reducible exact ih2 _ _ _ _ _ _ _ _)
   | (with_reducible exact LeO.refl _)
   | (with_reducible exact LeO.none _)
   | (with_reducible refine LeO.ite ?_ ?_)
   | (with_reducible refine LeO.bind ?_ (fun _ => ?_))
   | exact ih0 _ _ _ _
   | exact ih1 _ _ _ _ _ _ _
   | exact ih2 _ _ _ _ _ _ _ _
   | exact LeO.none _
   | refine LeO.ite ?_ ?_
   | refine LeO.bind ?_ (fun _ => ?_)
  ·intro y0 y1 y2 y3 y4 y5 y6
   unfold tree_Symbol.j1
   repeat' first
   | (with_reducible exact ih0 _ _ _ _)
   | (with_reducible exact ih1 _ _ _ _ _ _ _)
   | (with_reducible exact ih2 _ _ _ _ _ _ _ _)
   | (with_reducible exact LeO.refl _)
   | (with_reducible exact LeO.none _)
   | (with_reducible refine LeO.ite ?_ ?_)
   | (with_reducible refine LeO.bind ?_ (fun _ => ?_))
   | exact ih0 _ _ _ _
   | exact ih1 _ _ _ _ _ _ _
   | exact ih2 _ _ _ _ _ _ _ _
   | exact LeO.none _
   | refine LeO.ite ?_ ?_
   | refine LeO.bind ?_ (fun _ => ?_)
  ·intro y0 y1 y2 y3 y4 y5 y6 y7
   unfold tree_Symbol.j2
   repeat' first
   | (with_reducible exact ih0 _ _ _ _)
   | (with_reducible exact ih1 _ _ _ _ _ _ _)
   | (with_reducible exact ih2 _ _ _ _ _ _ _ _)
   | (with_reducible exact LeO.refl _)
   | (with_reducible exact LeO.none _)
   | (with_reducible refine LeO.ite ?_ ?_)
   | (with_reducible refine LeO.bind ?_ (fun _ => ?_))
   | exact ih0 _ _ _ _
   | exact ih1 _ _ _ _ _ _ _
   | exact ih2 _ _ _ _ _ _ _ _
   | exact LeO.none _
   | refine LeO.ite ?_ ?_
   | refine LeO.bind ?_ (fun _ => ?_)
theorem tree_Symbol.mono : ∀ a0 a1 a2 k, LeO (tree_Symbol.f k a0 a1 a2) (tree_Symbol.f (k + 1) a0 a1 a2) := by
 intro a0 a1 a2 k
 obtain ⟨ih0, ih1, ih2⟩ := tree_Symbol.mono_l k
 unfold tree_Symbol.f
 repeat' first
   | (with_reducible exact ih0 _ _ _ _)
   | (with_reducible exact ih1 _ _ _ _ _ _ _)
   | (with_reducible exact ih2 _ _ _ _ _ _ _ _)
   | (with_reducible exact LeO.refl _)
   | (with_reducible exact LeO.none _)
   | (with_reducible refine LeO.ite ?_ ?_)
   | (with_reducible refine LeO.bind ?_ (fun _ => ?_))
   | exact ih0 _ _ _ _
   | exact ih1 _ _ _ _ _ _ _
   | exact ih2 _ _ _ _ _ _ _ _
   | exact LeO.none _
   | refine LeO.ite ?_ ?_
   | refine LeO.bind ?_ (fun _ => ?_)
set_option maxHeartbeats 8000000 in
set_option maxRecDepth 100000 in
theorem tree_Symbol.calls (k : Nat) (A0_0 : Option Addr) (c0_0 : Nat) (l0_0 : List ByteArray) (A0_1 : Option Addr) (c0_1 : Nat) (l0_1 : List (S52)) (a1 : Int) (r : Int) (w : World) (hr0_0 : Kd.C Kd.string w A0_0 l0_0.length l0_0) (hc0_0 : l0_0.length ≤ c0_0) (hr0_1 : Kd.C k52 w A0_1 l0_1.length l0_1) (hc0_1 : l0_1.length ≤ c0_1) (h : tree_Symbol.f k l0_0 l0_1 a1 = some r) :
  Calls Try.prog 16 #[.agg #[.slice A0_0 l0_0.length c0_0, .slice A0_1 l0_1.length c0_1], .int .i64 a1] w fun e w' => e = .returned (.int .i64 r) ∧ Below w.heap.size w w' := by
 have hu25 := Try.underlying25
 have hu52 := Try.underlying52
 have HR0_0 := Aside0.mk hr0_0
 have HC0_0 := Aside0.mk hc0_0
 clear hr0_0 hc0_0
 have HR0_1 := Aside0.mk hr0_1
 have HC0_1 := Aside0.mk hc0_1
 clear hr0_1 hc0_1
 have HB := Aside0.mk (Below.refl w.heap.size w)
 have H : (if a1 < 0 then (tree_Symbol.j0 k a1 true l0_0 l0_1) else (tree_Symbol.j0 k a1 (decide (a1 ≥ (l0_1.length : Int))) l0_0 l0_1)) = some r := h
 clear h
 have HC3 := Aside0.mk H
 clear H
 go_enter Try.func16, Try.ntmps16
 go_upto_region 1 with (first | ((with_reducible refine gate_dst (N := 2) rfl ?_); (try (refine gate_guard (by rfl) ?_; dsimp only)); refine box_event ?hg (N := 2) ?hd (cs := #[.slice A0_0 l0_0.length c0_0, .slice A0_1 l0_1.length c0_1]) (t := 25) ?hr ?_; (case hd => rfl); (case hg => rfl); (case hr => first | (go_simp; done) | (go_simp; rfl)); intro gb106 hg w4 hbox hb; have n0_ := Aside0.mk (below_step (bb_ HB.out) hb); have n1_ := Aside0.mk (hbox); have n2_ := Aside0.mk ((by rw [hg]; exact (below_size (bb_ HB.out)) : w.heap.size ≤ gb106)); have n3_ := Aside0.mk ((by rw [hg]; exact (below_size (bb_ HB.out)) : w.heap.size ≤ gb106)); clear HB; have HB := n0_; have BK106 := n1_; have GW106 := n2_; have GE106 := n3_; clear n0_ n1_ n2_ n3_; clear hb hbox hg))
 (try simp only [Act.put, List.setIfInBounds_toArray, List.set_cons_zero, List.set_cons_succ])
 go_cut [15] (fun v15 wc => ∃ (kq : Nat) (x15_2 : Bool), v15 = .bool x15_2 ∧ Aside0 (tree_Symbol.j0 kq a1 x15_2 l0_0 l0_1 = some r) ∧ Aside0 (kq ≤ k) ∧ Aside0 (wc.heap[gb106]? = some (.cells #[(.slice A0_0 l0_0.length c0_0), (.slice A0_1 l0_1.length c0_1)] 25 (0, 0))) ∧ Aside0 (Below w.heap.size w wc))
 case first =>
  have H := HC3.out
  clear HC3
  by_cases c5 : a1 < 0
  ·rw [if_pos c5] at H
   have c5b0 : decide (a1 < 0) = true := decide_eq_true c5
   clear c5
   (first | rw [c5b0] | (simp only [i64_w, i32_w]; rw [c5b0]) | skip)
   have H' := Aside0.mk H
   clear H
   go_wp2
   go_meet
   case rel => exact ⟨_, (true), sm_, H', ⟨by first | omega | exact Nat.le_refl _⟩, ⟨bk_ BK106.out⟩, ⟨bs_ HB.out GE106.out⟩⟩
  ·rw [if_neg c5] at H
   have c5b0 : decide (a1 < 0) = false := decide_eq_false c5
   clear c5
   (first | rw [c5b0] | (simp only [i64_w, i32_w]; rw [c5b0]) | skip)
   have H' := Aside0.mk H
   clear H
   have hcz6_0 : w4.cell? ⟨gb106, 0, none⟩ = some (.slice A0_0 l0_0.length c0_0) := (blk_cell BK106.out 0).trans rfl
   have hcz6_1 : w4.cell? ⟨gb106, 1, none⟩ = some (.slice A0_1 l0_1.length c0_1) := (blk_cell BK106.out 1).trans rfl
   have hfz6_0 := blk_frozen BK106.out 0
   have hfz6_1 := blk_frozen BK106.out 1
   go_wp2
   go_meet
   case rel => exact ⟨_, (decide (a1 ≥ (l0_1.length : Int))), sm_, H', ⟨by first | omega | exact Nat.le_refl _⟩, ⟨bk_ BK106.out⟩, ⟨bs_ HB.out GE106.out⟩⟩
 case rest =>
  clear HC3
  try clear c1
  try clear p2
  try clear c5
  try clear c5b0
  try clear hcz6_0
  try clear hcz6_1
  try clear hfz6_0
  try clear hfz6_1
  obtain ⟨kq, x15_2, rfl, HA, HJ2, BK106, HB⟩ := hcut
  cases kq with
  | zero => exact absurd HA.out (by simp [tree_Symbol.j0])
  | succ kj2 =>
   have H := HA.out
   clear HA
   simp only [tree_Symbol.j0] at H
   by_cases c7 : x15_2 = true
   ·subst c7
    rw [if_pos rfl] at H
    have H1 := H
    clear H
    have H := H1
    clear H1
    obtain rfl := Option.some.inj H
    go_wp2
    go_ret
    exact ⟨by first | rfl | (simp [errW_none, errW_some] <;> rfl) | (simp [*, errW_none, errW_some] <;> rfl), bs_ HB.out GE106.out⟩
   ·replace c7 := Bool.eq_false_iff.mpr c7
    subst c7
    rw [if_neg (show ¬ (false = true) by decide)] at H
    have H1 := H
    clear H
    have H := H1
    clear H1
    by_cases c8 : 0 ≤ a1
    ·rw [if_pos c8] at H
     have c8b0 : decide (0 ≤ a1) = true := decide_eq_true c8
     clear c8
     by_cases c9 : a1 < (l0_1.length : Int)
     ·rw [if_pos c9] at H
      have c9b0 : decide (a1 < (l0_1.length : Int)) = true := decide_eq_true c9
      clear c9
      have HC10 := Aside0.mk H
      clear H
      have hcz11_0 : wc.cell? ⟨gb106, 0, none⟩ = some (.slice A0_0 l0_0.length c0_0) := (blk_cell BK106.out 0).trans rfl
      have hcz11_1 : wc.cell? ⟨gb106, 1, none⟩ = some (.slice A0_1 l0_1.length c0_1) := (blk_cell BK106.out 1).trans rfl
      have hfz11_0 := blk_frozen BK106.out 0
      have hfz11_1 := blk_frozen BK106.out 1
      have p107 : 0 ≤ (a1 : Int) := of_decide_eq_true as_
      have q107 : a1 < (l0_1.length : Int) := of_decide_eq_true as_
      obtain ⟨ad107, e107, hx107_0, hx107_1, hx107_2, hx107_3⟩ := at_T52 HR0_1.out a1 p107 q107
      cases e107
      replace hx107_0 := (HB.out.cell (World.block_lt_of_cell? w _ hx107_0)).trans hx107_0
      replace hx107_1 := (HB.out.cell (World.block_lt_of_cell? w _ hx107_1)).trans hx107_1
      replace hx107_2 := (HB.out.cell (World.block_lt_of_cell? w _ hx107_2)).trans hx107_2
      replace hx107_3 := (HB.out.cell (World.block_lt_of_cell? w _ hx107_3)).trans hx107_3
      replace p107 := eq_true p107
      replace q107 := eq_true q107
      go_upto_region 4 with (first | ((with_reducible refine gate_dst (N := 5) rfl ?_); (try (refine gate_guard (by rfl) ?_; dsimp only)); refine box_event ?hg (N := 5) ?hd (cs := #[.int .i64 0, .int .i64 0, .int .i64 0, .string (⟨#[]⟩ : ByteArray)]) (t := 52) ?hr ?_; (case hd => rfl); (case hg => rfl); (case hr => first | (go_simp; done) | (go_simp; rfl)); intro gb108 hg w12 hbox hb; have n0_ := Aside0.mk (blk_below (g := gb106) (o := .cells #[.slice A0_0 l0_0.length c0_0, .slice (some ad107) l0_1.length c0_1] 25 (0, 0)) (bk_ BK106.out) hb); have n1_ := Aside0.mk (below_step (bs_ HB.out GE106.out) hb); have n2_ := Aside0.mk (hbox); have n3_ := Aside0.mk ((by rw [hg]; exact (below_size (bs_ HB.out GE106.out)) : w.heap.size ≤ gb108)); have n4_ := Aside0.mk ((by rw [hg]; exact (below_size (bs_ HB.out GE106.out)) : w.heap.size ≤ gb108)); have n5_ := Aside0.mk ((by rw [hg]; exact Nat.ne_of_lt (blk_lt (g := gb106) (o := .cells #[.slice A0_0 l0_0.length c0_0, .slice (some ad107) l0_1.length c0_1] 25 (0, 0)) (bk_ BK106.out)) : gb106 ≠ gb108)); have n6_ := Aside0.mk ((by rw [hg]; exact Nat.ne_of_gt (blk_lt (g := gb106) (o := .cells #[.slice A0_0 l0_0.length c0_0, .slice (some ad107) l0_1.length c0_1] 25 (0, 0)) (bk_ BK106.out)) : gb108 ≠ gb106)); clear BK106; clear HB; have BK106 := n0_; have HB := n1_; have BK108 := n2_; have GW108 := n3_; have GE108 := n4_; have NB106_108 := n5_; have NB108_106 := n6_; clear n0_ n1_ n2_ n3_ n4_ n5_ n6_; clear hb hbox hg; have hnb13 := NB108_106.out; have hnc13 := NB106_108.out; have hcz14_0 : w12.cell? ⟨gb108, 0, none⟩ = some (.int .i64 0) := (blk_cell BK108.out 0).trans rfl; have hcz14_1 : w12.cell? ⟨gb108, 1, none⟩ = some (.int .i64 0) := (blk_cell BK108.out 1).trans rfl; have hcz14_2 : w12.cell? ⟨gb108, 2, none⟩ = some (.int .i64 0) := (blk_cell BK108.out 2).trans rfl; have hcz14_3 : w12.cell? ⟨gb108, 3, none⟩ = some (.string (⟨#[]⟩ : ByteArray)) := (blk_cell BK108.out 3).trans rfl; have hfz14_0 := blk_frozen BK108.out 0; have hfz14_1 := blk_frozen BK108.out 1; have hfz14_2 := blk_frozen BK108.out 2; have hfz14_3 := blk_frozen BK108.out 3))
      (try simp only [Act.put, List.setIfInBounds_toArray, List.set_cons_zero, List.set_cons_succ])
      go_cut [6] (fun v6 wc => ∃ (kq : Nat) (x6_9 : Bool), v6 = .bool x6_9 ∧ Aside0 (tree_Symbol.j1 kq x6_9 l0_0 l0_1 ((rd_T52 l0_1 a1).f0) ((rd_T52 l0_1 a1).f1) ((rd_T52 l0_1 a1).f2) ((rd_T52 l0_1 a1).f3) = some r) ∧ Aside0 (kq ≤ kj2) ∧ Aside0 (wc.heap[gb106]? = some (.cells #[(.slice A0_0 l0_0.length c0_0), (.slice (some ad107) l0_1.length c0_1)] 25 (0, 0))) ∧ Aside0 (wc.heap[gb108]? = some (.cells #[.int .i64 ((rd_T52 l0_1 a1).f0), .int .i64 ((rd_T52 l0_1 a1).f1), .int .i64 ((rd_T52 l0_1 a1).f2), .string ((rd_T52 l0_1 a1).f3)] 52 (0, 0))) ∧ Aside0 (Below w.heap.size w wc))
      case first =>
       have H := HC10.out
       clear HC10
       by_cases c15 : ((rd_T52 l0_1 a1).f1) ≥ 0
       ·rw [if_pos c15] at H
        have c15b0 : decide (0 ≤ ((rd_T52 l0_1 a1).f1)) = true := decide_eq_true c15
        clear c15
        (first | rw [c15b0] | (simp only [i64_w, i32_w]; rw [c15b0]) | skip)
        have H' := Aside0.mk H
        clear H
        have hnb16 := NB108_106.out
        have hnc16 := NB106_108.out
        have hcz17_0 : w12.cell? ⟨gb108, 0, none⟩ = some (.int .i64 0) := (blk_cell BK108.out 0).trans rfl
        have hcz17_1 : w12.cell? ⟨gb108, 1, none⟩ = some (.int .i64 0) := (blk_cell BK108.out 1).trans rfl
        have hcz17_2 : w12.cell? ⟨gb108, 2, none⟩ = some (.int .i64 0) := (blk_cell BK108.out 2).trans rfl
        have hcz17_3 : w12.cell? ⟨gb108, 3, none⟩ = some (.string (⟨#[]⟩ : ByteArray)) := (blk_cell BK108.out 3).trans rfl
        have hfz17_0 := blk_frozen BK108.out 0
        have hfz17_1 := blk_frozen BK108.out 1
        have hfz17_2 := blk_frozen BK108.out 2
        have hfz17_3 := blk_frozen BK108.out 3
        have hcz18_0 : w12.cell? ⟨gb106, 0, none⟩ = some (.slice A0_0 l0_0.length c0_0) := (blk_cell BK106.out 0).trans rfl
        have hcz18_1 : w12.cell? ⟨gb106, 1, none⟩ = some (.slice (some ad107) l0_1.length c0_1) := (blk_cell BK106.out 1).trans rfl
        have hfz18_0 := blk_frozen BK106.out 0
        have hfz18_1 := blk_frozen BK106.out 1
        go_wp2
        go_meet
        case rel => exact ⟨_, (decide (((rd_T52 l0_1 a1).f1) < (l0_0.length : Int))), sm_, H', ⟨by have := HJ2.out; first | omega | exact Nat.le_refl _⟩, ⟨by (with_reducible repeat (first | refine blk_drewN ?_ _ | refine blk_drew ?_ | refine blk_alloc ?_ _)); refine blk_far ?_ NB106_108.out _; (with_reducible repeat (first | refine blk_drewN ?_ _ | refine blk_drew ?_ | refine blk_alloc ?_ _)); refine blk_far ?_ NB106_108.out _; (with_reducible repeat (first | refine blk_drewN ?_ _ | refine blk_drew ?_ | refine blk_alloc ?_ _)); refine blk_far ?_ NB106_108.out _; (with_reducible repeat (first | refine blk_drewN ?_ _ | refine blk_drew ?_ | refine blk_alloc ?_ _)); refine blk_far ?_ NB106_108.out _; exact bk_ BK106.out⟩, ⟨by (with_reducible repeat (first | refine blk_drewN ?_ _ | refine blk_drew ?_ | refine blk_alloc ?_ _)); refine blk_put (cs := #[.int .i64 ((rd_T52 l0_1 a1).f0), .int .i64 ((rd_T52 l0_1 a1).f1), .int .i64 ((rd_T52 l0_1 a1).f2), .string (⟨#[]⟩ : ByteArray)]) ?_ 3 _ rfl; (with_reducible repeat (first | refine blk_drewN ?_ _ | refine blk_drew ?_ | refine blk_alloc ?_ _)); refine blk_put (cs := #[.int .i64 ((rd_T52 l0_1 a1).f0), .int .i64 ((rd_T52 l0_1 a1).f1), .int .i64 0, .string (⟨#[]⟩ : ByteArray)]) ?_ 2 _ rfl; (with_reducible repeat (first | refine blk_drewN ?_ _ | refine blk_drew ?_ | refine blk_alloc ?_ _)); refine blk_put (cs := #[.int .i64 ((rd_T52 l0_1 a1).f0), .int .i64 0, .int .i64 0, .string (⟨#[]⟩ : ByteArray)]) ?_ 1 _ rfl; (with_reducible repeat (first | refine blk_drewN ?_ _ | refine blk_drew ?_ | refine blk_alloc ?_ _)); refine blk_put (cs := #[.int .i64 0, .int .i64 0, .int .i64 0, .string (⟨#[]⟩ : ByteArray)]) ?_ 0 _ rfl; exact bk_ BK108.out⟩, ⟨bt_ HB.out GE106.out GE108.out⟩⟩
       ·rw [if_neg c15] at H
        have c15b0 : decide (0 ≤ ((rd_T52 l0_1 a1).f1)) = false := decide_eq_false c15
        clear c15
        (first | rw [c15b0] | (simp only [i64_w, i32_w]; rw [c15b0]) | skip)
        have H' := Aside0.mk H
        clear H
        have hnb19 := NB108_106.out
        have hnc19 := NB106_108.out
        have hcz20_0 : w12.cell? ⟨gb108, 0, none⟩ = some (.int .i64 0) := (blk_cell BK108.out 0).trans rfl
        have hcz20_1 : w12.cell? ⟨gb108, 1, none⟩ = some (.int .i64 0) := (blk_cell BK108.out 1).trans rfl
        have hcz20_2 : w12.cell? ⟨gb108, 2, none⟩ = some (.int .i64 0) := (blk_cell BK108.out 2).trans rfl
        have hcz20_3 : w12.cell? ⟨gb108, 3, none⟩ = some (.string (⟨#[]⟩ : ByteArray)) := (blk_cell BK108.out 3).trans rfl
        have hfz20_0 := blk_frozen BK108.out 0
        have hfz20_1 := blk_frozen BK108.out 1
        have hfz20_2 := blk_frozen BK108.out 2
        have hfz20_3 := blk_frozen BK108.out 3
        go_wp2
        go_meet
        case rel => exact ⟨_, (false), sm_, H', ⟨by have := HJ2.out; first | omega | exact Nat.le_refl _⟩, ⟨by (with_reducible repeat (first | refine blk_drewN ?_ _ | refine blk_drew ?_ | refine blk_alloc ?_ _)); refine blk_far ?_ NB106_108.out _; (with_reducible repeat (first | refine blk_drewN ?_ _ | refine blk_drew ?_ | refine blk_alloc ?_ _)); refine blk_far ?_ NB106_108.out _; (with_reducible repeat (first | refine blk_drewN ?_ _ | refine blk_drew ?_ | refine blk_alloc ?_ _)); refine blk_far ?_ NB106_108.out _; (with_reducible repeat (first | refine blk_drewN ?_ _ | refine blk_drew ?_ | refine blk_alloc ?_ _)); refine blk_far ?_ NB106_108.out _; exact bk_ BK106.out⟩, ⟨by (with_reducible repeat (first | refine blk_drewN ?_ _ | refine blk_drew ?_ | refine blk_alloc ?_ _)); refine blk_put (cs := #[.int .i64 ((rd_T52 l0_1 a1).f0), .int .i64 ((rd_T52 l0_1 a1).f1), .int .i64 ((rd_T52 l0_1 a1).f2), .string (⟨#[]⟩ : ByteArray)]) ?_ 3 _ rfl; (with_reducible repeat (first | refine blk_drewN ?_ _ | refine blk_drew ?_ | refine blk_alloc ?_ _)); refine blk_put (cs := #[.int .i64 ((rd_T52 l0_1 a1).f0), .int .i64 ((rd_T52 l0_1 a1).f1), .int .i64 0, .string (⟨#[]⟩ : ByteArray)]) ?_ 2 _ rfl; (with_reducible repeat (first | refine blk_drewN ?_ _ | refine blk_drew ?_ | refine blk_alloc ?_ _)); refine blk_put (cs := #[.int .i64 ((rd_T52 l0_1 a1).f0), .int .i64 0, .int .i64 0, .string (⟨#[]⟩ : ByteArray)]) ?_ 1 _ rfl; (with_reducible repeat (first | refine blk_drewN ?_ _ | refine blk_drew ?_ | refine blk_alloc ?_ _)); refine blk_put (cs := #[.int .i64 0, .int .i64 0, .int .i64 0, .string (⟨#[]⟩ : ByteArray)]) ?_ 0 _ rfl; exact bk_ BK108.out⟩, ⟨bt_ HB.out GE106.out GE108.out⟩⟩
      case rest =>
       clear HC10
       try clear c1
       try clear p1
       try clear q1
       try clear hx1
       try clear p2
       try clear c5
       try clear c5b0
       try clear c7
       try clear c8
       try clear c8b0
       try clear c9
       try clear c9b0
       try clear p10
       try clear q10
       try clear hx10
       try clear c13
       try clear c15
       try clear c15b0
       try clear c16
       try clear c19
       try clear hcz11_0
       try clear hcz11_1
       try clear hcz14_0
       try clear hcz14_1
       try clear hcz14_2
       try clear hcz14_3
       try clear hcz17_0
       try clear hcz17_1
       try clear hcz17_2
       try clear hcz17_3
       try clear hcz18_0
       try clear hcz18_1
       try clear hcz20_0
       try clear hcz20_1
       try clear hcz20_2
       try clear hcz20_3
       try clear hcz6_0
       try clear hcz6_1
       try clear hfz11_0
       try clear hfz11_1
       try clear hfz14_0
       try clear hfz14_1
       try clear hfz14_2
       try clear hfz14_3
       try clear hfz17_0
       try clear hfz17_1
       try clear hfz17_2
       try clear hfz17_3
       try clear hfz18_0
       try clear hfz18_1
       try clear hfz20_0
       try clear hfz20_1
       try clear hfz20_2
       try clear hfz20_3
       try clear hfz6_0
       try clear hfz6_1
       try clear hx107_0
       try clear hx107_1
       try clear hx107_2
       try clear hx107_3
       try clear p107
       try clear p2
       try clear q107
       obtain ⟨kq, x6_9, rfl, HA, HJ9, BK106, BK108, HB⟩ := hcut
       cases kq with
       | zero => exact absurd HA.out (by simp [tree_Symbol.j1])
       | succ kj9 =>
        have H := HA.out
        clear HA
        simp only [tree_Symbol.j1] at H
        have HC21 := Aside0.mk H
        clear H
        go_upto_region 5 with (fail)
        go_cut [32] (fun v32 wc => ∃ (kq : Nat) (x32_20 : Bool), v32 = .bool x32_20 ∧ Aside0 (tree_Symbol.j2 kq x6_9 x32_20 l0_0 l0_1 ((rd_T52 l0_1 a1).f0) ((rd_T52 l0_1 a1).f1) ((rd_T52 l0_1 a1).f2) ((rd_T52 l0_1 a1).f3) = some r) ∧ Aside0 (kq ≤ kj9) ∧ Aside0 (wc.heap[gb106]? = some (.cells #[(.slice A0_0 l0_0.length c0_0), (.slice (some ad107) l0_1.length c0_1)] 25 (0, 0))) ∧ Aside0 (wc.heap[gb108]? = some (.cells #[.int .i64 ((rd_T52 l0_1 a1).f0), .int .i64 ((rd_T52 l0_1 a1).f1), .int .i64 ((rd_T52 l0_1 a1).f2), .string ((rd_T52 l0_1 a1).f3)] 52 (0, 0))) ∧ Aside0 (Below w.heap.size w wc))
        case first =>
         have H := HC21.out
         clear HC21
         by_cases c22 : ((rd_T52 l0_1 a1).f0) = 1
         ·rw [if_pos c22] at H
          have c22b0 : (((rd_T52 l0_1 a1).f0) == 1) = true := beq_iff_eq.mpr c22
          have c22b1 : (((rd_T52 l0_1 a1).f0) != 1) = false := bne_eq_false_iff_eq.mpr c22
          clear c22
          (first | rw [c22b0] | (simp only [i64_w, i32_w]; rw [c22b0]) | skip)
          have H' := Aside0.mk H
          clear H
          have hnb23 := NB108_106.out
          have hnc23 := NB106_108.out
          have hcz24_0 : wc.cell? ⟨gb108, 0, none⟩ = some (.int .i64 ((rd_T52 l0_1 a1).f0)) := (blk_cell BK108.out 0).trans rfl
          have hcz24_1 : wc.cell? ⟨gb108, 1, none⟩ = some (.int .i64 ((rd_T52 l0_1 a1).f1)) := (blk_cell BK108.out 1).trans rfl
          have hcz24_2 : wc.cell? ⟨gb108, 2, none⟩ = some (.int .i64 ((rd_T52 l0_1 a1).f2)) := (blk_cell BK108.out 2).trans rfl
          have hcz24_3 : wc.cell? ⟨gb108, 3, none⟩ = some (.string ((rd_T52 l0_1 a1).f3)) := (blk_cell BK108.out 3).trans rfl
          have hfz24_0 := blk_frozen BK108.out 0
          have hfz24_1 := blk_frozen BK108.out 1
          have hfz24_2 := blk_frozen BK108.out 2
          have hfz24_3 := blk_frozen BK108.out 3
          go_wp2
          go_meet
          case rel => exact ⟨_, (false), sm_, H', ⟨by have := HJ2.out; have := HJ9.out; first | omega | exact Nat.le_refl _⟩, ⟨bk_ BK106.out⟩, ⟨bk_ BK108.out⟩, ⟨bt_ HB.out GE106.out GE108.out⟩⟩
         ·rw [if_neg c22] at H
          have c22b0 : (((rd_T52 l0_1 a1).f0) == 1) = false := beq_eq_false_iff_ne.mpr c22
          have c22b1 : (((rd_T52 l0_1 a1).f0) != 1) = true := bne_iff_ne.mpr c22
          (first | rw [c22b0] | (simp only [i64_w, i32_w]; rw [c22b0]) | skip)
          have H' := Aside0.mk H
          clear H
          have hnb25 := NB108_106.out
          have hnc25 := NB106_108.out
          have hcz26_0 : wc.cell? ⟨gb108, 0, none⟩ = some (.int .i64 ((rd_T52 l0_1 a1).f0)) := (blk_cell BK108.out 0).trans rfl
          have hcz26_1 : wc.cell? ⟨gb108, 1, none⟩ = some (.int .i64 ((rd_T52 l0_1 a1).f1)) := (blk_cell BK108.out 1).trans rfl
          have hcz26_2 : wc.cell? ⟨gb108, 2, none⟩ = some (.int .i64 ((rd_T52 l0_1 a1).f2)) := (blk_cell BK108.out 2).trans rfl
          have hcz26_3 : wc.cell? ⟨gb108, 3, none⟩ = some (.string ((rd_T52 l0_1 a1).f3)) := (blk_cell BK108.out 3).trans rfl
          have hfz26_0 := blk_frozen BK108.out 0
          have hfz26_1 := blk_frozen BK108.out 1
          have hfz26_2 := blk_frozen BK108.out 2
          have hfz26_3 := blk_frozen BK108.out 3
          go_wp2
          go_meet
          case rel => exact ⟨_, ((((rd_T52 l0_1 a1).f0) != 2)), sm_, H', ⟨by have := HJ2.out; have := HJ9.out; first | omega | exact Nat.le_refl _⟩, ⟨bk_ BK106.out⟩, ⟨bk_ BK108.out⟩, ⟨bt_ HB.out GE106.out GE108.out⟩⟩
        case rest =>
         clear HC21
         try clear c1
         try clear p1
         try clear q1
         try clear hx1
         try clear c2
         try clear p2
         try clear c5
         try clear c5b0
         try clear c7
         try clear c8
         try clear c8b0
         try clear c9
         try clear c9b0
         try clear p10
         try clear q10
         try clear hx10
         try clear c13
         try clear c15
         try clear c15b0
         try clear c16
         try clear c19
         try clear c22
         try clear c22b0
         try clear c22b1
         try clear c23
         try clear c25
         try clear hcz11_0
         try clear hcz11_1
         try clear hcz14_0
         try clear hcz14_1
         try clear hcz14_2
         try clear hcz14_3
         try clear hcz17_0
         try clear hcz17_1
         try clear hcz17_2
         try clear hcz17_3
         try clear hcz18_0
         try clear hcz18_1
         try clear hcz20_0
         try clear hcz20_1
         try clear hcz20_2
         try clear hcz20_3
         try clear hcz24_0
         try clear hcz24_1
         try clear hcz24_2
         try clear hcz24_3
         try clear hcz26_0
         try clear hcz26_1
         try clear hcz26_2
         try clear hcz26_3
         try clear hcz6_0
         try clear hcz6_1
         try clear hfz11_0
         try clear hfz11_1
         try clear hfz14_0
         try clear hfz14_1
         try clear hfz14_2
         try clear hfz14_3
         try clear hfz17_0
         try clear hfz17_1
         try clear hfz17_2
         try clear hfz17_3
         try clear hfz18_0
         try clear hfz18_1
         try clear hfz20_0
         try clear hfz20_1
         try clear hfz20_2
         try clear hfz20_3
         try clear hfz24_0
         try clear hfz24_1
         try clear hfz24_2
         try clear hfz24_3
         try clear hfz26_0
         try clear hfz26_1
         try clear hfz26_2
         try clear hfz26_3
         try clear hfz6_0
         try clear hfz6_1
         try clear hx107_0
         try clear hx107_1
         try clear hx107_2
         try clear hx107_3
         try clear p1
         try clear p10
         try clear p107
         try clear p2
         try clear q1
         try clear q10
         try clear q107
         obtain ⟨kq, x32_20, rfl, HA, HJ20, BK106, BK108, HB⟩ := hcut
         cases kq with
         | zero => exact absurd HA.out (by simp [tree_Symbol.j2])
         | succ kj20 =>
          have H := HA.out
          clear HA
          simp only [tree_Symbol.j2] at H
          by_cases c27 : x32_20 = true
          ·subst c27
           rw [if_pos rfl] at H
           have H1 := H
           clear H
           have H := H1
           clear H1
           replace H := Option.bind_eq_some_iff.mp H
           obtain ⟨t109, A280, H⟩ := H
           try dsimp only at H
           have A28 := Aside0.mk A280
           clear A280
           obtain rfl := Option.some.inj H
           have hnb29 := NB106_108.out
           have hnc29 := NB108_106.out
           have hcz30_0 : wc.cell? ⟨gb106, 0, none⟩ = some (.slice A0_0 l0_0.length c0_0) := (blk_cell BK106.out 0).trans rfl
           have hcz30_1 : wc.cell? ⟨gb106, 1, none⟩ = some (.slice (some ad107) l0_1.length c0_1) := (blk_cell BK106.out 1).trans rfl
           have hfz30_0 := blk_frozen BK106.out 0
           have hfz30_1 := blk_frozen BK106.out 1
           go_wp2_with (first | ((with_reducible refine gate_callee (f := 15) rfl ?_); refine goesL_ (some 42) rfl rfl Try.func15 (by kernel_rfl) rfl #[.agg #[.slice A0_0 l0_0.length c0_0, .slice (some ad107) l0_1.length c0_1]] rfl ar_ ?_; (with_reducible refine (tree_Symbols.calls _ _ l0_0 _ _ l0_1 t109 _ ?side1 ?side2 ?side3 ?side4 A28.out).mono ?_); (case side1 => exact cc_ (Kd.C_below HR0_0.out HB.out)); (case side2 => exact HC0_0.out); (case side3 => exact cc_ (Kd.C_below HR0_1.out HB.out)); (case side4 => exact HC0_1.out); rintro e w31 ⟨rfl, hb⟩; refine ⟨_, rfl, ?_⟩; have n0_ := Aside0.mk (blk_below (g := gb106) (o := .cells #[.slice A0_0 l0_0.length c0_0, .slice (some ad107) l0_1.length c0_1] 25 (0, 0)) (bk_ BK106.out) hb); have n1_ := Aside0.mk (blk_below (g := gb108) (o := .cells #[.int .i64 ((rd_T52 l0_1 a1).f0), .int .i64 ((rd_T52 l0_1 a1).f1), .int .i64 ((rd_T52 l0_1 a1).f2), .string ((rd_T52 l0_1 a1).f3)] 52 (0, 0)) (bk_ BK108.out) hb); have n2_ := Aside0.mk (below_step (bt_ HB.out GE106.out GE108.out) hb); clear BK106; clear BK108; clear HB; have BK106 := n0_; have BK108 := n1_; have HB := n2_; clear n0_ n1_ n2_; (try clear hb); (try clear hb2); (try clear hk); (try clear hi)))
           go_ret
           exact ⟨by first | rfl | (simp [errW_none, errW_some] <;> rfl) | (simp [*, errW_none, errW_some] <;> rfl), bt_ HB.out GE106.out GE108.out⟩
          ·replace c27 := Bool.eq_false_iff.mpr c27
           subst c27
           rw [if_neg (show ¬ (false = true) by decide)] at H
           have H1 := H
           clear H
           have H := H1
           clear H1
           by_cases c32 : x6_9 = true
           ·subst c32
            rw [if_pos rfl] at H
            have H1 := H
            clear H
            have H := H1
            clear H1
            by_cases c33 : ((rd_T52 l0_1 a1).f0) = 2
            ·rw [if_pos c33] at H
             have c33b0 : (((rd_T52 l0_1 a1).f0) == 2) = true := beq_iff_eq.mpr c33
             have c33b1 : (((rd_T52 l0_1 a1).f0) != 2) = false := bne_eq_false_iff_eq.mpr c33
             clear c33
             obtain rfl := Option.some.inj H
             have hnb34 := NB108_106.out
             have hnc34 := NB106_108.out
             have hcz35_0 : wc.cell? ⟨gb108, 0, none⟩ = some (.int .i64 ((rd_T52 l0_1 a1).f0)) := (blk_cell BK108.out 0).trans rfl
             have hcz35_1 : wc.cell? ⟨gb108, 1, none⟩ = some (.int .i64 ((rd_T52 l0_1 a1).f1)) := (blk_cell BK108.out 1).trans rfl
             have hcz35_2 : wc.cell? ⟨gb108, 2, none⟩ = some (.int .i64 ((rd_T52 l0_1 a1).f2)) := (blk_cell BK108.out 2).trans rfl
             have hcz35_3 : wc.cell? ⟨gb108, 3, none⟩ = some (.string ((rd_T52 l0_1 a1).f3)) := (blk_cell BK108.out 3).trans rfl
             have hfz35_0 := blk_frozen BK108.out 0
             have hfz35_1 := blk_frozen BK108.out 1
             have hfz35_2 := blk_frozen BK108.out 2
             have hfz35_3 := blk_frozen BK108.out 3
             go_wp2
             go_ret
             exact ⟨by first | rfl | (simp [errW_none, errW_some] <;> rfl) | (simp [*, errW_none, errW_some] <;> rfl), bt_ HB.out GE106.out GE108.out⟩
            ·rw [if_neg c33] at H
             have c33b0 : (((rd_T52 l0_1 a1).f0) == 2) = false := beq_eq_false_iff_ne.mpr c33
             have c33b1 : (((rd_T52 l0_1 a1).f0) != 2) = true := bne_iff_ne.mpr c33
             obtain rfl := Option.some.inj H
             have hnb36 := NB108_106.out
             have hnc36 := NB106_108.out
             have hcz37_0 : wc.cell? ⟨gb108, 0, none⟩ = some (.int .i64 ((rd_T52 l0_1 a1).f0)) := (blk_cell BK108.out 0).trans rfl
             have hcz37_1 : wc.cell? ⟨gb108, 1, none⟩ = some (.int .i64 ((rd_T52 l0_1 a1).f1)) := (blk_cell BK108.out 1).trans rfl
             have hcz37_2 : wc.cell? ⟨gb108, 2, none⟩ = some (.int .i64 ((rd_T52 l0_1 a1).f2)) := (blk_cell BK108.out 2).trans rfl
             have hcz37_3 : wc.cell? ⟨gb108, 3, none⟩ = some (.string ((rd_T52 l0_1 a1).f3)) := (blk_cell BK108.out 3).trans rfl
             have hfz37_0 := blk_frozen BK108.out 0
             have hfz37_1 := blk_frozen BK108.out 1
             have hfz37_2 := blk_frozen BK108.out 2
             have hfz37_3 := blk_frozen BK108.out 3
             go_wp2
             go_ret
             exact ⟨by first | rfl | (simp [errW_none, errW_some] <;> rfl) | (simp [*, errW_none, errW_some] <;> rfl), bt_ HB.out GE106.out GE108.out⟩
           ·replace c32 := Bool.eq_false_iff.mpr c32
            subst c32
            rw [if_neg (show ¬ (false = true) by decide)] at H
            have H1 := H
            clear H
            have H := H1
            clear H1
            obtain rfl := Option.some.inj H
            go_wp2
            go_ret
            exact ⟨by first | rfl | (simp [errW_none, errW_some] <;> rfl) | (simp [*, errW_none, errW_some] <;> rfl), bt_ HB.out GE106.out GE108.out⟩
     ·rw [if_neg c9] at H
      exact absurd H (by simp)
    ·rw [if_neg c8] at H
     exact absurd H (by simp)
def tree_Degree.f (l0_0 : List ByteArray) (l0_1 : List (S52)) (a1 : Int) : Option (Int) := (tree_Children.f l0_0 l0_1 a1).bind fun t111 => (some (t111.length : Int))
set_option maxHeartbeats 8000000 in
set_option maxRecDepth 100000 in
theorem tree_Degree.calls (A0_0 : Option Addr) (c0_0 : Nat) (l0_0 : List ByteArray) (A0_1 : Option Addr) (c0_1 : Nat) (l0_1 : List (S52)) (a1 : Int) (r : Int) (w : World) (hr0_0 : Kd.C Kd.string w A0_0 l0_0.length l0_0) (hc0_0 : l0_0.length ≤ c0_0) (hr0_1 : Kd.C k52 w A0_1 l0_1.length l0_1) (hc0_1 : l0_1.length ≤ c0_1) (h : tree_Degree.f l0_0 l0_1 a1 = some r) :
  Calls Try.prog 19 #[.agg #[.slice A0_0 l0_0.length c0_0, .slice A0_1 l0_1.length c0_1], .int .i64 a1] w fun e w' => e = .returned (.int .i64 r) ∧ Below w.heap.size w w' := by
 have hu25 := Try.underlying25
 have HR0_0 := Aside0.mk hr0_0
 have HC0_0 := Aside0.mk hc0_0
 clear hr0_0 hc0_0
 have HR0_1 := Aside0.mk hr0_1
 have HC0_1 := Aside0.mk hc0_1
 clear hr0_1 hc0_1
 have HB := Aside0.mk (Below.refl w.heap.size w)
 have H : ((tree_Children.f l0_0 l0_1 a1).bind fun t111 => (some (t111.length : Int))) = some r := h
 clear h
 replace H := Option.bind_eq_some_iff.mp H
 obtain ⟨t111, A30, H⟩ := H
 try dsimp only at H
 have A3 := Aside0.mk A30
 clear A30
 obtain rfl := Option.some.inj H
 go_enter Try.func19, Try.ntmps19
 go_wp2_with (first | ((with_reducible refine gate_dst (N := 2) rfl ?_); refine box_event ?hg (N := 2) ?hd (cs := #[.slice A0_0 l0_0.length c0_0, .slice A0_1 l0_1.length c0_1]) (t := 25) ?hr ?_; (case hd => rfl); (case hg => rfl); (case hr => first | (go_simp; done) | (go_simp; rfl)); intro gb110 hg w4 hbox hb; have n0_ := Aside0.mk (below_step (bb_ HB.out) hb); have n1_ := Aside0.mk (hbox); have n2_ := Aside0.mk ((by rw [hg]; exact (below_size (bb_ HB.out)) : w.heap.size ≤ gb110)); have n3_ := Aside0.mk ((by rw [hg]; exact (below_size (bb_ HB.out)) : w.heap.size ≤ gb110)); clear HB; have HB := n0_; have BK110 := n1_; have GW110 := n2_; have GE110 := n3_; clear n0_ n1_ n2_ n3_; clear hb hbox hg; have hcz5_0 : w4.cell? ⟨gb110, 0, none⟩ = some (.slice A0_0 l0_0.length c0_0) := (blk_cell BK110.out 0).trans rfl; have hcz5_1 : w4.cell? ⟨gb110, 1, none⟩ = some (.slice A0_1 l0_1.length c0_1) := (blk_cell BK110.out 1).trans rfl; have hfz5_0 := blk_frozen BK110.out 0; have hfz5_1 := blk_frozen BK110.out 1) | ((with_reducible refine gate_callee (f := 14) rfl ?_); refine goesL_ (some 7) rfl rfl Try.func14 (by kernel_rfl) rfl #[.agg #[.slice A0_0 l0_0.length c0_0, .slice A0_1 l0_1.length c0_1], .int .i64 a1] rfl ar_ ?_; (with_reducible refine (tree_Children.calls _ _ l0_0 _ _ l0_1 a1 t111 _ ?side1 ?side2 ?side3 ?side4 A3.out).mono ?_); (case side1 => exact cc_ (Kd.C_below HR0_0.out HB.out)); (case side2 => exact HC0_0.out); (case side3 => exact cc_ (Kd.C_below HR0_1.out HB.out)); (case side4 => exact HC0_1.out); rintro e w6 ⟨v112, rfl, ho0, hb⟩; refine ⟨_, rfl, ?_⟩; have n0_ := Aside0.mk (Kd.R_lower ho0 (below_size (bs_ HB.out GE110.out))); have n1_ := Aside0.mk (blk_below (g := gb110) (o := .cells #[.slice A0_0 l0_0.length c0_0, .slice A0_1 l0_1.length c0_1] 25 (0, 0)) (bk_ BK110.out) hb); have n2_ := Aside0.mk (below_step (bs_ HB.out GE110.out) hb); clear BK110; clear HB; have HO113 := n0_; have BK110 := n1_; have HB := n2_; clear n0_ n1_ n2_; (try clear hb); (try clear hb2); (try clear hk); (try clear hi); (try clear ho0); obtain ⟨Ao7, co7, eo7⟩ := Kd.R_slice HO113.out; subst eo7))
 go_ret
 exact ⟨by first | rfl | (simp [errW_none, errW_some] <;> rfl) | (simp [*, errW_none, errW_some] <;> rfl), bs_ HB.out GE110.out⟩
def tree_Child.f (l0_0 : List ByteArray) (l0_1 : List (S52)) (a1 : Int) (a2 : Int) : Option (Int) := (tree_Children.f l0_0 l0_1 a1).bind fun t115 => (if a2 < 0 then (some (-1)) else (if a2 ≥ (t115.length : Int) then (some (-1)) else (if 0 ≤ a2 then (if a2 < (t115.length : Int) then (some (rd t115 a2)) else (none)) else (none))))
set_option maxHeartbeats 8000000 in
set_option maxRecDepth 100000 in
theorem tree_Child.calls (A0_0 : Option Addr) (c0_0 : Nat) (l0_0 : List ByteArray) (A0_1 : Option Addr) (c0_1 : Nat) (l0_1 : List (S52)) (a1 : Int) (a2 : Int) (r : Int) (w : World) (hr0_0 : Kd.C Kd.string w A0_0 l0_0.length l0_0) (hc0_0 : l0_0.length ≤ c0_0) (hr0_1 : Kd.C k52 w A0_1 l0_1.length l0_1) (hc0_1 : l0_1.length ≤ c0_1) (h : tree_Child.f l0_0 l0_1 a1 a2 = some r) :
  Calls Try.prog 20 #[.agg #[.slice A0_0 l0_0.length c0_0, .slice A0_1 l0_1.length c0_1], .int .i64 a1, .int .i64 a2] w fun e w' => e = .returned (.int .i64 r) ∧ Below w.heap.size w w' := by
 have hu25 := Try.underlying25
 have HR0_0 := Aside0.mk hr0_0
 have HC0_0 := Aside0.mk hc0_0
 clear hr0_0 hc0_0
 have HR0_1 := Aside0.mk hr0_1
 have HC0_1 := Aside0.mk hc0_1
 clear hr0_1 hc0_1
 have HB := Aside0.mk (Below.refl w.heap.size w)
 have H : ((tree_Children.f l0_0 l0_1 a1).bind fun t115 => (if a2 < 0 then (some (-1)) else (if a2 ≥ (t115.length : Int) then (some (-1)) else (if 0 ≤ a2 then (if a2 < (t115.length : Int) then (some (rd t115 a2)) else (none)) else (none))))) = some r := h
 clear h
 replace H := Option.bind_eq_some_iff.mp H
 obtain ⟨t115, A40, H⟩ := H
 try dsimp only at H
 have A4 := Aside0.mk A40
 clear A40
 by_cases c5 : a2 < 0
 ·rw [if_pos c5] at H
  have c5b0 : decide (a2 < 0) = true := decide_eq_true c5
  clear c5
  obtain rfl := Option.some.inj H
  go_enter Try.func20, Try.ntmps20
  go_wp2_with (first | ((with_reducible refine gate_dst (N := 3) rfl ?_); (try (refine gate_guard (by rfl) ?_; dsimp only)); refine box_event ?hg (N := 3) ?hd (cs := #[.slice A0_0 l0_0.length c0_0, .slice A0_1 l0_1.length c0_1]) (t := 25) ?hr ?_; (case hd => rfl); (case hg => rfl); (case hr => first | (go_simp; done) | (go_simp; rfl)); intro gb114 hg w6 hbox hb; have n0_ := Aside0.mk (below_step (bb_ HB.out) hb); have n1_ := Aside0.mk (hbox); have n2_ := Aside0.mk ((by rw [hg]; exact (below_size (bb_ HB.out)) : w.heap.size ≤ gb114)); have n3_ := Aside0.mk ((by rw [hg]; exact (below_size (bb_ HB.out)) : w.heap.size ≤ gb114)); clear HB; have HB := n0_; have BK114 := n1_; have GW114 := n2_; have GE114 := n3_; clear n0_ n1_ n2_ n3_; clear hb hbox hg; have hcz7_0 : w6.cell? ⟨gb114, 0, none⟩ = some (.slice A0_0 l0_0.length c0_0) := (blk_cell BK114.out 0).trans rfl; have hcz7_1 : w6.cell? ⟨gb114, 1, none⟩ = some (.slice A0_1 l0_1.length c0_1) := (blk_cell BK114.out 1).trans rfl; have hfz7_0 := blk_frozen BK114.out 0; have hfz7_1 := blk_frozen BK114.out 1) | ((with_reducible refine gate_callee (f := 14) rfl ?_); refine goesL_ (some 10) rfl rfl Try.func14 (by kernel_rfl) rfl #[.agg #[.slice A0_0 l0_0.length c0_0, .slice A0_1 l0_1.length c0_1], .int .i64 a1] rfl ar_ ?_; (with_reducible refine (tree_Children.calls _ _ l0_0 _ _ l0_1 a1 t115 _ ?side1 ?side2 ?side3 ?side4 A4.out).mono ?_); (case side1 => exact cc_ (Kd.C_below HR0_0.out HB.out)); (case side2 => exact HC0_0.out); (case side3 => exact cc_ (Kd.C_below HR0_1.out HB.out)); (case side4 => exact HC0_1.out); rintro e w8 ⟨v116, rfl, ho0, hb⟩; refine ⟨_, rfl, ?_⟩; have n0_ := Aside0.mk (Kd.R_lower ho0 (below_size (bs_ HB.out GE114.out))); have n1_ := Aside0.mk (blk_below (g := gb114) (o := .cells #[.slice A0_0 l0_0.length c0_0, .slice A0_1 l0_1.length c0_1] 25 (0, 0)) (bk_ BK114.out) hb); have n2_ := Aside0.mk (below_step (bs_ HB.out GE114.out) hb); clear BK114; clear HB; have HO117 := n0_; have BK114 := n1_; have HB := n2_; clear n0_ n1_ n2_; (try clear hb); (try clear hb2); (try clear hk); (try clear hi); (try clear ho0)))
  go_ret
  exact ⟨by first | rfl | (simp [errW_none, errW_some] <;> rfl) | (simp [*, errW_none, errW_some] <;> rfl), bs_ HB.out GE114.out⟩
 ·rw [if_neg c5] at H
  have c5b0 : decide (a2 < 0) = false := decide_eq_false c5
  clear c5
  by_cases c9 : a2 ≥ (t115.length : Int)
  ·rw [if_pos c9] at H
   have c9b0 : decide ((t115.length : Int) ≤ a2) = true := decide_eq_true c9
   clear c9
   obtain rfl := Option.some.inj H
   go_enter Try.func20, Try.ntmps20
   go_wp2_with (first | ((with_reducible refine gate_dst (N := 3) rfl ?_); (try (refine gate_guard (by rfl) ?_; dsimp only)); refine box_event ?hg (N := 3) ?hd (cs := #[.slice A0_0 l0_0.length c0_0, .slice A0_1 l0_1.length c0_1]) (t := 25) ?hr ?_; (case hd => rfl); (case hg => rfl); (case hr => first | (go_simp; done) | (go_simp; rfl)); intro gb114 hg w10 hbox hb; have n0_ := Aside0.mk (below_step (bb_ HB.out) hb); have n1_ := Aside0.mk (hbox); have n2_ := Aside0.mk ((by rw [hg]; exact (below_size (bb_ HB.out)) : w.heap.size ≤ gb114)); have n3_ := Aside0.mk ((by rw [hg]; exact (below_size (bb_ HB.out)) : w.heap.size ≤ gb114)); clear HB; have HB := n0_; have BK114 := n1_; have GW114 := n2_; have GE114 := n3_; clear n0_ n1_ n2_ n3_; clear hb hbox hg; have hcz11_0 : w10.cell? ⟨gb114, 0, none⟩ = some (.slice A0_0 l0_0.length c0_0) := (blk_cell BK114.out 0).trans rfl; have hcz11_1 : w10.cell? ⟨gb114, 1, none⟩ = some (.slice A0_1 l0_1.length c0_1) := (blk_cell BK114.out 1).trans rfl; have hfz11_0 := blk_frozen BK114.out 0; have hfz11_1 := blk_frozen BK114.out 1) | ((with_reducible refine gate_callee (f := 14) rfl ?_); refine goesL_ (some 10) rfl rfl Try.func14 (by kernel_rfl) rfl #[.agg #[.slice A0_0 l0_0.length c0_0, .slice A0_1 l0_1.length c0_1], .int .i64 a1] rfl ar_ ?_; (with_reducible refine (tree_Children.calls _ _ l0_0 _ _ l0_1 a1 t115 _ ?side1 ?side2 ?side3 ?side4 A4.out).mono ?_); (case side1 => exact cc_ (Kd.C_below HR0_0.out HB.out)); (case side2 => exact HC0_0.out); (case side3 => exact cc_ (Kd.C_below HR0_1.out HB.out)); (case side4 => exact HC0_1.out); rintro e w12 ⟨v116, rfl, ho0, hb⟩; refine ⟨_, rfl, ?_⟩; have n0_ := Aside0.mk (Kd.R_lower ho0 (below_size (bs_ HB.out GE114.out))); have n1_ := Aside0.mk (blk_below (g := gb114) (o := .cells #[.slice A0_0 l0_0.length c0_0, .slice A0_1 l0_1.length c0_1] 25 (0, 0)) (bk_ BK114.out) hb); have n2_ := Aside0.mk (below_step (bs_ HB.out GE114.out) hb); clear BK114; clear HB; have HO117 := n0_; have BK114 := n1_; have HB := n2_; clear n0_ n1_ n2_; (try clear hb); (try clear hb2); (try clear hk); (try clear hi); (try clear ho0); obtain ⟨Ao13, co13, eo13⟩ := Kd.R_slice HO117.out; subst eo13))
   go_ret
   exact ⟨by first | rfl | (simp [errW_none, errW_some] <;> rfl) | (simp [*, errW_none, errW_some] <;> rfl), bs_ HB.out GE114.out⟩
  ·rw [if_neg c9] at H
   have c9b0 : decide ((t115.length : Int) ≤ a2) = false := decide_eq_false c9
   clear c9
   by_cases c14 : 0 ≤ a2
   ·rw [if_pos c14] at H
    have c14b0 : decide (0 ≤ a2) = true := decide_eq_true c14
    clear c14
    by_cases c15 : a2 < (t115.length : Int)
    ·rw [if_pos c15] at H
     have c15b0 : decide (a2 < (t115.length : Int)) = true := decide_eq_true c15
     clear c15
     obtain rfl := Option.some.inj H
     go_enter Try.func20, Try.ntmps20
     go_wp2_with (first | ((with_reducible refine gate_dst (N := 3) rfl ?_); (try (refine gate_guard (by rfl) ?_; dsimp only)); refine box_event ?hg (N := 3) ?hd (cs := #[.slice A0_0 l0_0.length c0_0, .slice A0_1 l0_1.length c0_1]) (t := 25) ?hr ?_; (case hd => rfl); (case hg => rfl); (case hr => first | (go_simp; done) | (go_simp; rfl)); intro gb114 hg w16 hbox hb; have n0_ := Aside0.mk (below_step (bb_ HB.out) hb); have n1_ := Aside0.mk (hbox); have n2_ := Aside0.mk ((by rw [hg]; exact (below_size (bb_ HB.out)) : w.heap.size ≤ gb114)); have n3_ := Aside0.mk ((by rw [hg]; exact (below_size (bb_ HB.out)) : w.heap.size ≤ gb114)); clear HB; have HB := n0_; have BK114 := n1_; have GW114 := n2_; have GE114 := n3_; clear n0_ n1_ n2_ n3_; clear hb hbox hg; have hcz17_0 : w16.cell? ⟨gb114, 0, none⟩ = some (.slice A0_0 l0_0.length c0_0) := (blk_cell BK114.out 0).trans rfl; have hcz17_1 : w16.cell? ⟨gb114, 1, none⟩ = some (.slice A0_1 l0_1.length c0_1) := (blk_cell BK114.out 1).trans rfl; have hfz17_0 := blk_frozen BK114.out 0; have hfz17_1 := blk_frozen BK114.out 1) | ((with_reducible refine gate_callee (f := 14) rfl ?_); refine goesL_ (some 10) rfl rfl Try.func14 (by kernel_rfl) rfl #[.agg #[.slice A0_0 l0_0.length c0_0, .slice A0_1 l0_1.length c0_1], .int .i64 a1] rfl ar_ ?_; (with_reducible refine (tree_Children.calls _ _ l0_0 _ _ l0_1 a1 t115 _ ?side1 ?side2 ?side3 ?side4 A4.out).mono ?_); (case side1 => exact cc_ (Kd.C_below HR0_0.out HB.out)); (case side2 => exact HC0_0.out); (case side3 => exact cc_ (Kd.C_below HR0_1.out HB.out)); (case side4 => exact HC0_1.out); rintro e w18 ⟨v116, rfl, ho0, hb⟩; refine ⟨_, rfl, ?_⟩; have n0_ := Aside0.mk (Kd.R_lower ho0 (below_size (bs_ HB.out GE114.out))); have n1_ := Aside0.mk (blk_below (g := gb114) (o := .cells #[.slice A0_0 l0_0.length c0_0, .slice A0_1 l0_1.length c0_1] 25 (0, 0)) (bk_ BK114.out) hb); have n2_ := Aside0.mk (below_step (bs_ HB.out GE114.out) hb); clear BK114; clear HB; have HO117 := n0_; have BK114 := n1_; have HB := n2_; clear n0_ n1_ n2_; (try clear hb); (try clear hb2); (try clear hk); (try clear hi); (try clear ho0); obtain ⟨Ao19, co19, eo19⟩ := Kd.R_slice HO117.out; subst eo19; have p118 : 0 ≤ (a2 : Int) := of_decide_eq_true as_; have q118 : a2 < (t115.length : Int) := of_decide_eq_true as_; obtain ⟨ad118, e118, hx118_0⟩ := Kd.at_int (Kd.R_reads' HO117.out).2.2 a2 p118 q118; cases e118; replace p118 := eq_true p118; replace q118 := eq_true q118))
     go_ret
     exact ⟨by first | rfl | (simp [errW_none, errW_some] <;> rfl) | (simp [*, errW_none, errW_some] <;> rfl), bs_ HB.out GE114.out⟩
    ·rw [if_neg c15] at H
     exact absurd H (by simp)
   ·rw [if_neg c14] at H
    exact absurd H (by simp)
-- NOT PRINTED: function 33 (tree_around)
end Go.Proofs.Ytoanmoddppmffaa.T
