/- What each function of the program comes to, and its walk: laid by a program. -/
import Derived.Test.YtoanmoddppmffaaJTx0
import Derived.Test.YtoanmoddppmffaaJTx1
import Derived.Test.YtoanmoddppmffaaJTx2
import Derived.Test.YtoanmoddppmffaaJTx15
namespace Go.Proofs.Ytoanmoddppmffaa.T
open Go.RowKit Go.Proofs.YtoanmoddppmffaaW.PrintWords Go.Proofs.YtoanmoddppmffaaW.PrintLast Go.Proofs.YtoanmoddppmffaaW.PrintMore
set_option linter.unusedVariables false
set_option linter.unusedSimpArgs false
mutual
def topiaryref15_Symbol.j0 : Nat → Int → Bool → List ByteArray → List (S52) → Option (Int)
 | 0, _, _, _, _ => none
 | k + 1, x1, x14, x350000, x350001 => if x14 = true then (some (-1)) else (if 0 ≤ x1 then (if x1 < (x350001.length : Int) then (if ((rd_T52 x350001 x1).f0) = 1 then (topiaryref15_Symbol.j1 k false x350000 x350001 ((rd_T52 x350001 x1).f0) ((rd_T52 x350001 x1).f1) ((rd_T52 x350001 x1).f2) ((rd_T52 x350001 x1).f3)) else (topiaryref15_Symbol.j1 k (((rd_T52 x350001 x1).f0) != 2) x350000 x350001 ((rd_T52 x350001 x1).f0) ((rd_T52 x350001 x1).f1) ((rd_T52 x350001 x1).f2) ((rd_T52 x350001 x1).f3))) else (none)) else (none))
def topiaryref15_Symbol.j1 : Nat → Bool → List ByteArray → List (S52) → Int → Int → Int → ByteArray → Option (Int)
 | 0, _, _, _, _, _, _, _ => none
 | k + 1, x27, x350000, x350001, x352000, x352001, x352002, x352003 => if x27 = true then (some (wrap64 (2 * (x350000.length : Int)))) else (if x352001 < 0 then (topiaryref15_Symbol.j2 k true x352000 x352001 x352002 x352003) else (topiaryref15_Symbol.j2 k (decide (x352001 ≥ (x350000.length : Int))) x352000 x352001 x352002 x352003))
def topiaryref15_Symbol.j2 : Nat → Bool → Int → Int → Int → ByteArray → Option (Int)
 | 0, _, _, _, _, _ => none
 | k + 1, x42, x352000, x352001, x352002, x352003 => if x42 = true then (some (-1)) else (if x352000 = 2 then (some (wrap64 ((wrap64 (2 * x352001)) + 1))) else (some (wrap64 (2 * x352001))))
end
def topiaryref15_Symbol.f (k : Nat) (l0_0 : List ByteArray) (l0_1 : List (S52)) (a1 : Int) : Option (Int) := if a1 < 0 then (topiaryref15_Symbol.j0 k a1 true l0_0 l0_1) else (topiaryref15_Symbol.j0 k a1 (decide (a1 ≥ (l0_1.length : Int))) l0_0 l0_1)
theorem topiaryref15_Symbol.mono_l : ∀ k, (∀ y0 y1 y2 y3, LeO (topiaryref15_Symbol.j0 k y0 y1 y2 y3) (topiaryref15_Symbol.j0 (k + 1) y0 y1 y2 y3)) ∧ (∀ y0 y1 y2 y3 y4 y5 y6, LeO (topiaryref15_Symbol.j1 k y0 y1 y2 y3 y4 y5 y6) (topiaryref15_Symbol.j1 (k + 1) y0 y1 y2 y3 y4 y5 y6)) ∧ (∀ y0 y1 y2 y3 y4, LeO (topiaryref15_Symbol.j2 k y0 y1 y2 y3 y4) (topiaryref15_Symbol.j2 (k + 1) y0 y1 y2 y3 y4))
 | 0 => ⟨fun _ _ _ _ r h => by simp [topiaryref15_Symbol.j0] at h, fun _ _ _ _ _ _ _ r h => by simp [topiaryref15_Symbol.j1] at h, fun _ _ _ _ _ r h => by simp [topiaryref15_Symbol.j2] at h⟩
 | k + 1 => by
  obtain ⟨ih0, ih1, ih2⟩ := topiaryref15_Symbol.mono_l k
  refine ⟨?_, ?_, ?_⟩
  ·intro y0 y1 y2 y3
   unfold topiaryref15_Symbol.j0
   repeat' first
   | (with_reducible exact ih0 _ _ _ _)
   | (with_reducible exact ih1 _ _ _ _ _ _ _)
   | (with_reducible exact ih2 _ _ _ _ _)
   | (with_reducible exact LeO.refl _)
   | (with_reducible exact LeO.none _)
   | (with_reducible refine LeO.ite ?_ ?_)
   | (with_reducible refine LeO.bind ?_ (fun _ => ?_))
   | exact ih0 _ _ _ _
   | exact ih1 _ _ _ _ _ _ _
   | exact ih2 _ _ _ _ _
   | exact LeO.none _
   | refine LeO.ite ?_ ?_
   | refine LeO.bind ?_ (fun _ => ?_)
  ·intro y0 y1 y2 y3 y4 y5 y6
   unfold topiaryref15_Symbol.j1
   repeat' first
   | (with_reducible exact ih0 _ _ _ _)
   | (with_reducible exact ih1 _ _ _ _ _ _ _)
   | (with_reducible exact ih2 _ _ _ _ _)
   | (with_reducible exact LeO.refl _)
   | (with_reducible exact LeO.none _)
   | (with_reducible refine LeO.ite ?_ ?_)
   | (with_reducible refine LeO.bind ?_ (fun _ => ?_))
   | exact ih0 _ _ _ _
   | exact ih1 _ _ _ _ _ _ _
   | exact ih2 _ _ _ _ _
   | exact LeO.none _
   | refine LeO.ite ?_ ?_
   | refine LeO.bind ?_ (fun _ => ?_)
  ·intro y0 y1 y2 y3 y4
   unfold topiaryref15_Symbol.j2
   repeat' first
   | (with_reducible exact ih0 _ _ _ _)
   | (with_reducible exact ih1 _ _ _ _ _ _ _)
   | (with_reducible exact ih2 _ _ _ _ _)
   | (with_reducible exact LeO.refl _)
   | (with_reducible exact LeO.none _)
   | (with_reducible refine LeO.ite ?_ ?_)
   | (with_reducible refine LeO.bind ?_ (fun _ => ?_))
   | exact ih0 _ _ _ _
   | exact ih1 _ _ _ _ _ _ _
   | exact ih2 _ _ _ _ _
   | exact LeO.none _
   | refine LeO.ite ?_ ?_
   | refine LeO.bind ?_ (fun _ => ?_)
theorem topiaryref15_Symbol.mono : ∀ a0 a1 a2 k, LeO (topiaryref15_Symbol.f k a0 a1 a2) (topiaryref15_Symbol.f (k + 1) a0 a1 a2) := by
 intro a0 a1 a2 k
 obtain ⟨ih0, ih1, ih2⟩ := topiaryref15_Symbol.mono_l k
 unfold topiaryref15_Symbol.f
 repeat' first
   | (with_reducible exact ih0 _ _ _ _)
   | (with_reducible exact ih1 _ _ _ _ _ _ _)
   | (with_reducible exact ih2 _ _ _ _ _)
   | (with_reducible exact LeO.refl _)
   | (with_reducible exact LeO.none _)
   | (with_reducible refine LeO.ite ?_ ?_)
   | (with_reducible refine LeO.bind ?_ (fun _ => ?_))
   | exact ih0 _ _ _ _
   | exact ih1 _ _ _ _ _ _ _
   | exact ih2 _ _ _ _ _
   | exact LeO.none _
   | refine LeO.ite ?_ ?_
   | refine LeO.bind ?_ (fun _ => ?_)
set_option maxHeartbeats 8000000 in
set_option maxRecDepth 100000 in
theorem topiaryref15_Symbol.calls (k : Nat) (A0_0 : Option Addr) (c0_0 : Nat) (l0_0 : List ByteArray) (A0_1 : Option Addr) (c0_1 : Nat) (l0_1 : List (S52)) (a1 : Int) (r : Int) (w : World) (hr0_0 : Kd.C Kd.string w A0_0 l0_0.length l0_0) (hc0_0 : l0_0.length ≤ c0_0) (hr0_1 : Kd.C k52 w A0_1 l0_1.length l0_1) (hc0_1 : l0_1.length ≤ c0_1) (h : topiaryref15_Symbol.f k l0_0 l0_1 a1 = some r) :
  Calls Try.prog 12 #[.agg #[.slice A0_0 l0_0.length c0_0, .slice A0_1 l0_1.length c0_1], .int .i64 a1] w fun e w' => e = .returned (.int .i64 r) ∧ Below w.heap.size w w' := by
 have hu25 := Try.underlying25
 have hu52 := Try.underlying52
 have HR0_0 := Aside0.mk hr0_0
 have HC0_0 := Aside0.mk hc0_0
 clear hr0_0 hc0_0
 have HR0_1 := Aside0.mk hr0_1
 have HC0_1 := Aside0.mk hc0_1
 clear hr0_1 hc0_1
 have HB := Aside0.mk (Below.refl w.heap.size w)
 have H : (if a1 < 0 then (topiaryref15_Symbol.j0 k a1 true l0_0 l0_1) else (topiaryref15_Symbol.j0 k a1 (decide (a1 ≥ (l0_1.length : Int))) l0_0 l0_1)) = some r := h
 clear h
 have HC3 := Aside0.mk H
 clear H
 go_enter Try.func12, Try.ntmps12
 go_upto_region 1 with (first | ((with_reducible refine gate_dst (N := 2) rfl ?_); (try (refine gate_guard (by rfl) ?_; dsimp only)); refine box_event ?hg (N := 2) ?hd (cs := #[.slice A0_0 l0_0.length c0_0, .slice A0_1 l0_1.length c0_1]) (t := 25) ?hr ?_; (case hd => rfl); (case hg => rfl); (case hr => first | (go_simp; done) | (go_simp; rfl)); intro gb349 hg w4 hbox hb; have n0_ := Aside0.mk (below_step (bb_ HB.out) hb); have n1_ := Aside0.mk (hbox); have n2_ := Aside0.mk ((by rw [hg]; exact (below_size (bb_ HB.out)) : w.heap.size ≤ gb349)); have n3_ := Aside0.mk ((by rw [hg]; exact (below_size (bb_ HB.out)) : w.heap.size ≤ gb349)); clear HB; have HB := n0_; have BK349 := n1_; have GW349 := n2_; have GE349 := n3_; clear n0_ n1_ n2_ n3_; clear hb hbox hg))
 (try simp only [Act.put, List.setIfInBounds_toArray, List.set_cons_zero, List.set_cons_succ])
 go_cut [14] (fun v14 wc => ∃ (kq : Nat) (x14_2 : Bool), v14 = .bool x14_2 ∧ Aside0 (topiaryref15_Symbol.j0 kq a1 x14_2 l0_0 l0_1 = some r) ∧ Aside0 (kq ≤ k) ∧ Aside0 (wc.heap[gb349]? = some (.cells #[(.slice A0_0 l0_0.length c0_0), (.slice A0_1 l0_1.length c0_1)] 25 (0, 0))) ∧ Aside0 (Below w.heap.size w wc))
 case first =>
  have H := HC3.out
  clear HC3
  by_cases c5 : a1 < 0
  ·rw [if_pos c5] at H
   have c5b0 : decide (a1 < 0) = true := decide_eq_true c5
   clear c5
   (first | rw [c5b0] | (simp only [i64_w, i32_w]; rw [c5b0]) | skip)
   have H' := Aside0.mk H
   clear H
   go_wp2
   go_meet
   case rel => exact ⟨_, (true), sm_, H', ⟨by first | omega | exact Nat.le_refl _⟩, ⟨bk_ BK349.out⟩, ⟨bs_ HB.out GE349.out⟩⟩
  ·rw [if_neg c5] at H
   have c5b0 : decide (a1 < 0) = false := decide_eq_false c5
   clear c5
   (first | rw [c5b0] | (simp only [i64_w, i32_w]; rw [c5b0]) | skip)
   have H' := Aside0.mk H
   clear H
   have hcz6_0 : w4.cell? ⟨gb349, 0, none⟩ = some (.slice A0_0 l0_0.length c0_0) := (blk_cell BK349.out 0).trans rfl
   have hcz6_1 : w4.cell? ⟨gb349, 1, none⟩ = some (.slice A0_1 l0_1.length c0_1) := (blk_cell BK349.out 1).trans rfl
   have hfz6_0 := blk_frozen BK349.out 0
   have hfz6_1 := blk_frozen BK349.out 1
   go_wp2
   go_meet
   case rel => exact ⟨_, (decide (a1 ≥ (l0_1.length : Int))), sm_, H', ⟨by first | omega | exact Nat.le_refl _⟩, ⟨bk_ BK349.out⟩, ⟨bs_ HB.out GE349.out⟩⟩
 case rest =>
  clear HC3
  try clear c1
  try clear p2
  try clear c5
  try clear c5b0
  try clear hcz6_0
  try clear hcz6_1
  try clear hfz6_0
  try clear hfz6_1
  obtain ⟨kq, x14_2, rfl, HA, HJ2, BK349, HB⟩ := hcut
  cases kq with
  | zero => exact absurd HA.out (by simp [topiaryref15_Symbol.j0])
  | succ kj2 =>
   have H := HA.out
   clear HA
   simp only [topiaryref15_Symbol.j0] at H
   by_cases c7 : x14_2 = true
   ·subst c7
    rw [if_pos rfl] at H
    have H1 := H
    clear H
    have H := H1
    clear H1
    obtain rfl := Option.some.inj H
    go_wp2
    go_ret
    exact ⟨by first | rfl | (simp [errW_none, errW_some] <;> rfl) | (simp [*, errW_none, errW_some] <;> rfl), bs_ HB.out GE349.out⟩
   ·replace c7 := Bool.eq_false_iff.mpr c7
    subst c7
    rw [if_neg (show ¬ (false = true) by decide)] at H
    have H1 := H
    clear H
    have H := H1
    clear H1
    by_cases c8 : 0 ≤ a1
    ·rw [if_pos c8] at H
     have c8b0 : decide (0 ≤ a1) = true := decide_eq_true c8
     clear c8
     by_cases c9 : a1 < (l0_1.length : Int)
     ·rw [if_pos c9] at H
      have c9b0 : decide (a1 < (l0_1.length : Int)) = true := decide_eq_true c9
      clear c9
      have HC10 := Aside0.mk H
      clear H
      have hcz11_0 : wc.cell? ⟨gb349, 0, none⟩ = some (.slice A0_0 l0_0.length c0_0) := (blk_cell BK349.out 0).trans rfl
      have hcz11_1 : wc.cell? ⟨gb349, 1, none⟩ = some (.slice A0_1 l0_1.length c0_1) := (blk_cell BK349.out 1).trans rfl
      have hfz11_0 := blk_frozen BK349.out 0
      have hfz11_1 := blk_frozen BK349.out 1
      have p350 : 0 ≤ (a1 : Int) := of_decide_eq_true as_
      have q350 : a1 < (l0_1.length : Int) := of_decide_eq_true as_
      obtain ⟨ad350, e350, hx350_0, hx350_1, hx350_2, hx350_3⟩ := at_T52 HR0_1.out a1 p350 q350
      cases e350
      replace hx350_0 := (HB.out.cell (World.block_lt_of_cell? w _ hx350_0)).trans hx350_0
      replace hx350_1 := (HB.out.cell (World.block_lt_of_cell? w _ hx350_1)).trans hx350_1
      replace hx350_2 := (HB.out.cell (World.block_lt_of_cell? w _ hx350_2)).trans hx350_2
      replace hx350_3 := (HB.out.cell (World.block_lt_of_cell? w _ hx350_3)).trans hx350_3
      replace p350 := eq_true p350
      replace q350 := eq_true q350
      go_upto_region 4 with (first | ((with_reducible refine gate_dst (N := 5) rfl ?_); (try (refine gate_guard (by rfl) ?_; dsimp only)); refine box_event ?hg (N := 5) ?hd (cs := #[.int .i64 0, .int .i64 0, .int .i64 0, .string (⟨#[]⟩ : ByteArray)]) (t := 52) ?hr ?_; (case hd => rfl); (case hg => rfl); (case hr => first | (go_simp; done) | (go_simp; rfl)); intro gb351 hg w12 hbox hb; have n0_ := Aside0.mk (blk_below (g := gb349) (o := .cells #[.slice A0_0 l0_0.length c0_0, .slice (some ad350) l0_1.length c0_1] 25 (0, 0)) (bk_ BK349.out) hb); have n1_ := Aside0.mk (below_step (bs_ HB.out GE349.out) hb); have n2_ := Aside0.mk (hbox); have n3_ := Aside0.mk ((by rw [hg]; exact (below_size (bs_ HB.out GE349.out)) : w.heap.size ≤ gb351)); have n4_ := Aside0.mk ((by rw [hg]; exact (below_size (bs_ HB.out GE349.out)) : w.heap.size ≤ gb351)); have n5_ := Aside0.mk ((by rw [hg]; exact Nat.ne_of_lt (blk_lt (g := gb349) (o := .cells #[.slice A0_0 l0_0.length c0_0, .slice (some ad350) l0_1.length c0_1] 25 (0, 0)) (bk_ BK349.out)) : gb349 ≠ gb351)); have n6_ := Aside0.mk ((by rw [hg]; exact Nat.ne_of_gt (blk_lt (g := gb349) (o := .cells #[.slice A0_0 l0_0.length c0_0, .slice (some ad350) l0_1.length c0_1] 25 (0, 0)) (bk_ BK349.out)) : gb351 ≠ gb349)); clear BK349; clear HB; have BK349 := n0_; have HB := n1_; have BK351 := n2_; have GW351 := n3_; have GE351 := n4_; have NB349_351 := n5_; have NB351_349 := n6_; clear n0_ n1_ n2_ n3_ n4_ n5_ n6_; clear hb hbox hg; have hnb13 := NB351_349.out; have hnc13 := NB349_351.out; have hcz14_0 : w12.cell? ⟨gb351, 0, none⟩ = some (.int .i64 0) := (blk_cell BK351.out 0).trans rfl; have hcz14_1 : w12.cell? ⟨gb351, 1, none⟩ = some (.int .i64 0) := (blk_cell BK351.out 1).trans rfl; have hcz14_2 : w12.cell? ⟨gb351, 2, none⟩ = some (.int .i64 0) := (blk_cell BK351.out 2).trans rfl; have hcz14_3 : w12.cell? ⟨gb351, 3, none⟩ = some (.string (⟨#[]⟩ : ByteArray)) := (blk_cell BK351.out 3).trans rfl; have hfz14_0 := blk_frozen BK351.out 0; have hfz14_1 := blk_frozen BK351.out 1; have hfz14_2 := blk_frozen BK351.out 2; have hfz14_3 := blk_frozen BK351.out 3))
      (try simp only [Act.put, List.setIfInBounds_toArray, List.set_cons_zero, List.set_cons_succ])
      go_cut [27] (fun v27 wc => ∃ (kq : Nat) (x27_9 : Bool), v27 = .bool x27_9 ∧ Aside0 (topiaryref15_Symbol.j1 kq x27_9 l0_0 l0_1 ((rd_T52 l0_1 a1).f0) ((rd_T52 l0_1 a1).f1) ((rd_T52 l0_1 a1).f2) ((rd_T52 l0_1 a1).f3) = some r) ∧ Aside0 (kq ≤ kj2) ∧ Aside0 (wc.heap[gb349]? = some (.cells #[(.slice A0_0 l0_0.length c0_0), (.slice (some ad350) l0_1.length c0_1)] 25 (0, 0))) ∧ Aside0 (wc.heap[gb351]? = some (.cells #[.int .i64 ((rd_T52 l0_1 a1).f0), .int .i64 ((rd_T52 l0_1 a1).f1), .int .i64 ((rd_T52 l0_1 a1).f2), .string ((rd_T52 l0_1 a1).f3)] 52 (0, 0))) ∧ Aside0 (Below w.heap.size w wc))
      case first =>
       have H := HC10.out
       clear HC10
       by_cases c15 : ((rd_T52 l0_1 a1).f0) = 1
       ·rw [if_pos c15] at H
        have c15b0 : (((rd_T52 l0_1 a1).f0) == 1) = true := beq_iff_eq.mpr c15
        have c15b1 : (((rd_T52 l0_1 a1).f0) != 1) = false := bne_eq_false_iff_eq.mpr c15
        clear c15
        (first | rw [c15b0] | (simp only [i64_w, i32_w]; rw [c15b0]) | skip)
        have H' := Aside0.mk H
        clear H
        have hnb16 := NB351_349.out
        have hnc16 := NB349_351.out
        have hcz17_0 : w12.cell? ⟨gb351, 0, none⟩ = some (.int .i64 0) := (blk_cell BK351.out 0).trans rfl
        have hcz17_1 : w12.cell? ⟨gb351, 1, none⟩ = some (.int .i64 0) := (blk_cell BK351.out 1).trans rfl
        have hcz17_2 : w12.cell? ⟨gb351, 2, none⟩ = some (.int .i64 0) := (blk_cell BK351.out 2).trans rfl
        have hcz17_3 : w12.cell? ⟨gb351, 3, none⟩ = some (.string (⟨#[]⟩ : ByteArray)) := (blk_cell BK351.out 3).trans rfl
        have hfz17_0 := blk_frozen BK351.out 0
        have hfz17_1 := blk_frozen BK351.out 1
        have hfz17_2 := blk_frozen BK351.out 2
        have hfz17_3 := blk_frozen BK351.out 3
        go_wp2
        go_meet
        case rel => exact ⟨_, (false), sm_, H', ⟨by have := HJ2.out; first | omega | exact Nat.le_refl _⟩, ⟨by (with_reducible repeat (first | refine blk_drewN ?_ _ | refine blk_drew ?_ | refine blk_alloc ?_ _)); refine blk_far ?_ NB349_351.out _; (with_reducible repeat (first | refine blk_drewN ?_ _ | refine blk_drew ?_ | refine blk_alloc ?_ _)); refine blk_far ?_ NB349_351.out _; (with_reducible repeat (first | refine blk_drewN ?_ _ | refine blk_drew ?_ | refine blk_alloc ?_ _)); refine blk_far ?_ NB349_351.out _; (with_reducible repeat (first | refine blk_drewN ?_ _ | refine blk_drew ?_ | refine blk_alloc ?_ _)); refine blk_far ?_ NB349_351.out _; exact bk_ BK349.out⟩, ⟨by (with_reducible repeat (first | refine blk_drewN ?_ _ | refine blk_drew ?_ | refine blk_alloc ?_ _)); refine blk_put (cs := #[.int .i64 ((rd_T52 l0_1 a1).f0), .int .i64 ((rd_T52 l0_1 a1).f1), .int .i64 ((rd_T52 l0_1 a1).f2), .string (⟨#[]⟩ : ByteArray)]) ?_ 3 _ rfl; (with_reducible repeat (first | refine blk_drewN ?_ _ | refine blk_drew ?_ | refine blk_alloc ?_ _)); refine blk_put (cs := #[.int .i64 ((rd_T52 l0_1 a1).f0), .int .i64 ((rd_T52 l0_1 a1).f1), .int .i64 0, .string (⟨#[]⟩ : ByteArray)]) ?_ 2 _ rfl; (with_reducible repeat (first | refine blk_drewN ?_ _ | refine blk_drew ?_ | refine blk_alloc ?_ _)); refine blk_put (cs := #[.int .i64 ((rd_T52 l0_1 a1).f0), .int .i64 0, .int .i64 0, .string (⟨#[]⟩ : ByteArray)]) ?_ 1 _ rfl; (with_reducible repeat (first | refine blk_drewN ?_ _ | refine blk_drew ?_ | refine blk_alloc ?_ _)); refine blk_put (cs := #[.int .i64 0, .int .i64 0, .int .i64 0, .string (⟨#[]⟩ : ByteArray)]) ?_ 0 _ rfl; exact bk_ BK351.out⟩, ⟨bt_ HB.out GE349.out GE351.out⟩⟩
       ·rw [if_neg c15] at H
        have c15b0 : (((rd_T52 l0_1 a1).f0) == 1) = false := beq_eq_false_iff_ne.mpr c15
        have c15b1 : (((rd_T52 l0_1 a1).f0) != 1) = true := bne_iff_ne.mpr c15
        (first | rw [c15b0] | (simp only [i64_w, i32_w]; rw [c15b0]) | skip)
        have H' := Aside0.mk H
        clear H
        have hnb18 := NB351_349.out
        have hnc18 := NB349_351.out
        have hcz19_0 : w12.cell? ⟨gb351, 0, none⟩ = some (.int .i64 0) := (blk_cell BK351.out 0).trans rfl
        have hcz19_1 : w12.cell? ⟨gb351, 1, none⟩ = some (.int .i64 0) := (blk_cell BK351.out 1).trans rfl
        have hcz19_2 : w12.cell? ⟨gb351, 2, none⟩ = some (.int .i64 0) := (blk_cell BK351.out 2).trans rfl
        have hcz19_3 : w12.cell? ⟨gb351, 3, none⟩ = some (.string (⟨#[]⟩ : ByteArray)) := (blk_cell BK351.out 3).trans rfl
        have hfz19_0 := blk_frozen BK351.out 0
        have hfz19_1 := blk_frozen BK351.out 1
        have hfz19_2 := blk_frozen BK351.out 2
        have hfz19_3 := blk_frozen BK351.out 3
        go_wp2
        go_meet
        case rel => exact ⟨_, ((((rd_T52 l0_1 a1).f0) != 2)), sm_, H', ⟨by have := HJ2.out; first | omega | exact Nat.le_refl _⟩, ⟨by (with_reducible repeat (first | refine blk_drewN ?_ _ | refine blk_drew ?_ | refine blk_alloc ?_ _)); refine blk_far ?_ NB349_351.out _; (with_reducible repeat (first | refine blk_drewN ?_ _ | refine blk_drew ?_ | refine blk_alloc ?_ _)); refine blk_far ?_ NB349_351.out _; (with_reducible repeat (first | refine blk_drewN ?_ _ | refine blk_drew ?_ | refine blk_alloc ?_ _)); refine blk_far ?_ NB349_351.out _; (with_reducible repeat (first | refine blk_drewN ?_ _ | refine blk_drew ?_ | refine blk_alloc ?_ _)); refine blk_far ?_ NB349_351.out _; exact bk_ BK349.out⟩, ⟨by (with_reducible repeat (first | refine blk_drewN ?_ _ | refine blk_drew ?_ | refine blk_alloc ?_ _)); refine blk_put (cs := #[.int .i64 ((rd_T52 l0_1 a1).f0), .int .i64 ((rd_T52 l0_1 a1).f1), .int .i64 ((rd_T52 l0_1 a1).f2), .string (⟨#[]⟩ : ByteArray)]) ?_ 3 _ rfl; (with_reducible repeat (first | refine blk_drewN ?_ _ | refine blk_drew ?_ | refine blk_alloc ?_ _)); refine blk_put (cs := #[.int .i64 ((rd_T52 l0_1 a1).f0), .int .i64 ((rd_T52 l0_1 a1).f1), .int .i64 0, .string (⟨#[]⟩ : ByteArray)]) ?_ 2 _ rfl; (with_reducible repeat (first | refine blk_drewN ?_ _ | refine blk_drew ?_ | refine blk_alloc ?_ _)); refine blk_put (cs := #[.int .i64 ((rd_T52 l0_1 a1).f0), .int .i64 0, .int .i64 0, .string (⟨#[]⟩ : ByteArray)]) ?_ 1 _ rfl; (with_reducible repeat (first | refine blk_drewN ?_ _ | refine blk_drew ?_ | refine blk_alloc ?_ _)); refine blk_put (cs := #[.int .i64 0, .int .i64 0, .int .i64 0, .string (⟨#[]⟩ : ByteArray)]) ?_ 0 _ rfl; exact bk_ BK351.out⟩, ⟨bt_ HB.out GE349.out GE351.out⟩⟩
      case rest =>
       clear HC10
       try clear c1
       try clear p2
       try clear p3
       try clear q3
       try clear hx3
       try clear c5
       try clear c5b0
       try clear c7
       try clear c8
       try clear c8b0
       try clear c9
       try clear c9b0
       try clear c12
       try clear c13
       try clear c15
       try clear c15b0
       try clear c15b1
       try clear c16
       try clear c18
       try clear hcz11_0
       try clear hcz11_1
       try clear hcz14_0
       try clear hcz14_1
       try clear hcz14_2
       try clear hcz14_3
       try clear hcz17_0
       try clear hcz17_1
       try clear hcz17_2
       try clear hcz17_3
       try clear hcz19_0
       try clear hcz19_1
       try clear hcz19_2
       try clear hcz19_3
       try clear hcz6_0
       try clear hcz6_1
       try clear hfz11_0
       try clear hfz11_1
       try clear hfz14_0
       try clear hfz14_1
       try clear hfz14_2
       try clear hfz14_3
       try clear hfz17_0
       try clear hfz17_1
       try clear hfz17_2
       try clear hfz17_3
       try clear hfz19_0
       try clear hfz19_1
       try clear hfz19_2
       try clear hfz19_3
       try clear hfz6_0
       try clear hfz6_1
       try clear hx350_0
       try clear hx350_1
       try clear hx350_2
       try clear hx350_3
       try clear p2
       try clear p350
       try clear q350
       obtain ⟨kq, x27_9, rfl, HA, HJ9, BK349, BK351, HB⟩ := hcut
       cases kq with
       | zero => exact absurd HA.out (by simp [topiaryref15_Symbol.j1])
       | succ kj9 =>
        have H := HA.out
        clear HA
        simp only [topiaryref15_Symbol.j1] at H
        by_cases c20 : x27_9 = true
        ·subst c20
         rw [if_pos rfl] at H
         have H1 := H
         clear H
         have H := H1
         clear H1
         obtain rfl := Option.some.inj H
         have hnb21 := NB349_351.out
         have hnc21 := NB351_349.out
         have hcz22_0 : wc.cell? ⟨gb349, 0, none⟩ = some (.slice A0_0 l0_0.length c0_0) := (blk_cell BK349.out 0).trans rfl
         have hcz22_1 : wc.cell? ⟨gb349, 1, none⟩ = some (.slice (some ad350) l0_1.length c0_1) := (blk_cell BK349.out 1).trans rfl
         have hfz22_0 := blk_frozen BK349.out 0
         have hfz22_1 := blk_frozen BK349.out 1
         go_wp2
         go_ret
         exact ⟨by first | rfl | (simp [errW_none, errW_some] <;> rfl) | (simp [*, errW_none, errW_some] <;> rfl), bt_ HB.out GE349.out GE351.out⟩
        ·replace c20 := Bool.eq_false_iff.mpr c20
         subst c20
         rw [if_neg (show ¬ (false = true) by decide)] at H
         have H1 := H
         clear H
         have H := H1
         clear H1
         have HC23 := Aside0.mk H
         clear H
         go_upto_region 6 with (fail)
         go_cut [42] (fun v42 wc => ∃ (kq : Nat) (x42_22 : Bool), v42 = .bool x42_22 ∧ Aside0 (topiaryref15_Symbol.j2 kq x42_22 ((rd_T52 l0_1 a1).f0) ((rd_T52 l0_1 a1).f1) ((rd_T52 l0_1 a1).f2) ((rd_T52 l0_1 a1).f3) = some r) ∧ Aside0 (kq ≤ kj9) ∧ Aside0 (wc.heap[gb349]? = some (.cells #[(.slice A0_0 l0_0.length c0_0), (.slice (some ad350) l0_1.length c0_1)] 25 (0, 0))) ∧ Aside0 (wc.heap[gb351]? = some (.cells #[.int .i64 ((rd_T52 l0_1 a1).f0), .int .i64 ((rd_T52 l0_1 a1).f1), .int .i64 ((rd_T52 l0_1 a1).f2), .string ((rd_T52 l0_1 a1).f3)] 52 (0, 0))) ∧ Aside0 (Below w.heap.size w wc))
         case first =>
          have H := HC23.out
          clear HC23
          by_cases c24 : ((rd_T52 l0_1 a1).f1) < 0
          ·rw [if_pos c24] at H
           have c24b0 : decide (((rd_T52 l0_1 a1).f1) < 0) = true := decide_eq_true c24
           clear c24
           (first | rw [c24b0] | (simp only [i64_w, i32_w]; rw [c24b0]) | skip)
           have H' := Aside0.mk H
           clear H
           have hnb25 := NB351_349.out
           have hnc25 := NB349_351.out
           have hcz26_0 : wc.cell? ⟨gb351, 0, none⟩ = some (.int .i64 ((rd_T52 l0_1 a1).f0)) := (blk_cell BK351.out 0).trans rfl
           have hcz26_1 : wc.cell? ⟨gb351, 1, none⟩ = some (.int .i64 ((rd_T52 l0_1 a1).f1)) := (blk_cell BK351.out 1).trans rfl
           have hcz26_2 : wc.cell? ⟨gb351, 2, none⟩ = some (.int .i64 ((rd_T52 l0_1 a1).f2)) := (blk_cell BK351.out 2).trans rfl
           have hcz26_3 : wc.cell? ⟨gb351, 3, none⟩ = some (.string ((rd_T52 l0_1 a1).f3)) := (blk_cell BK351.out 3).trans rfl
           have hfz26_0 := blk_frozen BK351.out 0
           have hfz26_1 := blk_frozen BK351.out 1
           have hfz26_2 := blk_frozen BK351.out 2
           have hfz26_3 := blk_frozen BK351.out 3
           go_wp2
           go_meet
           case rel => exact ⟨_, (true), sm_, H', ⟨by have := HJ2.out; have := HJ9.out; first | omega | exact Nat.le_refl _⟩, ⟨bk_ BK349.out⟩, ⟨bk_ BK351.out⟩, ⟨bt_ HB.out GE349.out GE351.out⟩⟩
          ·rw [if_neg c24] at H
           have c24b0 : decide (((rd_T52 l0_1 a1).f1) < 0) = false := decide_eq_false c24
           clear c24
           (first | rw [c24b0] | (simp only [i64_w, i32_w]; rw [c24b0]) | skip)
           have H' := Aside0.mk H
           clear H
           have hnb27 := NB351_349.out
           have hnc27 := NB349_351.out
           have hcz28_0 : wc.cell? ⟨gb351, 0, none⟩ = some (.int .i64 ((rd_T52 l0_1 a1).f0)) := (blk_cell BK351.out 0).trans rfl
           have hcz28_1 : wc.cell? ⟨gb351, 1, none⟩ = some (.int .i64 ((rd_T52 l0_1 a1).f1)) := (blk_cell BK351.out 1).trans rfl
           have hcz28_2 : wc.cell? ⟨gb351, 2, none⟩ = some (.int .i64 ((rd_T52 l0_1 a1).f2)) := (blk_cell BK351.out 2).trans rfl
           have hcz28_3 : wc.cell? ⟨gb351, 3, none⟩ = some (.string ((rd_T52 l0_1 a1).f3)) := (blk_cell BK351.out 3).trans rfl
           have hfz28_0 := blk_frozen BK351.out 0
           have hfz28_1 := blk_frozen BK351.out 1
           have hfz28_2 := blk_frozen BK351.out 2
           have hfz28_3 := blk_frozen BK351.out 3
           have hcz29_0 : wc.cell? ⟨gb349, 0, none⟩ = some (.slice A0_0 l0_0.length c0_0) := (blk_cell BK349.out 0).trans rfl
           have hcz29_1 : wc.cell? ⟨gb349, 1, none⟩ = some (.slice (some ad350) l0_1.length c0_1) := (blk_cell BK349.out 1).trans rfl
           have hfz29_0 := blk_frozen BK349.out 0
           have hfz29_1 := blk_frozen BK349.out 1
           go_wp2
           go_meet
           case rel => exact ⟨_, (decide (((rd_T52 l0_1 a1).f1) ≥ (l0_0.length : Int))), sm_, H', ⟨by have := HJ2.out; have := HJ9.out; first | omega | exact Nat.le_refl _⟩, ⟨bk_ BK349.out⟩, ⟨bk_ BK351.out⟩, ⟨bt_ HB.out GE349.out GE351.out⟩⟩
         case rest =>
          clear HC23
          try clear c1
          try clear c2
          try clear p2
          try clear p3
          try clear q3
          try clear hx3
          try clear c5
          try clear c5b0
          try clear p6
          try clear c7
          try clear c8
          try clear c8b0
          try clear c9
          try clear c9b0
          try clear c12
          try clear c13
          try clear c15
          try clear c15b0
          try clear c15b1
          try clear c16
          try clear c18
          try clear c20
          try clear c21
          try clear c24
          try clear c24b0
          try clear c25
          try clear c27
          try clear hcz11_0
          try clear hcz11_1
          try clear hcz14_0
          try clear hcz14_1
          try clear hcz14_2
          try clear hcz14_3
          try clear hcz17_0
          try clear hcz17_1
          try clear hcz17_2
          try clear hcz17_3
          try clear hcz19_0
          try clear hcz19_1
          try clear hcz19_2
          try clear hcz19_3
          try clear hcz22_0
          try clear hcz22_1
          try clear hcz26_0
          try clear hcz26_1
          try clear hcz26_2
          try clear hcz26_3
          try clear hcz28_0
          try clear hcz28_1
          try clear hcz28_2
          try clear hcz28_3
          try clear hcz29_0
          try clear hcz29_1
          try clear hcz6_0
          try clear hcz6_1
          try clear hfz11_0
          try clear hfz11_1
          try clear hfz14_0
          try clear hfz14_1
          try clear hfz14_2
          try clear hfz14_3
          try clear hfz17_0
          try clear hfz17_1
          try clear hfz17_2
          try clear hfz17_3
          try clear hfz19_0
          try clear hfz19_1
          try clear hfz19_2
          try clear hfz19_3
          try clear hfz22_0
          try clear hfz22_1
          try clear hfz26_0
          try clear hfz26_1
          try clear hfz26_2
          try clear hfz26_3
          try clear hfz28_0
          try clear hfz28_1
          try clear hfz28_2
          try clear hfz28_3
          try clear hfz29_0
          try clear hfz29_1
          try clear hfz6_0
          try clear hfz6_1
          try clear hx350_0
          try clear hx350_1
          try clear hx350_2
          try clear hx350_3
          try clear p2
          try clear p3
          try clear p350
          try clear q3
          try clear q350
          obtain ⟨kq, x42_22, rfl, HA, HJ22, BK349, BK351, HB⟩ := hcut
          cases kq with
          | zero => exact absurd HA.out (by simp [topiaryref15_Symbol.j2])
          | succ kj22 =>
           have H := HA.out
           clear HA
           simp only [topiaryref15_Symbol.j2] at H
           by_cases c30 : x42_22 = true
           ·subst c30
            rw [if_pos rfl] at H
            have H1 := H
            clear H
            have H := H1
            clear H1
            obtain rfl := Option.some.inj H
            go_wp2
            go_ret
            exact ⟨by first | rfl | (simp [errW_none, errW_some] <;> rfl) | (simp [*, errW_none, errW_some] <;> rfl), bt_ HB.out GE349.out GE351.out⟩
           ·replace c30 := Bool.eq_false_iff.mpr c30
            subst c30
            rw [if_neg (show ¬ (false = true) by decide)] at H
            have H1 := H
            clear H
            have H := H1
            clear H1
            by_cases c31 : ((rd_T52 l0_1 a1).f0) = 2
            ·rw [if_pos c31] at H
             have c31b0 : (((rd_T52 l0_1 a1).f0) == 2) = true := beq_iff_eq.mpr c31
             have c31b1 : (((rd_T52 l0_1 a1).f0) != 2) = false := bne_eq_false_iff_eq.mpr c31
             clear c31
             obtain rfl := Option.some.inj H
             have hnb32 := NB351_349.out
             have hnc32 := NB349_351.out
             have hcz33_0 : wc.cell? ⟨gb351, 0, none⟩ = some (.int .i64 ((rd_T52 l0_1 a1).f0)) := (blk_cell BK351.out 0).trans rfl
             have hcz33_1 : wc.cell? ⟨gb351, 1, none⟩ = some (.int .i64 ((rd_T52 l0_1 a1).f1)) := (blk_cell BK351.out 1).trans rfl
             have hcz33_2 : wc.cell? ⟨gb351, 2, none⟩ = some (.int .i64 ((rd_T52 l0_1 a1).f2)) := (blk_cell BK351.out 2).trans rfl
             have hcz33_3 : wc.cell? ⟨gb351, 3, none⟩ = some (.string ((rd_T52 l0_1 a1).f3)) := (blk_cell BK351.out 3).trans rfl
             have hfz33_0 := blk_frozen BK351.out 0
             have hfz33_1 := blk_frozen BK351.out 1
             have hfz33_2 := blk_frozen BK351.out 2
             have hfz33_3 := blk_frozen BK351.out 3
             go_wp2
             go_ret
             exact ⟨by first | rfl | (simp [errW_none, errW_some] <;> rfl) | (simp [*, errW_none, errW_some] <;> rfl), bt_ HB.out GE349.out GE351.out⟩
            ·rw [if_neg c31] at H
             have c31b0 : (((rd_T52 l0_1 a1).f0) == 2) = false := beq_eq_false_iff_ne.mpr c31
             have c31b1 : (((rd_T52 l0_1 a1).f0) != 2) = true := bne_iff_ne.mpr c31
             obtain rfl := Option.some.inj H
             have hnb34 := NB351_349.out
             have hnc34 := NB349_351.out
             have hcz35_0 : wc.cell? ⟨gb351, 0, none⟩ = some (.int .i64 ((rd_T52 l0_1 a1).f0)) := (blk_cell BK351.out 0).trans rfl
             have hcz35_1 : wc.cell? ⟨gb351, 1, none⟩ = some (.int .i64 ((rd_T52 l0_1 a1).f1)) := (blk_cell BK351.out 1).trans rfl
             have hcz35_2 : wc.cell? ⟨gb351, 2, none⟩ = some (.int .i64 ((rd_T52 l0_1 a1).f2)) := (blk_cell BK351.out 2).trans rfl
             have hcz35_3 : wc.cell? ⟨gb351, 3, none⟩ = some (.string ((rd_T52 l0_1 a1).f3)) := (blk_cell BK351.out 3).trans rfl
             have hfz35_0 := blk_frozen BK351.out 0
             have hfz35_1 := blk_frozen BK351.out 1
             have hfz35_2 := blk_frozen BK351.out 2
             have hfz35_3 := blk_frozen BK351.out 3
             go_wp2
             go_ret
             exact ⟨by first | rfl | (simp [errW_none, errW_some] <;> rfl) | (simp [*, errW_none, errW_some] <;> rfl), bt_ HB.out GE349.out GE351.out⟩
     ·rw [if_neg c9] at H
      exact absurd H (by simp)
    ·rw [if_neg c8] at H
     exact absurd H (by simp)
def topiaryref15_Up.l0 : Nat → List Int → Int → List ByteArray → List (S52) → Option (List Int)
 | 0, _, _, _, _ => none
 | k + 1, x5, x6, x390000, x390001 => if x6 ≥ 0 then ((topiaryref15_Symbol.f k x390000 x390001 x6).bind fun t391 => (if x5.length < 17592186044416 then ((topiaryref15_Parent.f x390000 x390001 x6).bind fun t395 => (topiaryref15_Up.l0 k (x5 ++ [t391]) t395 x390000 x390001)) else (none))) else (some x5)
def topiaryref15_Up.f (k : Nat) (l0_0 : List ByteArray) (l0_1 : List (S52)) (a1 : Int) : Option (List Int) := (topiaryref15_Parent.f l0_0 l0_1 a1).bind fun t390 => (topiaryref15_Up.l0 k ([] : List Int) t390 l0_0 l0_1)
set_option maxHeartbeats 8000000 in
set_option maxRecDepth 100000 in
theorem topiaryref15_Up.calls (k : Nat) (A0_0 : Option Addr) (c0_0 : Nat) (l0_0 : List ByteArray) (A0_1 : Option Addr) (c0_1 : Nat) (l0_1 : List (S52)) (a1 : Int) (r : List Int) (w : World) (hr0_0 : Kd.C Kd.string w A0_0 l0_0.length l0_0) (hc0_0 : l0_0.length ≤ c0_0) (hr0_1 : Kd.C k52 w A0_1 l0_1.length l0_1) (hc0_1 : l0_1.length ≤ c0_1) (h : topiaryref15_Up.f k l0_0 l0_1 a1 = some r) :
  Calls Try.prog 23 #[.agg #[.slice A0_0 l0_0.length c0_0, .slice A0_1 l0_1.length c0_1], .int .i64 a1] w fun e w' => ∃ v0_ : Value, e = .returned (v0_) ∧ Kd.R (Kd.int .i64) 3 w' w.heap.size (fun _ => True) v0_ r ∧ Below w.heap.size w w' := by
 have hu25 := Try.underlying25
 have HR0_0 := Aside0.mk hr0_0
 have HC0_0 := Aside0.mk hc0_0
 clear hr0_0 hc0_0
 have HR0_1 := Aside0.mk hr0_1
 have HC0_1 := Aside0.mk hc0_1
 clear hr0_1 hc0_1
 have HB := Aside0.mk (Below.refl w.heap.size w)
 have H : ((topiaryref15_Parent.f l0_0 l0_1 a1).bind fun t390 => (topiaryref15_Up.l0 k ([] : List Int) t390 l0_0 l0_1)) = some r := h
 clear h
 replace H := Option.bind_eq_some_iff.mp H
 obtain ⟨t390, A30, H⟩ := H
 try dsimp only at H
 have A3 := Aside0.mk A30
 clear A30
 have H' := Aside0.mk H
 clear H
 go_enter Try.func23, Try.ntmps23
 go_wp2_with (first | ((with_reducible refine gate_dst (N := 2) rfl ?_); refine box_event ?hg (N := 2) ?hd (cs := #[.slice A0_0 l0_0.length c0_0, .slice A0_1 l0_1.length c0_1]) (t := 25) ?hr ?_; (case hd => rfl); (case hg => rfl); (case hr => first | (go_simp; done) | (go_simp; rfl)); intro gb389 hg w4 hbox hb; have n0_ := Aside0.mk (below_step (bb_ HB.out) hb); have n1_ := Aside0.mk (hbox); have n2_ := Aside0.mk ((by rw [hg]; exact (below_size (bb_ HB.out)) : w.heap.size ≤ gb389)); have n3_ := Aside0.mk ((by rw [hg]; exact (below_size (bb_ HB.out)) : w.heap.size ≤ gb389)); clear HB; have HB := n0_; have BK389 := n1_; have GW389 := n2_; have GE389 := n3_; clear n0_ n1_ n2_ n3_; clear hb hbox hg; have hcz5_0 : w4.cell? ⟨gb389, 0, none⟩ = some (.slice A0_0 l0_0.length c0_0) := (blk_cell BK389.out 0).trans rfl; have hcz5_1 : w4.cell? ⟨gb389, 1, none⟩ = some (.slice A0_1 l0_1.length c0_1) := (blk_cell BK389.out 1).trans rfl; have hfz5_0 := blk_frozen BK389.out 0; have hfz5_1 := blk_frozen BK389.out 1) | ((with_reducible refine gate_callee (f := 18) rfl ?_); refine goesL_ (some 9) rfl rfl Try.func18 (by kernel_rfl) rfl #[.agg #[.slice A0_0 l0_0.length c0_0, .slice A0_1 l0_1.length c0_1], .int .i64 a1] rfl ar_ ?_; (with_reducible refine (topiaryref15_Parent.calls _ _ l0_0 _ _ l0_1 a1 t390 _ ?side1 ?side2 ?side3 ?side4 A3.out).mono ?_); (case side1 => exact cc_ (Kd.C_below HR0_0.out HB.out)); (case side2 => exact HC0_0.out); (case side3 => exact cc_ (Kd.C_below HR0_1.out HB.out)); (case side4 => exact HC0_1.out); rintro e w6 ⟨rfl, hb⟩; refine ⟨_, rfl, ?_⟩; have n0_ := Aside0.mk (blk_below (g := gb389) (o := .cells #[.slice A0_0 l0_0.length c0_0, .slice A0_1 l0_1.length c0_1] 25 (0, 0)) (bk_ BK389.out) hb); have n1_ := Aside0.mk (below_step (bs_ HB.out GE389.out) hb); clear BK389; clear HB; have BK389 := n0_; have HB := n1_; clear n0_ n1_; (try clear hb); (try clear hb2); (try clear hk); (try clear hi)))
 go_loopg [5, 6] k (fun kq v5 v6 w' => ∃ (x5_1 : List Int) (x6_1 : Int), v6 = .int .i64 x6_1 ∧ Aside0 (topiaryref15_Up.l0 kq x5_1 x6_1 l0_0 l0_1 = some r) ∧ Aside0 (kq ≤ k) ∧ Aside0 (Kd.R (Kd.int .i64) 3 w' w.heap.size (fun _ => True) v5 x5_1) ∧ Aside0 (w'.heap[gb389]? = some (.cells #[(.slice A0_0 l0_0.length c0_0), (.slice A0_1 l0_1.length c0_1)] 25 (0, 0))) ∧ Aside0 (Below w.heap.size w w'))
 case atStart => exact ⟨(([] : List Int)), (t390), sm_, H', ⟨Nat.le_refl _⟩, ⟨by first | exact Kd.R_nil _ _ _ _ _ | exact Kd.N_nil _ _ _ _ _ | exact Kd.V_nil _ _ _ _ _ | exact Kd.Q_nil _ _ _ _ _ | exact Kd.S_nil _ _ _ _ _⟩, ⟨bk_ BK389.out⟩, ⟨bs_ HB.out GE389.out⟩⟩
 case round =>
  clear H'
  try clear c1
  try clear c2
  try clear p2
  try clear hcz5_0
  try clear hcz5_1
  try clear hfz5_0
  try clear hfz5_1
  obtain ⟨x5_1, x6_1, rfl, HA, HK1, HO_5, BK389, HB⟩ := hrel
  cases gk with
  | zero => exact absurd HA.out (by simp [topiaryref15_Up.l0])
  | succ k1 =>
   have H := HA.out
   clear HA
   simp only [topiaryref15_Up.l0] at H
   by_cases c7 : x6_1 ≥ 0
   ·rw [if_pos c7] at H
    have c7b0 : decide (0 ≤ x6_1) = true := decide_eq_true c7
    clear c7
    replace H := Option.bind_eq_some_iff.mp H
    obtain ⟨t391, A80, H⟩ := H
    try dsimp only at H
    have A8 := Aside0.mk A80
    clear A80
    by_cases c9 : x5_1.length < 17592186044416
    ·rw [if_pos c9] at H
     have LMc9 := Aside0.mk c9
     clear c9
     obtain ⟨y392, hy392⟩ : ∃ y_ : List Int, y_ = (x5_1 ++ [t391]) := ⟨_, rfl⟩
     replace H : ((topiaryref15_Parent.f l0_0 l0_1 x6_1).bind fun t395 => (topiaryref15_Up.l0 k1 y392 t395 l0_0 l0_1)) = some r := by first | (rw [hy392]; with_reducible exact H) | (have H2_ := (Option.bind_some _ _).symm.trans H; rw [hy392]; with_reducible exact H2_) | (have H2_ := (Option.bind_some _ _).symm.trans H; with_reducible exact H2_) | with_reducible exact H | (rw [hy392]; exact H) | exact H
     have Ny392 := Aside0.mk hy392
     clear hy392
     replace H := Option.bind_eq_some_iff.mp H
     obtain ⟨t395, A100, H⟩ := H
     try dsimp only at H
     have A10 := Aside0.mk A100
     clear A100
     have H' := Aside0.mk H
     clear H
     have hcz11_0 : wr.cell? ⟨gb389, 0, none⟩ = some (.slice A0_0 l0_0.length c0_0) := (blk_cell BK389.out 0).trans rfl
     have hcz11_1 : wr.cell? ⟨gb389, 1, none⟩ = some (.slice A0_1 l0_1.length c0_1) := (blk_cell BK389.out 1).trans rfl
     have hfz11_0 := blk_frozen BK389.out 0
     have hfz11_1 := blk_frozen BK389.out 1
     go_wp2_with (first | ((with_reducible refine gate_callee (f := 12) rfl ?_); refine goesL_ (some 18) rfl rfl Try.func12 (by kernel_rfl) rfl #[.agg #[.slice A0_0 l0_0.length c0_0, .slice A0_1 l0_1.length c0_1], .int .i64 x6_1] rfl ar_ ?_; (with_reducible refine (topiaryref15_Symbol.calls k1 _ _ l0_0 _ _ l0_1 x6_1 t391 _ ?side1 ?side2 ?side3 ?side4 A8.out).mono ?_); (case side1 => exact cc_ (Kd.C_below HR0_0.out HB.out)); (case side2 => exact HC0_0.out); (case side3 => exact cc_ (Kd.C_below HR0_1.out HB.out)); (case side4 => exact HC0_1.out); rintro e w12 ⟨rfl, hb⟩; refine ⟨_, rfl, ?_⟩; have n0_ := Aside0.mk (Kd.R_below (rr_ HO_5.out) hb); have n1_ := Aside0.mk (blk_below (g := gb389) (o := .cells #[.slice A0_0 l0_0.length c0_0, .slice A0_1 l0_1.length c0_1] 25 (0, 0)) (bk_ BK389.out) hb); have n2_ := Aside0.mk (below_step (bs_ HB.out GE389.out) hb); clear HO_5; clear BK389; clear HB; have HO_5 := n0_; have BK389 := n1_; have HB := n2_; clear n0_ n1_ n2_; (try clear hb); (try clear hb2); (try clear hk); (try clear hi)) | ((with_reducible refine gate_builtin (b := .append) (xs := #[.tmp 15, .tmp 19]) rfl ?_); at_builtin; refine Kd.R_append (Kd.int .i64) (w0 := w) w.heap.size rfl (.tmp 15) (.tmp 19) 29 3 (.int .i64 0) 8 rfl Try.underlying29 info3 rfl (by decide) (by omega) u5 x5_1 t391 [.int .i64 t391] (fun _ => True) (fun _ => False) rfl rfl ?aP (fun _ hk => hk.elim) ?aF ?aO ?aB ?aS ?aL ?_; (case aP => exact rfl); (case aB => exact (bs_ HB.out GE389.out)); (case aF => exact (fun _ _ => trivial)); (case aO => exact (rr_ HO_5.out)); (case aS => exact (below_size (bs_ HB.out GE389.out))); (case aL => have := LMc9.out; omega); intro v393 w13 ho hb hg hat; rw [← Ny392.out] at ho; have n0_ := Aside0.mk (blk_grown (g := gb389) (o := .cells #[.slice A0_0 l0_0.length c0_0, .slice A0_1 l0_1.length c0_1] 25 (0, 0)) (bk_ BK389.out) hg (Kd.R_ne HO_5.out BK389.out (by decide))); have n1_ := Aside0.mk (hb); have n2_ := Aside0.mk (ho); clear BK389; clear HB; clear HO_5; have BK389 := n0_; have HB := n1_; have HO394 := n2_; clear n0_ n1_ n2_; clear ho hb hg hat; have hcz14_0 : w13.cell? ⟨gb389, 0, none⟩ = some (.slice A0_0 l0_0.length c0_0) := (blk_cell BK389.out 0).trans rfl; have hcz14_1 : w13.cell? ⟨gb389, 1, none⟩ = some (.slice A0_1 l0_1.length c0_1) := (blk_cell BK389.out 1).trans rfl; have hfz14_0 := blk_frozen BK389.out 0; have hfz14_1 := blk_frozen BK389.out 1) | ((with_reducible refine gate_callee (f := 18) rfl ?_); refine goesL_ (some 14) rfl rfl Try.func18 (by kernel_rfl) rfl #[.agg #[.slice A0_0 l0_0.length c0_0, .slice A0_1 l0_1.length c0_1], .int .i64 x6_1] rfl ar_ ?_; (with_reducible refine (topiaryref15_Parent.calls _ _ l0_0 _ _ l0_1 x6_1 t395 _ ?side1 ?side2 ?side3 ?side4 A10.out).mono ?_); (case side1 => exact cc_ (Kd.C_below HR0_0.out HB.out)); (case side2 => exact HC0_0.out); (case side3 => exact cc_ (Kd.C_below HR0_1.out HB.out)); (case side4 => exact HC0_1.out); rintro e w15 ⟨rfl, hb⟩; refine ⟨_, rfl, ?_⟩; have n0_ := Aside0.mk (Kd.R_below (rr_ HO394.out) hb); have n1_ := Aside0.mk (blk_below (g := gb389) (o := .cells #[.slice A0_0 l0_0.length c0_0, .slice A0_1 l0_1.length c0_1] 25 (0, 0)) (bk_ BK389.out) hb); have n2_ := Aside0.mk (below_step (bs_ HB.out GE389.out) hb); clear HO394; clear BK389; clear HB; have HO394 := n0_; have BK389 := n1_; have HB := n2_; clear n0_ n1_ n2_; (try clear hb); (try clear hb2); (try clear hk); (try clear hi)))
     go_roundg k1
     case measure => have := HK1.out; omega
     case rel => exact ⟨(y392), (t395), sm_, H', ⟨by have := HK1.out; omega⟩, ⟨rr_ HO394.out⟩, ⟨bk_ BK389.out⟩, ⟨bs_ HB.out GE389.out⟩⟩
    ·rw [if_neg c9] at H
     exact absurd H (by simp)
   ·rw [if_neg c7] at H
    have c7b0 : decide (0 ≤ x6_1) = false := decide_eq_false c7
    clear c7
    obtain rfl := Option.some.inj H
    go_wp2
    go_ret
    exact ⟨_, by first | rfl | (simp [errW_none, errW_some] <;> rfl) | (simp [*, errW_none, errW_some] <;> rfl), rr_ HO_5.out, bs_ HB.out GE389.out⟩
end Go.Proofs.Ytoanmoddppmffaa.T
