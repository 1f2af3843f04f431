/- What each function of the program comes to, and its walk: laid by a program. -/
import Derived.Test.YtoanmoddppmffaaATx0
import Derived.Test.YtoanmoddppmffaaATx1
import Derived.Test.YtoanmoddppmffaaATx2
import Derived.Test.YtoanmoddppmffaaATx15
namespace Go.Proofs.Ytoanmoddppmffaa.T
open Go.RowKit Go.Proofs.YtoanmoddppmffaaW.PrintWords Go.Proofs.YtoanmoddppmffaaW.PrintLast Go.Proofs.YtoanmoddppmffaaW.PrintMore
set_option linter.unusedVariables false
set_option linter.unusedSimpArgs false
mutual
def topiaryref15_Symbol.j0 : Nat → Int → Bool → List ByteArray → List (S52) → Option (Int)
 | 0, _, _, _, _ => none
 | k + 1, x1, x14, x350000, x350001 => if x14 = true then (some (-1)) else (if 0 ≤ x1 then (if x1 < (x350001.length : Int) then (if ((rd_T52 x350001 x1).f0) = 1 then (topiaryref15_Symbol.j1 k false x350000 x350001 ((rd_T52 x350001 x1).f0) ((rd_T52 x350001 x1).f1) ((rd_T52 x350001 x1).f2) ((rd_T52 x350001 x1).f3)) else (topiaryref15_Symbol.j1 k (((rd_T52 x350001 x1).f0) != 2) x350000 x350001 ((rd_T52 x350001 x1).f0) ((rd_T52 x350001 x1).f1) ((rd_T52 x350001 x1).f2) ((rd_T52 x350001 x1).f3))) else (none)) else (none))
def topiaryref15_Symbol.j1 : Nat → Bool → List ByteArray → List (S52) → Int → Int → Int → ByteArray → Option (Int)
 | 0, _, _, _, _, _, _, _ => none
 | k + 1, x27, x350000, x350001, x352000, x352001, x352002, x352003 => if x27 = true then (some (wrap64 (2 * (x350000.length : Int)))) else (if x352001 < 0 then (topiaryref15_Symbol.j2 k true x352000 x352001 x352002 x352003) else (topiaryref15_Symbol.j2 k (decide (x352001 ≥ (x350000.length : Int))) x352000 x352001 x352002 x352003))
def topiaryref15_Symbol.j2 : Nat → Bool → Int → Int → Int → ByteArray → Option (Int)
 | 0, _, _, _, _, _ => none
 | k + 1, x42, x352000, x352001, x352002, x352003 => if x42 = true then (some (-1)) else (if x352000 = 2 then (some (wrap64 ((wrap64 (2 * x352001)) + 1))) else (some (wrap64 (2 * x352001))))
end
def topiaryref15_Symbol.f (k : Nat) (l0_0 : List ByteArray) (l0_1 : List (S52)) (a1 : Int) : Option (Int) := if a1 < 0 then (topiaryref15_Symbol.j0 k a1 true l0_0 l0_1) else (topiaryref15_Symbol.j0 k a1 (decide (a1 ≥ (l0_1.length : Int))) l0_0 l0_1)
theorem topiaryref15_Symbol.mono_l : ∀ k, (∀ y0 y1 y2 y3, LeO (topiaryref15_Symbol.j0 k y0 y1 y2 y3) (topiaryref15_Symbol.j0 (k + 1) y0 y1 y2 y3)) ∧ (∀ y0 y1 y2 y3 y4 y5 y6, LeO (topiaryref15_Symbol.j1 k y0 y1 y2 y3 y4 y5 y6) (topiaryref15_Symbol.j1 (k + 1) y0 y1 y2 y3 y4 y5 y6)) ∧ (∀ y0 y1 y2 y3 y4, LeO (topiaryref15_Symbol.j2 k y0 y1 y2 y3 y4) (topiaryref15_Symbol.j2 (k + 1) y0 y1 y2 y3 y4))
 | 0 => ⟨fun _ _ _ _ r h => by simp [topiaryref15_Symbol.j0] at h, fun _ _ _ _ _ _ _ r h => by simp [topiaryref15_Symbol.j1] at h, fun _ _ _ _ _ r h => by simp [topiaryref15_Symbol.j2] at h⟩
 | k + 1 => by
  obtain ⟨ih0, ih1, ih2⟩ := topiaryref15_Symbol.mono_l k
  refine ⟨?_, ?_, ?_⟩
  ·intro y0 y1 y2 y3
   unfold topiaryref15_Symbol.j0
   repeat' first
   | (with_reducible exact ih0 _ _ _ _)
   | (with_reducible exact ih1 _ _ _ _ _ _ _)
   | (with_reducible exact ih2 _ _ _ _ _)
   | (with_reducible exact LeO.refl _)
   | (with_reducible exact LeO.none _)
   | (with_reducible refine LeO.ite ?_ ?_)
   | (with_reducible refine LeO.bind ?_ (fun _ => ?_))
   | exact ih0 _ _ _ _
   | exact ih1 _ _ _ _ _ _ _
   | exact ih2 _ _ _ _ _
   | exact LeO.none _
   | refine LeO.ite ?_ ?_
   | refine LeO.bind ?_ (fun _ => ?_)
  ·intro y0 y1 y2 y3 y4 y5 y6
   unfold topiaryref15_Symbol.j1
   repeat' first
   | (with_reducible exact ih0 _ _ _ _)
   | (with_reducible exact ih1 _ _ _ _ _ _ _)
   | (with_reducible exact ih2 _ _ _ _ _)
   | (with_reducible exact LeO.refl _)
   | (with_reducible exact LeO.none _)
   | (with_reducible refine LeO.ite ?_ ?_)
   | (with_reducible refine LeO.bind ?_ (fun _ => ?_))
   | exact ih0 _ _ _ _
   | exact ih1 _ _ _ _ _ _ _
   | exact ih2 _ _ _ _ _
   | exact LeO.none _
   | refine LeO.ite ?_ ?_
   | refine LeO.bind ?_ (fun _ => ?_)
  ·intro y0 y1 y2 y3 y4
   unfold topiaryref15_Symbol.j2
   repeat' first
   | (with_reducible exact ih0 _ _ _ _)
   | (with_reducible exact ih1 _ _ _ _ _ _ _)
   | (with_reducible exact ih2 _ _ _ _ _)
   | (with_reducible exact LeO.refl _)
   | (with_reducible exact LeO.none _)
   | (with_reducible refine LeO.ite ?_ ?_)
   | (with_reducible refine LeO.bind ?_ (fun _ => ?_))
   | exact ih0 _ _ _ _
   | exact ih1 _ _ _ _ _ _ _
   | exact ih2 _ _ _ _ _
   | exact LeO.none _
   | refine LeO.ite ?_ ?_
   | refine LeO.bind ?_ (fun _ => ?_)
theorem topiaryref15_Symbol.mono : ∀ a0 a1 a2 k, LeO (topiaryref15_Symbol.f k a0 a1 a2) (topiaryref15_Symbol.f (k + 1) a0 a1 a2) := by
 intro a0 a1 a2 k
 obtain ⟨ih0, ih1, ih2⟩ := topiaryref15_Symbol.mono_l k
 unfold topiaryref15_Symbol.f
 repeat' first
   | (with_reducible exact ih0 _ _ _ _)
   | (with_reducible exact ih1 _ _ _ _ _ _ _)
   | (with_reducible exact ih2 _ _ _ _ _)
   | (with_reducible exact LeO.refl _)
   | (with_reducible exact LeO.none _)
   | (with_reducible refine LeO.ite ?_ ?_)
   | (with_reducible refine LeO.bind ?_ (fun _ => ?_))
   | exact ih0 _ _ _ _
   | exact ih1 _ _ _ _ _ _ _
   | exact ih2 _ _ _ _ _
   | exact LeO.none _
   | refine LeO.ite ?_ ?_
   | refine LeO.bind ?_ (fun _ => ?_)
set_option maxHeartbeats 8000000 in
set_option maxRecDepth 100000 in
theorem topiaryref15_Symbol.calls (k : Nat) (A0_0 : Option Addr) (c0_0 : Nat) (l0_0 : List ByteArray) (A0_1 : Option Addr) (c0_1 : Nat) (l0_1 : List (S52)) (a1 : Int) (r : Int) (w : World) (hr0_0 : Kd.C Kd.string w A0_0 l0_0.length l0_0) (hc0_0 : l0_0.length ≤ c0_0) (hr0_1 : Kd.C k52 w A0_1 l0_1.length l0_1) (hc0_1 : l0_1.length ≤ c0_1) (h : topiaryref15_Symbol.f k l0_0 l0_1 a1 = some r) :
  Calls Try.prog 12 #[.agg #[.slice A0_0 l0_0.length c0_0, .slice A0_1 l0_1.length c0_1], .int .i64 a1] w fun e w' => e = .returned (.int .i64 r) ∧ Below w.heap.size w w' := by
 have hu25 := Try.underlying25
 have hu52 := Try.underlying52
 have HR0_0 := Aside0.mk hr0_0
 have HC0_0 := Aside0.mk hc0_0
 clear hr0_0 hc0_0
 have HR0_1 := Aside0.mk hr0_1
 have HC0_1 := Aside0.mk hc0_1
 clear hr0_1 hc0_1
 have HB := Aside0.mk (Below.refl w.heap.size w)
 have H : (if a1 < 0 then (topiaryref15_Symbol.j0 k a1 true l0_0 l0_1) else (topiaryref15_Symbol.j0 k a1 (decide (a1 ≥ (l0_1.length : Int))) l0_0 l0_1)) = some r := h
 clear h
 have HC3 := Aside0.mk H
 clear H
 go_enter Try.func12, Try.ntmps12
 go_upto_region 1 with (first | ((with_reducible refine gate_dst (N := 2) rfl ?_); (try (refine gate_guard (by rfl) ?_; dsimp only)); refine box_event ?hg (N := 2) ?hd (cs := #[.slice A0_0 l0_0.length c0_0, .slice A0_1 l0_1.length c0_1]) (t := 25) ?hr ?_; (case hd => rfl); (case hg => rfl); (case hr => first | (go_simp; done) | (go_simp; rfl)); intro gb349 hg w4 hbox hb; have n0_ := Aside0.mk (below_step (bb_ HB.out) hb); have n1_ := Aside0.mk (hbox); have n2_ := Aside0.mk ((by rw [hg]; exact (below_size (bb_ HB.out)) : w.heap.size ≤ gb349)); have n3_ := Aside0.mk ((by rw [hg]; exact (below_size (bb_ HB.out)) : w.heap.size ≤ gb349)); clear HB; have HB := n0_; have BK349 := n1_; have GW349 := n2_; have GE349 := n3_; clear n0_ n1_ n2_ n3_; clear hb hbox hg))
 (try simp only [Act.put, List.setIfInBounds_toArray, List.set_cons_zero, List.set_cons_succ])
 go_cut [14] (fun v14 wc => ∃ (kq : Nat) (x14_2 : Bool), v14 = .bool x14_2 ∧ Aside0 (topiaryref15_Symbol.j0 kq a1 x14_2 l0_0 l0_1 = some r) ∧ Aside0 (kq ≤ k) ∧ Aside0 (wc.heap[gb349]? = some (.cells #[(.slice A0_0 l0_0.length c0_0), (.slice A0_1 l0_1.length c0_1)] 25 (0, 0))) ∧ Aside0 (Below w.heap.size w wc))
 case first =>
  have H := HC3.out
  clear HC3
  by_cases c5 : a1 < 0
  ·rw [if_pos c5] at H
   have c5b0 : decide (a1 < 0) = true := decide_eq_true c5
   clear c5
   (first | rw [c5b0] | (simp only [i64_w, i32_w]; rw [c5b0]) | skip)
   have H' := Aside0.mk H
   clear H
   go_wp2
   go_meet
   case rel => exact ⟨_, (true), sm_, H', ⟨by first | omega | exact Nat.le_refl _⟩, ⟨by exact bk_ BK349.out⟩, ⟨by repeat (first | (with_reducible first | exact HB.out | apply below_alloc | apply pw_below_drewN | apply below_drew1 | refine below_set ?_ GE349.out) | exact HB.out)⟩⟩
  ·rw [if_neg c5] at H
   have c5b0 : decide (a1 < 0) = false := decide_eq_false c5
   clear c5
   (first | rw [c5b0] | (simp only [i64_w, i32_w]; rw [c5b0]) | skip)
   have H' := Aside0.mk H
   clear H
   have hcz6_0 : w4.cell? ⟨gb349, 0, none⟩ = some (.slice A0_0 l0_0.length c0_0) := (blk_cell BK349.out 0).trans rfl
   have hcz6_1 : w4.cell? ⟨gb349, 1, none⟩ = some (.slice A0_1 l0_1.length c0_1) := (blk_cell BK349.out 1).trans rfl
   have hfz6_0 := blk_frozen BK349.out 0
   have hfz6_1 := blk_frozen BK349.out 1
   go_wp2
   go_meet
   case rel => exact ⟨_, (decide (a1 ≥ (l0_1.length : Int))), sm_, H', ⟨by first | omega | exact Nat.le_refl _⟩, ⟨by exact bk_ BK349.out⟩, ⟨by repeat (first | (with_reducible first | exact HB.out | apply below_alloc | apply pw_below_drewN | apply below_drew1 | refine below_set ?_ GE349.out) | exact HB.out)⟩⟩
 case rest =>
  clear HC3
  try clear c1
  try clear p2
  try clear c5
  try clear c5b0
  try clear hcz6_0
  try clear hcz6_1
  try clear hfz6_0
  try clear hfz6_1
  obtain ⟨kq, x14_2, rfl, HA, HJ2, BK349, HB⟩ := hcut
  cases kq with
  | zero => exact absurd HA.out (by simp [topiaryref15_Symbol.j0])
  | succ kj2 =>
   have H := HA.out
   clear HA
   simp only [topiaryref15_Symbol.j0] at H
   by_cases c7 : x14_2 = true
   ·subst c7
    have H1 : (some (-1)) = some r := by rw [if_pos rfl] at H; exact H
    clear H
    have H := H1
    clear H1
    obtain rfl := Option.some.inj H
    go_wp2
    go_ret
    exact ⟨by first | rfl | (simp [errW_none, errW_some] <;> rfl) | (simp [*, errW_none, errW_some] <;> rfl), by repeat (first | (with_reducible first | exact HB.out | apply below_alloc | apply pw_below_drewN | apply below_drew1 | refine below_set ?_ GE349.out) | exact HB.out)⟩
   ·replace c7 := Bool.eq_false_iff.mpr c7
    subst c7
    have H1 : (if 0 ≤ a1 then (if a1 < (l0_1.length : Int) then (if ((rd_T52 l0_1 a1).f0) = 1 then (topiaryref15_Symbol.j1 kj2 false l0_0 l0_1 ((rd_T52 l0_1 a1).f0) ((rd_T52 l0_1 a1).f1) ((rd_T52 l0_1 a1).f2) ((rd_T52 l0_1 a1).f3)) else (topiaryref15_Symbol.j1 kj2 (((rd_T52 l0_1 a1).f0) != 2) l0_0 l0_1 ((rd_T52 l0_1 a1).f0) ((rd_T52 l0_1 a1).f1) ((rd_T52 l0_1 a1).f2) ((rd_T52 l0_1 a1).f3))) else (none)) else (none)) = some r := by rw [if_neg (show ¬ (false = true) by decide)] at H; exact H
    clear H
    have H := H1
    clear H1
    by_cases c8 : 0 ≤ a1
    ·rw [if_pos c8] at H
     have c8b0 : decide (0 ≤ a1) = true := decide_eq_true c8
     clear c8
     by_cases c9 : a1 < (l0_1.length : Int)
     ·rw [if_pos c9] at H
      have c9b0 : decide (a1 < (l0_1.length : Int)) = true := decide_eq_true c9
      clear c9
      have HC10 := Aside0.mk H
      clear H
      have hcz11_0 : wc.cell? ⟨gb349, 0, none⟩ = some (.slice A0_0 l0_0.length c0_0) := (blk_cell BK349.out 0).trans rfl
      have hcz11_1 : wc.cell? ⟨gb349, 1, none⟩ = some (.slice A0_1 l0_1.length c0_1) := (blk_cell BK349.out 1).trans rfl
      have hfz11_0 := blk_frozen BK349.out 0
      have hfz11_1 := blk_frozen BK349.out 1
      have p350 : 0 ≤ (a1 : Int) := of_decide_eq_true as_
      have q350 : a1 < (l0_1.length : Int) := of_decide_eq_true as_
      obtain ⟨ad350, e350, hx350_0, hx350_1, hx350_2, hx350_3⟩ := at_T52 HR0_1.out a1 p350 q350
      cases e350
      replace hx350_0 := (HB.out.cell (World.block_lt_of_cell? w _ hx350_0)).trans hx350_0
      replace hx350_1 := (HB.out.cell (World.block_lt_of_cell? w _ hx350_1)).trans hx350_1
      replace hx350_2 := (HB.out.cell (World.block_lt_of_cell? w _ hx350_2)).trans hx350_2
      replace hx350_3 := (HB.out.cell (World.block_lt_of_cell? w _ hx350_3)).trans hx350_3
      replace p350 := eq_true p350
      replace q350 := eq_true q350
      go_upto_region 4 with (first | ((with_reducible refine gate_dst (N := 5) rfl ?_); (try (refine gate_guard (by rfl) ?_; dsimp only)); refine box_event ?hg (N := 5) ?hd (cs := #[.int .i64 0, .int .i64 0, .int .i64 0, .string (⟨#[]⟩ : ByteArray)]) (t := 52) ?hr ?_; (case hd => rfl); (case hg => rfl); (case hr => first | (go_simp; done) | (go_simp; rfl)); intro gb351 hg w12 hbox hb; have n0_ := Aside0.mk (blk_below (g := gb349) (o := .cells #[.slice A0_0 l0_0.length c0_0, .slice (some ad350) l0_1.length c0_1] 25 (0, 0)) (bk_ BK349.out) hb); have n1_ := Aside0.mk (below_step (bs_ HB.out GE349.out) hb); have n2_ := Aside0.mk (hbox); have n3_ := Aside0.mk ((by rw [hg]; exact (below_size (bs_ HB.out GE349.out)) : w.heap.size ≤ gb351)); have n4_ := Aside0.mk ((by rw [hg]; exact (below_size (bs_ HB.out GE349.out)) : w.heap.size ≤ gb351)); have n5_ := Aside0.mk ((by rw [hg]; exact Nat.ne_of_lt (blk_lt (g := gb349) (o := .cells #[.slice A0_0 l0_0.length c0_0, .slice (some ad350) l0_1.length c0_1] 25 (0, 0)) (bk_ BK349.out)) : gb349 ≠ gb351)); have n6_ := Aside0.mk ((by rw [hg]; exact Nat.ne_of_gt (blk_lt (g := gb349) (o := .cells #[.slice A0_0 l0_0.length c0_0, .slice (some ad350) l0_1.length c0_1] 25 (0, 0)) (bk_ BK349.out)) : gb351 ≠ gb349)); clear BK349; clear HB; have BK349 := n0_; have HB := n1_; have BK351 := n2_; have GW351 := n3_; have GE351 := n4_; have NB349_351 := n5_; have NB351_349 := n6_; clear n0_ n1_ n2_ n3_ n4_ n5_ n6_; clear hb hbox hg; have hnb13 := NB351_349.out; have hnc13 := NB349_351.out; have hcz14_0 : w12.cell? ⟨gb351, 0, none⟩ = some (.int .i64 0) := (blk_cell BK351.out 0).trans rfl; have hcz14_1 : w12.cell? ⟨gb351, 1, none⟩ = some (.int .i64 0) := (blk_cell BK351.out 1).trans rfl; have hcz14_2 : w12.cell? ⟨gb351, 2, none⟩ = some (.int .i64 0) := (blk_cell BK351.out 2).trans rfl; have hcz14_3 : w12.cell? ⟨gb351, 3, none⟩ = some (.string (⟨#[]⟩ : ByteArray)) := (blk_cell BK351.out 3).trans rfl; have hfz14_0 := blk_frozen BK351.out 0; have hfz14_1 := blk_frozen BK351.out 1; have hfz14_2 := blk_frozen BK351.out 2; have hfz14_3 := blk_frozen BK351.out 3))
      (try simp only [Act.put, List.setIfInBounds_toArray, List.set_cons_zero, List.set_cons_succ])
      go_cut [27] (fun v27 wc => ∃ (kq : Nat) (x27_9 : Bool), v27 = .bool x27_9 ∧ Aside0 (topiaryref15_Symbol.j1 kq x27_9 l0_0 l0_1 ((rd_T52 l0_1 a1).f0) ((rd_T52 l0_1 a1).f1) ((rd_T52 l0_1 a1).f2) ((rd_T52 l0_1 a1).f3) = some r) ∧ Aside0 (kq ≤ kj2) ∧ Aside0 (wc.heap[gb349]? = some (.cells #[(.slice A0_0 l0_0.length c0_0), (.slice (some ad350) l0_1.length c0_1)] 25 (0, 0))) ∧ Aside0 (wc.heap[gb351]? = some (.cells #[.int .i64 ((rd_T52 l0_1 a1).f0), .int .i64 ((rd_T52 l0_1 a1).f1), .int .i64 ((rd_T52 l0_1 a1).f2), .string ((rd_T52 l0_1 a1).f3)] 52 (0, 0))) ∧ Aside0 (Below w.heap.size w wc))
      case first =>
       have H := HC10.out
       clear HC10
       by_cases c15 : ((rd_T52 l0_1 a1).f0) = 1
       ·rw [if_pos c15] at H
        have c15b0 : (((rd_T52 l0_1 a1).f0) == 1) = true := beq_iff_eq.mpr c15
        have c15b1 : (((rd_T52 l0_1 a1).f0) != 1) = false := bne_eq_false_iff_eq.mpr c15
        clear c15
        (first | rw [c15b0] | (simp only [i64_w, i32_w]; rw [c15b0]) | skip)
        have H' := Aside0.mk H
        clear H
        have hnb16 := NB351_349.out
        have hnc16 := NB349_351.out
        have hcz17_0 : w12.cell? ⟨gb351, 0, none⟩ = some (.int .i64 0) := (blk_cell BK351.out 0).trans rfl
        have hcz17_1 : w12.cell? ⟨gb351, 1, none⟩ = some (.int .i64 0) := (blk_cell BK351.out 1).trans rfl
        have hcz17_2 : w12.cell? ⟨gb351, 2, none⟩ = some (.int .i64 0) := (blk_cell BK351.out 2).trans rfl
        have hcz17_3 : w12.cell? ⟨gb351, 3, none⟩ = some (.string (⟨#[]⟩ : ByteArray)) := (blk_cell BK351.out 3).trans rfl
        have hfz17_0 := blk_frozen BK351.out 0
        have hfz17_1 := blk_frozen BK351.out 1
        have hfz17_2 := blk_frozen BK351.out 2
        have hfz17_3 := blk_frozen BK351.out 3
        go_wp2
        go_meet
        case rel => exact ⟨_, (false), sm_, H', ⟨by have := HJ2.out; first | omega | exact Nat.le_refl _⟩, ⟨by (with_reducible repeat (first | refine blk_drewN ?_ _ | refine blk_drew ?_ | refine blk_alloc ?_ _)); refine blk_far ?_ NB349_351.out _; (with_reducible repeat (first | refine blk_drewN ?_ _ | refine blk_drew ?_ | refine blk_alloc ?_ _)); refine blk_far ?_ NB349_351.out _; (with_reducible repeat (first | refine blk_drewN ?_ _ | refine blk_drew ?_ | refine blk_alloc ?_ _)); refine blk_far ?_ NB349_351.out _; (with_reducible repeat (first | refine blk_drewN ?_ _ | refine blk_drew ?_ | refine blk_alloc ?_ _)); refine blk_far ?_ NB349_351.out _; exact bk_ BK349.out⟩, ⟨by (with_reducible repeat (first | refine blk_drewN ?_ _ | refine blk_drew ?_ | refine blk_alloc ?_ _)); refine blk_put (cs := #[.int .i64 ((rd_T52 l0_1 a1).f0), .int .i64 ((rd_T52 l0_1 a1).f1), .int .i64 ((rd_T52 l0_1 a1).f2), .string (⟨#[]⟩ : ByteArray)]) ?_ 3 _ rfl; (with_reducible repeat (first | refine blk_drewN ?_ _ | refine blk_drew ?_ | refine blk_alloc ?_ _)); refine blk_put (cs := #[.int .i64 ((rd_T52 l0_1 a1).f0), .int .i64 ((rd_T52 l0_1 a1).f1), .int .i64 0, .string (⟨#[]⟩ : ByteArray)]) ?_ 2 _ rfl; (with_reducible repeat (first | refine blk_drewN ?_ _ | refine blk_drew ?_ | refine blk_alloc ?_ _)); refine blk_put (cs := #[.int .i64 ((rd_T52 l0_1 a1).f0), .int .i64 0, .int .i64 0, .string (⟨#[]⟩ : ByteArray)]) ?_ 1 _ rfl; (with_reducible repeat (first | refine blk_drewN ?_ _ | refine blk_drew ?_ | refine blk_alloc ?_ _)); refine blk_put (cs := #[.int .i64 0, .int .i64 0, .int .i64 0, .string (⟨#[]⟩ : ByteArray)]) ?_ 0 _ rfl; exact bk_ BK351.out⟩, ⟨by repeat (first | (with_reducible first | exact HB.out | apply below_alloc | apply pw_below_drewN | apply below_drew1 | refine below_set ?_ GE349.out | refine below_set ?_ GE351.out) | exact HB.out)⟩⟩
       ·rw [if_neg c15] at H
        have c15b0 : (((rd_T52 l0_1 a1).f0) == 1) = false := beq_eq_false_iff_ne.mpr c15
        have c15b1 : (((rd_T52 l0_1 a1).f0) != 1) = true := bne_iff_ne.mpr c15
        (first | rw [c15b0] | (simp only [i64_w, i32_w]; rw [c15b0]) | skip)
        have H' := Aside0.mk H
        clear H
        have hnb18 := NB351_349.out
        have hnc18 := NB349_351.out
        have hcz19_0 : w12.cell? ⟨gb351, 0, none⟩ = some (.int .i64 0) := (blk_cell BK351.out 0).trans rfl
        have hcz19_1 : w12.cell? ⟨gb351, 1, none⟩ = some (.int .i64 0) := (blk_cell BK351.out 1).trans rfl
        have hcz19_2 : w12.cell? ⟨gb351, 2, none⟩ = some (.int .i64 0) := (blk_cell BK351.out 2).trans rfl
        have hcz19_3 : w12.cell? ⟨gb351, 3, none⟩ = some (.string (⟨#[]⟩ : ByteArray)) := (blk_cell BK351.out 3).trans rfl
        have hfz19_0 := blk_frozen BK351.out 0
        have hfz19_1 := blk_frozen BK351.out 1
        have hfz19_2 := blk_frozen BK351.out 2
        have hfz19_3 := blk_frozen BK351.out 3
        go_wp2
        go_meet
        case rel => exact ⟨_, ((((rd_T52 l0_1 a1).f0) != 2)), sm_, H', ⟨by have := HJ2.out; first | omega | exact Nat.le_refl _⟩, ⟨by (with_reducible repeat (first | refine blk_drewN ?_ _ | refine blk_drew ?_ | refine blk_alloc ?_ _)); refine blk_far ?_ NB349_351.out _; (with_reducible repeat (first | refine blk_drewN ?_ _ | refine blk_drew ?_ | refine blk_alloc ?_ _)); refine blk_far ?_ NB349_351.out _; (with_reducible repeat (first | refine blk_drewN ?_ _ | refine blk_drew ?_ | refine blk_alloc ?_ _)); refine blk_far ?_ NB349_351.out _; (with_reducible repeat (first | refine blk_drewN ?_ _ | refine blk_drew ?_ | refine blk_alloc ?_ _)); refine blk_far ?_ NB349_351.out _; exact bk_ BK349.out⟩, ⟨by (with_reducible repeat (first | refine blk_drewN ?_ _ | refine blk_drew ?_ | refine blk_alloc ?_ _)); refine blk_put (cs := #[.int .i64 ((rd_T52 l0_1 a1).f0), .int .i64 ((rd_T52 l0_1 a1).f1), .int .i64 ((rd_T52 l0_1 a1).f2), .string (⟨#[]⟩ : ByteArray)]) ?_ 3 _ rfl; (with_reducible repeat (first | refine blk_drewN ?_ _ | refine blk_drew ?_ | refine blk_alloc ?_ _)); refine blk_put (cs := #[.int .i64 ((rd_T52 l0_1 a1).f0), .int .i64 ((rd_T52 l0_1 a1).f1), .int .i64 0, .string (⟨#[]⟩ : ByteArray)]) ?_ 2 _ rfl; (with_reducible repeat (first | refine blk_drewN ?_ _ | refine blk_drew ?_ | refine blk_alloc ?_ _)); refine blk_put (cs := #[.int .i64 ((rd_T52 l0_1 a1).f0), .int .i64 0, .int .i64 0, .string (⟨#[]⟩ : ByteArray)]) ?_ 1 _ rfl; (with_reducible repeat (first | refine blk_drewN ?_ _ | refine blk_drew ?_ | refine blk_alloc ?_ _)); refine blk_put (cs := #[.int .i64 0, .int .i64 0, .int .i64 0, .string (⟨#[]⟩ : ByteArray)]) ?_ 0 _ rfl; exact bk_ BK351.out⟩, ⟨by repeat (first | (with_reducible first | exact HB.out | apply below_alloc | apply pw_below_drewN | apply below_drew1 | refine below_set ?_ GE349.out | refine below_set ?_ GE351.out) | exact HB.out)⟩⟩
      case rest =>
       clear HC10
       try clear c1
       try clear p2
       try clear p3
       try clear q3
       try clear hx3
       try clear c5
       try clear c5b0
       try clear c7
       try clear c8
       try clear c8b0
       try clear c9
       try clear c9b0
       try clear c12
       try clear c13
       try clear c15
       try clear c15b0
       try clear c15b1
       try clear c16
       try clear c18
       try clear hcz11_0
       try clear hcz11_1
       try clear hcz14_0
       try clear hcz14_1
       try clear hcz14_2
       try clear hcz14_3
       try clear hcz17_0
       try clear hcz17_1
       try clear hcz17_2
       try clear hcz17_3
       try clear hcz19_0
       try clear hcz19_1
       try clear hcz19_2
       try clear hcz19_3
       try clear hcz6_0
       try clear hcz6_1
       try clear hfz11_0
       try clear hfz11_1
       try clear hfz14_0
       try clear hfz14_1
       try clear hfz14_2
       try clear hfz14_3
       try clear hfz17_0
       try clear hfz17_1
       try clear hfz17_2
       try clear hfz17_3
       try clear hfz19_0
       try clear hfz19_1
       try clear hfz19_2
       try clear hfz19_3
       try clear hfz6_0
       try clear hfz6_1
       try clear hx350_0
       try clear hx350_1
       try clear hx350_2
       try clear hx350_3
       try clear p2
       try clear p350
       try clear q350
       obtain ⟨kq, x27_9, rfl, HA, HJ9, BK349, BK351, HB⟩ := hcut
       cases kq with
       | zero => exact absurd HA.out (by simp [topiaryref15_Symbol.j1])
       | succ kj9 =>
        have H := HA.out
        clear HA
        simp only [topiaryref15_Symbol.j1] at H
        by_cases c20 : x27_9 = true
        ·subst c20
         have H1 : (some (wrap64 (2 * (l0_0.length : Int)))) = some r := by rw [if_pos rfl] at H; exact H
         clear H
         have H := H1
         clear H1
         obtain rfl := Option.some.inj H
         have hnb21 := NB349_351.out
         have hnc21 := NB351_349.out
         have hcz22_0 : wc.cell? ⟨gb349, 0, none⟩ = some (.slice A0_0 l0_0.length c0_0) := (blk_cell BK349.out 0).trans rfl
         have hcz22_1 : wc.cell? ⟨gb349, 1, none⟩ = some (.slice (some ad350) l0_1.length c0_1) := (blk_cell BK349.out 1).trans rfl
         have hfz22_0 := blk_frozen BK349.out 0
         have hfz22_1 := blk_frozen BK349.out 1
         go_wp2
         go_ret
         exact ⟨by first | rfl | (simp [errW_none, errW_some] <;> rfl) | (simp [*, errW_none, errW_some] <;> rfl), by repeat (first | (with_reducible first | exact HB.out | apply below_alloc | apply pw_below_drewN | apply below_drew1 | refine below_set ?_ GE349.out | refine below_set ?_ GE351.out) | exact HB.out)⟩
        ·replace c20 := Bool.eq_false_iff.mpr c20
         subst c20
         have H1 : (if ((rd_T52 l0_1 a1).f1) < 0 then (topiaryref15_Symbol.j2 kj9 true ((rd_T52 l0_1 a1).f0) ((rd_T52 l0_1 a1).f1) ((rd_T52 l0_1 a1).f2) ((rd_T52 l0_1 a1).f3)) else (topiaryref15_Symbol.j2 kj9 (decide (((rd_T52 l0_1 a1).f1) ≥ (l0_0.length : Int))) ((rd_T52 l0_1 a1).f0) ((rd_T52 l0_1 a1).f1) ((rd_T52 l0_1 a1).f2) ((rd_T52 l0_1 a1).f3))) = some r := by rw [if_neg (show ¬ (false = true) by decide)] at H; exact H
         clear H
         have H := H1
         clear H1
         have HC23 := Aside0.mk H
         clear H
         go_upto_region 6 with (fail)
         go_cut [42] (fun v42 wc => ∃ (kq : Nat) (x42_22 : Bool), v42 = .bool x42_22 ∧ Aside0 (topiaryref15_Symbol.j2 kq x42_22 ((rd_T52 l0_1 a1).f0) ((rd_T52 l0_1 a1).f1) ((rd_T52 l0_1 a1).f2) ((rd_T52 l0_1 a1).f3) = some r) ∧ Aside0 (kq ≤ kj9) ∧ Aside0 (wc.heap[gb349]? = some (.cells #[(.slice A0_0 l0_0.length c0_0), (.slice (some ad350) l0_1.length c0_1)] 25 (0, 0))) ∧ Aside0 (wc.heap[gb351]? = some (.cells #[.int .i64 ((rd_T52 l0_1 a1).f0), .int .i64 ((rd_T52 l0_1 a1).f1), .int .i64 ((rd_T52 l0_1 a1).f2), .string ((rd_T52 l0_1 a1).f3)] 52 (0, 0))) ∧ Aside0 (Below w.heap.size w wc))
         case first =>
          have H := HC23.out
          clear HC23
          by_cases c24 : ((rd_T52 l0_1 a1).f1) < 0
          ·rw [if_pos c24] at H
           have c24b0 : decide (((rd_T52 l0_1 a1).f1) < 0) = true := decide_eq_true c24
           clear c24
           (first | rw [c24b0] | (simp only [i64_w, i32_w]; rw [c24b0]) | skip)
           have H' := Aside0.mk H
           clear H
           have hnb25 := NB351_349.out
           have hnc25 := NB349_351.out
           have hcz26_0 : wc.cell? ⟨gb351, 0, none⟩ = some (.int .i64 ((rd_T52 l0_1 a1).f0)) := (blk_cell BK351.out 0).trans rfl
           have hcz26_1 : wc.cell? ⟨gb351, 1, none⟩ = some (.int .i64 ((rd_T52 l0_1 a1).f1)) := (blk_cell BK351.out 1).trans rfl
           have hcz26_2 : wc.cell? ⟨gb351, 2, none⟩ = some (.int .i64 ((rd_T52 l0_1 a1).f2)) := (blk_cell BK351.out 2).trans rfl
           have hcz26_3 : wc.cell? ⟨gb351, 3, none⟩ = some (.string ((rd_T52 l0_1 a1).f3)) := (blk_cell BK351.out 3).trans rfl
           have hfz26_0 := blk_frozen BK351.out 0
           have hfz26_1 := blk_frozen BK351.out 1
           have hfz26_2 := blk_frozen BK351.out 2
           have hfz26_3 := blk_frozen BK351.out 3
           go_wp2
           go_meet
           case rel => exact ⟨_, (true), sm_, H', ⟨by have := HJ2.out; have := HJ9.out; first | omega | exact Nat.le_refl _⟩, ⟨by exact bk_ BK349.out⟩, ⟨by exact bk_ BK351.out⟩, ⟨by repeat (first | (with_reducible first | exact HB.out | apply below_alloc | apply pw_below_drewN | apply below_drew1 | refine below_set ?_ GE349.out | refine below_set ?_ GE351.out) | exact HB.out)⟩⟩
          ·rw [if_neg c24] at H
           have c24b0 : decide (((rd_T52 l0_1 a1).f1) < 0) = false := decide_eq_false c24
           clear c24
           (first | rw [c24b0] | (simp only [i64_w, i32_w]; rw [c24b0]) | skip)
           have H' := Aside0.mk H
           clear H
           have hnb27 := NB351_349.out
           have hnc27 := NB349_351.out
           have hcz28_0 : wc.cell? ⟨gb351, 0, none⟩ = some (.int .i64 ((rd_T52 l0_1 a1).f0)) := (blk_cell BK351.out 0).trans rfl
           have hcz28_1 : wc.cell? ⟨gb351, 1, none⟩ = some (.int .i64 ((rd_T52 l0_1 a1).f1)) := (blk_cell BK351.out 1).trans rfl
           have hcz28_2 : wc.cell? ⟨gb351, 2, none⟩ = some (.int .i64 ((rd_T52 l0_1 a1).f2)) := (blk_cell BK351.out 2).trans rfl
           have hcz28_3 : wc.cell? ⟨gb351, 3, none⟩ = some (.string ((rd_T52 l0_1 a1).f3)) := (blk_cell BK351.out 3).trans rfl
           have hfz28_0 := blk_frozen BK351.out 0
           have hfz28_1 := blk_frozen BK351.out 1
           have hfz28_2 := blk_frozen BK351.out 2
           have hfz28_3 := blk_frozen BK351.out 3
           have hcz29_0 : wc.cell? ⟨gb349, 0, none⟩ = some (.slice A0_0 l0_0.length c0_0) := (blk_cell BK349.out 0).trans rfl
           have hcz29_1 : wc.cell? ⟨gb349, 1, none⟩ = some (.slice (some ad350) l0_1.length c0_1) := (blk_cell BK349.out 1).trans rfl
           have hfz29_0 := blk_frozen BK349.out 0
           have hfz29_1 := blk_frozen BK349.out 1
           go_wp2
           go_meet
           case rel => exact ⟨_, (decide (((rd_T52 l0_1 a1).f1) ≥ (l0_0.length : Int))), sm_, H', ⟨by have := HJ2.out; have := HJ9.out; first | omega | exact Nat.le_refl _⟩, ⟨by exact bk_ BK349.out⟩, ⟨by exact bk_ BK351.out⟩, ⟨by repeat (first | (with_reducible first | exact HB.out | apply below_alloc | apply pw_below_drewN | apply below_drew1 | refine below_set ?_ GE349.out | refine below_set ?_ GE351.out) | exact HB.out)⟩⟩
         case rest =>
          clear HC23
          try clear c1
          try clear c2
          try clear p2
          try clear p3
          try clear q3
          try clear hx3
          try clear c5
          try clear c5b0
          try clear p6
          try clear c7
          try clear c8
          try clear c8b0
          try clear c9
          try clear c9b0
          try clear c12
          try clear c13
          try clear c15
          try clear c15b0
          try clear c15b1
          try clear c16
          try clear c18
          try clear c20
          try clear c21
          try clear c24
          try clear c24b0
          try clear c25
          try clear c27
          try clear hcz11_0
          try clear hcz11_1
          try clear hcz14_0
          try clear hcz14_1
          try clear hcz14_2
          try clear hcz14_3
          try clear hcz17_0
          try clear hcz17_1
          try clear hcz17_2
          try clear hcz17_3
          try clear hcz19_0
          try clear hcz19_1
          try clear hcz19_2
          try clear hcz19_3
          try clear hcz22_0
          try clear hcz22_1
          try clear hcz26_0
          try clear hcz26_1
          try clear hcz26_2
          try clear hcz26_3
          try clear hcz28_0
          try clear hcz28_1
          try clear hcz28_2
          try clear hcz28_3
          try clear hcz29_0
          try clear hcz29_1
          try clear hcz6_0
          try clear hcz6_1
          try clear hfz11_0
          try clear hfz11_1
          try clear hfz14_0
          try clear hfz14_1
          try clear hfz14_2
          try clear hfz14_3
          try clear hfz17_0
          try clear hfz17_1
          try clear hfz17_2
          try clear hfz17_3
          try clear hfz19_0
          try clear hfz19_1
          try clear hfz19_2
          try clear hfz19_3
          try clear hfz22_0
          try clear hfz22_1
          try clear hfz26_0
          try clear hfz26_1
          try clear hfz26_2
          try clear hfz26_3
          try clear hfz28_0
          try clear hfz28_1
          try clear hfz28_2
          try clear hfz28_3
          try clear hfz29_0
          try clear hfz29_1
          try clear hfz6_0
          try clear hfz6_1
          try clear hx350_0
          try clear hx350_1
          try clear hx350_2
          try clear hx350_3
          try clear p2
          try clear p3
          try clear p350
          try clear q3
          try clear q350
          obtain ⟨kq, x42_22, rfl, HA, HJ22, BK349, BK351, HB⟩ := hcut
          cases kq with
          | zero => exact absurd HA.out (by simp [topiaryref15_Symbol.j2])
          | succ kj22 =>
           have H := HA.out
           clear HA
           simp only [topiaryref15_Symbol.j2] at H
           by_cases c30 : x42_22 = true
           ·subst c30
            have H1 : (some (-1)) = some r := by rw [if_pos rfl] at H; exact H
            clear H
            have H := H1
            clear H1
            obtain rfl := Option.some.inj H
            go_wp2
            go_ret
            exact ⟨by first | rfl | (simp [errW_none, errW_some] <;> rfl) | (simp [*, errW_none, errW_some] <;> rfl), by repeat (first | (with_reducible first | exact HB.out | apply below_alloc | apply pw_below_drewN | apply below_drew1 | refine below_set ?_ GE349.out | refine below_set ?_ GE351.out) | exact HB.out)⟩
           ·replace c30 := Bool.eq_false_iff.mpr c30
            subst c30
            have H1 : (if ((rd_T52 l0_1 a1).f0) = 2 then (some (wrap64 ((wrap64 (2 * ((rd_T52 l0_1 a1).f1))) + 1))) else (some (wrap64 (2 * ((rd_T52 l0_1 a1).f1))))) = some r := by rw [if_neg (show ¬ (false = true) by decide)] at H; exact H
            clear H
            have H := H1
            clear H1
            by_cases c31 : ((rd_T52 l0_1 a1).f0) = 2
            ·rw [if_pos c31] at H
             have c31b0 : (((rd_T52 l0_1 a1).f0) == 2) = true := beq_iff_eq.mpr c31
             have c31b1 : (((rd_T52 l0_1 a1).f0) != 2) = false := bne_eq_false_iff_eq.mpr c31
             clear c31
             obtain rfl := Option.some.inj H
             have hnb32 := NB351_349.out
             have hnc32 := NB349_351.out
             have hcz33_0 : wc.cell? ⟨gb351, 0, none⟩ = some (.int .i64 ((rd_T52 l0_1 a1).f0)) := (blk_cell BK351.out 0).trans rfl
             have hcz33_1 : wc.cell? ⟨gb351, 1, none⟩ = some (.int .i64 ((rd_T52 l0_1 a1).f1)) := (blk_cell BK351.out 1).trans rfl
             have hcz33_2 : wc.cell? ⟨gb351, 2, none⟩ = some (.int .i64 ((rd_T52 l0_1 a1).f2)) := (blk_cell BK351.out 2).trans rfl
             have hcz33_3 : wc.cell? ⟨gb351, 3, none⟩ = some (.string ((rd_T52 l0_1 a1).f3)) := (blk_cell BK351.out 3).trans rfl
             have hfz33_0 := blk_frozen BK351.out 0
             have hfz33_1 := blk_frozen BK351.out 1
             have hfz33_2 := blk_frozen BK351.out 2
             have hfz33_3 := blk_frozen BK351.out 3
             go_wp2
             go_ret
             exact ⟨by first | rfl | (simp [errW_none, errW_some] <;> rfl) | (simp [*, errW_none, errW_some] <;> rfl), by repeat (first | (with_reducible first | exact HB.out | apply below_alloc | apply pw_below_drewN | apply below_drew1 | refine below_set ?_ GE349.out | refine below_set ?_ GE351.out) | exact HB.out)⟩
            ·rw [if_neg c31] at H
             have c31b0 : (((rd_T52 l0_1 a1).f0) == 2) = false := beq_eq_false_iff_ne.mpr c31
             have c31b1 : (((rd_T52 l0_1 a1).f0) != 2) = true := bne_iff_ne.mpr c31
             obtain rfl := Option.some.inj H
             have hnb34 := NB351_349.out
             have hnc34 := NB349_351.out
             have hcz35_0 : wc.cell? ⟨gb351, 0, none⟩ = some (.int .i64 ((rd_T52 l0_1 a1).f0)) := (blk_cell BK351.out 0).trans rfl
             have hcz35_1 : wc.cell? ⟨gb351, 1, none⟩ = some (.int .i64 ((rd_T52 l0_1 a1).f1)) := (blk_cell BK351.out 1).trans rfl
             have hcz35_2 : wc.cell? ⟨gb351, 2, none⟩ = some (.int .i64 ((rd_T52 l0_1 a1).f2)) := (blk_cell BK351.out 2).trans rfl
             have hcz35_3 : wc.cell? ⟨gb351, 3, none⟩ = some (.string ((rd_T52 l0_1 a1).f3)) := (blk_cell BK351.out 3).trans rfl
             have hfz35_0 := blk_frozen BK351.out 0
             have hfz35_1 := blk_frozen BK351.out 1
             have hfz35_2 := blk_frozen BK351.out 2
             have hfz35_3 := blk_frozen BK351.out 3
             go_wp2
             go_ret
             exact ⟨by first | rfl | (simp [errW_none, errW_some] <;> rfl) | (simp [*, errW_none, errW_some] <;> rfl), by repeat (first | (with_reducible first | exact HB.out | apply below_alloc | apply pw_below_drewN | apply below_drew1 | refine below_set ?_ GE349.out | refine below_set ?_ GE351.out) | exact HB.out)⟩
     ·rw [if_neg c9] at H
      exact absurd H (by simp)
    ·rw [if_neg c8] at H
     exact absurd H (by simp)
def tree_Labelled.l0 : Nat → Int → Int → List Int → Int → Int → List ByteArray → List (S52) → Option (Int)
 | 0, _, _, _, _, _, _, _ => none
 | k + 1, x2, x3, x13, x14, x15, x353000, x353001 => if x15 < x14 then (if 0 ≤ x15 then (if x15 < (x13.length : Int) then ((tree_Symbol.f k x353000 x353001 (rd x13 x15)).bind fun t357 => (if t357 = x2 then (if x3 = 0 then (some (rd x13 x15)) else (tree_Labelled.l0 k x2 (wrap64 (x3 - 1)) x13 x14 (wrap64 (x15 + 1)) x353000 x353001)) else (tree_Labelled.l0 k x2 x3 x13 x14 (wrap64 (x15 + 1)) x353000 x353001))) else (none)) else (none)) else (some (-1))
def tree_Labelled.f (k : Nat) (l0_0 : List ByteArray) (l0_1 : List (S52)) (a1 : Int) (a2 : Int) (a3 : Int) : Option (Int) := (tree_Children.f l0_0 l0_1 a1).bind fun t353 => (tree_Labelled.l0 k a2 a3 t353 (t353.length : Int) 0 l0_0 l0_1)
theorem tree_Labelled.mono_l : ∀ k, (∀ y0 y1 y2 y3 y4 y5 y6, LeO (tree_Labelled.l0 k y0 y1 y2 y3 y4 y5 y6) (tree_Labelled.l0 (k + 1) y0 y1 y2 y3 y4 y5 y6))
 | 0 => fun _ _ _ _ _ _ _ r h => by simp [tree_Labelled.l0] at h
 | k + 1 => by
  have ih0 := tree_Labelled.mono_l k
  ·intro y0 y1 y2 y3 y4 y5 y6
   unfold tree_Labelled.l0
   repeat' first
   | (with_reducible exact ih0 _ _ _ _ _ _ _)
   | (with_reducible exact tree_Symbol.mono _ _ _ _)
   | (with_reducible exact LeO.refl _)
   | (with_reducible exact LeO.none _)
   | (with_reducible refine LeO.ite ?_ ?_)
   | (with_reducible refine LeO.bind ?_ (fun _ => ?_))
   | exact ih0 _ _ _ _ _ _ _
   | exact tree_Symbol.mono _ _ _ _
   | exact LeO.none _
   | refine LeO.ite ?_ ?_
   | refine LeO.bind ?_ (fun _ => ?_)
theorem tree_Labelled.mono : ∀ a0 a1 a2 a3 a4 k, LeO (tree_Labelled.f k a0 a1 a2 a3 a4) (tree_Labelled.f (k + 1) a0 a1 a2 a3 a4) := by
 intro a0 a1 a2 a3 a4 k
 have ih0 := tree_Labelled.mono_l k
 unfold tree_Labelled.f
 repeat' first
   | (with_reducible exact ih0 _ _ _ _ _ _ _)
   | (with_reducible exact tree_Symbol.mono _ _ _ _)
   | (with_reducible exact LeO.refl _)
   | (with_reducible exact LeO.none _)
   | (with_reducible refine LeO.ite ?_ ?_)
   | (with_reducible refine LeO.bind ?_ (fun _ => ?_))
   | exact ih0 _ _ _ _ _ _ _
   | exact tree_Symbol.mono _ _ _ _
   | exact LeO.none _
   | refine LeO.ite ?_ ?_
   | refine LeO.bind ?_ (fun _ => ?_)
set_option maxHeartbeats 8000000 in
set_option maxRecDepth 100000 in
theorem tree_Labelled.calls (k : Nat) (A0_0 : Option Addr) (c0_0 : Nat) (l0_0 : List ByteArray) (A0_1 : Option Addr) (c0_1 : Nat) (l0_1 : List (S52)) (a1 : Int) (a2 : Int) (a3 : Int) (r : Int) (w : World) (hr0_0 : Kd.C Kd.string w A0_0 l0_0.length l0_0) (hc0_0 : l0_0.length ≤ c0_0) (hr0_1 : Kd.C k52 w A0_1 l0_1.length l0_1) (hc0_1 : l0_1.length ≤ c0_1) (h : tree_Labelled.f k l0_0 l0_1 a1 a2 a3 = some r) :
  Calls Try.prog 21 #[.agg #[.slice A0_0 l0_0.length c0_0, .slice A0_1 l0_1.length c0_1], .int .i64 a1, .int .i64 a2, .int .i64 a3] w fun e w' => e = .returned (.int .i64 r) ∧ Below w.heap.size w w' := by
 have hu25 := Try.underlying25
 have HR0_0 := Aside0.mk hr0_0
 have HC0_0 := Aside0.mk hc0_0
 clear hr0_0 hc0_0
 have HR0_1 := Aside0.mk hr0_1
 have HC0_1 := Aside0.mk hc0_1
 clear hr0_1 hc0_1
 have HB := Aside0.mk (Below.refl w.heap.size w)
 have H : ((tree_Children.f l0_0 l0_1 a1).bind fun t353 => (tree_Labelled.l0 k a2 a3 t353 (t353.length : Int) 0 l0_0 l0_1)) = some r := h
 clear h
 replace H := Option.bind_eq_some_iff.mp H
 obtain ⟨t353, A50, H⟩ := H
 replace H : (tree_Labelled.l0 k a2 a3 t353 (t353.length : Int) 0 l0_0 l0_1) = some r := H
 have A5 := Aside0.mk A50
 clear A50
 have H' := Aside0.mk H
 clear H
 go_enter Try.func21, Try.ntmps21
 go_wp2_with (first | ((with_reducible refine gate_dst (N := 4) rfl ?_); refine box_event ?hg (N := 4) ?hd (cs := #[.slice A0_0 l0_0.length c0_0, .slice A0_1 l0_1.length c0_1]) (t := 25) ?hr ?_; (case hd => rfl); (case hg => rfl); (case hr => first | (go_simp; done) | (go_simp; rfl)); intro gb352 hg w6 hbox hb; have n0_ := Aside0.mk (below_step (bb_ HB.out) hb); have n1_ := Aside0.mk (hbox); have n2_ := Aside0.mk ((by rw [hg]; exact (below_size (bb_ HB.out)) : w.heap.size ≤ gb352)); have n3_ := Aside0.mk ((by rw [hg]; exact (below_size (bb_ HB.out)) : w.heap.size ≤ gb352)); clear HB; have HB := n0_; have BK352 := n1_; have GW352 := n2_; have GE352 := n3_; clear n0_ n1_ n2_ n3_; clear hb hbox hg; have hcz7_0 : w6.cell? ⟨gb352, 0, none⟩ = some (.slice A0_0 l0_0.length c0_0) := (blk_cell BK352.out 0).trans rfl; have hcz7_1 : w6.cell? ⟨gb352, 1, none⟩ = some (.slice A0_1 l0_1.length c0_1) := (blk_cell BK352.out 1).trans rfl; have hfz7_0 := blk_frozen BK352.out 0; have hfz7_1 := blk_frozen BK352.out 1) | ((with_reducible refine gate_callee (f := 14) rfl ?_); refine goesL_ (some 13) rfl rfl Try.func14 (by kernel_rfl) rfl #[.agg #[.slice A0_0 l0_0.length c0_0, .slice A0_1 l0_1.length c0_1], .int .i64 a1] rfl ar_ ?_; (with_reducible refine (tree_Children.calls _ _ l0_0 _ _ l0_1 a1 t353 _ ?side1 ?side2 ?side3 ?side4 A5.out).mono ?_); (case side1 => repeat (first | exact (Kd.C_below HR0_0.out HB.out) | (with_reducible refine Kd.C_alloc ?_ _) | (with_reducible refine Kd.C_drewN ?_ _) | (with_reducible refine Kd.C_drew ?_))); (case side2 => exact HC0_0.out); (case side3 => repeat (first | exact (Kd.C_below HR0_1.out HB.out) | (with_reducible refine Kd.C_alloc ?_ _) | (with_reducible refine Kd.C_drewN ?_ _) | (with_reducible refine Kd.C_drew ?_))); (case side4 => exact HC0_1.out); rintro e w8 ⟨v354, rfl, ho0, hb⟩; refine ⟨_, rfl, ?_⟩; have n0_ := Aside0.mk (Kd.R_lower ho0 (below_size (bs_ HB.out GE352.out))); have n1_ := Aside0.mk (blk_below (g := gb352) (o := .cells #[.slice A0_0 l0_0.length c0_0, .slice A0_1 l0_1.length c0_1] 25 (0, 0)) (bk_ BK352.out) hb); have n2_ := Aside0.mk (below_step (bs_ HB.out GE352.out) hb); clear BK352; clear HB; have HO355 := n0_; have BK352 := n1_; have HB := n2_; clear n0_ n1_ n2_; (try clear hb); (try clear hb2); (try clear hk); (try clear hi); (try clear ho0); obtain ⟨Ao9, co9, eo9⟩ := Kd.R_slice HO355.out; subst eo9))
 go_loopg [3, 15] k (fun kq v3 v15 w' => ∃ (x3_1 : Int) (x15_1 : Int), v3 = .int .i64 x3_1 ∧ v15 = .int .i64 x15_1 ∧ Aside0 (tree_Labelled.l0 kq a2 x3_1 t353 (t353.length : Int) x15_1 l0_0 l0_1 = some r) ∧ Aside0 (kq ≤ k) ∧ Aside0 (Kd.R (Kd.int .i64) 3 w' w.heap.size (fun _ => True) (.slice Ao9 t353.length co9) t353) ∧ Aside0 (w'.heap[gb352]? = some (.cells #[(.slice A0_0 l0_0.length c0_0), (.slice A0_1 l0_1.length c0_1)] 25 (0, 0))) ∧ Aside0 (Below w.heap.size w w'))
 case atStart => exact ⟨(a3), (0), sm_, sm_, H', ⟨Nat.le_refl _⟩, ⟨by exact rr_ HO355.out⟩, ⟨by exact bk_ BK352.out⟩, ⟨by repeat (first | (with_reducible first | exact HB.out | apply below_alloc | apply pw_below_drewN | apply below_drew1 | refine below_set ?_ GE352.out) | exact HB.out)⟩⟩
 case round =>
  clear H'
  try clear c1
  try clear c2
  try clear p2
  try clear hcz7_0
  try clear hcz7_1
  try clear hfz7_0
  try clear hfz7_1
  obtain ⟨x3_1, x15_1, rfl, rfl, HA, HK1, HO_13, BK352, HB⟩ := hrel
  cases gk with
  | zero => exact absurd HA.out (by simp [tree_Labelled.l0])
  | succ k1 =>
   have H := HA.out
   clear HA
   simp only [tree_Labelled.l0] at H
   by_cases c10 : x15_1 < (t353.length : Int)
   ·rw [if_pos c10] at H
    have c10b0 : decide (x15_1 < (t353.length : Int)) = true := decide_eq_true c10
    clear c10
    by_cases c11 : 0 ≤ x15_1
    ·rw [if_pos c11] at H
     have c11b0 : decide (0 ≤ x15_1) = true := decide_eq_true c11
     clear c11
     by_cases c12 : x15_1 < (t353.length : Int)
     ·rw [if_pos c12] at H
      have c12b0 : decide (x15_1 < (t353.length : Int)) = true := decide_eq_true c12
      clear c12
      replace H := Option.bind_eq_some_iff.mp H
      obtain ⟨t357, A130, H⟩ := H
      replace H : (if t357 = a2 then (if x3_1 = 0 then (some (rd t353 x15_1)) else (tree_Labelled.l0 k1 a2 (wrap64 (x3_1 - 1)) t353 (t353.length : Int) (wrap64 (x15_1 + 1)) l0_0 l0_1)) else (tree_Labelled.l0 k1 a2 x3_1 t353 (t353.length : Int) (wrap64 (x15_1 + 1)) l0_0 l0_1)) = some r := H
      have A13 := Aside0.mk A130
      clear A130
      by_cases c14 : t357 = a2
      ·rw [if_pos c14] at H
       have c14b0 : (t357 == a2) = true := beq_iff_eq.mpr c14
       have c14b1 : (t357 != a2) = false := bne_eq_false_iff_eq.mpr c14
       clear c14
       by_cases c15 : x3_1 = 0
       ·rw [if_pos c15] at H
        have c15b0 : (x3_1 == 0) = true := beq_iff_eq.mpr c15
        have c15b1 : (x3_1 != 0) = false := bne_eq_false_iff_eq.mpr c15
        clear c15
        obtain rfl := Option.some.inj H
        have p356 : 0 ≤ (x15_1 : Int) := of_decide_eq_true as_
        have q356 : x15_1 < (t353.length : Int) := of_decide_eq_true as_
        obtain ⟨ad356, e356, hx356_0⟩ := Kd.at_int (Kd.R_reads' HO_13.out).2.2 x15_1 p356 q356
        cases e356
        replace p356 := eq_true p356
        replace q356 := eq_true q356
        have hcz16_0 : wr.cell? ⟨gb352, 0, none⟩ = some (.slice A0_0 l0_0.length c0_0) := (blk_cell BK352.out 0).trans rfl
        have hcz16_1 : wr.cell? ⟨gb352, 1, none⟩ = some (.slice A0_1 l0_1.length c0_1) := (blk_cell BK352.out 1).trans rfl
        have hfz16_0 := blk_frozen BK352.out 0
        have hfz16_1 := blk_frozen BK352.out 1
        go_wp2_with (first | ((with_reducible refine gate_callee (f := 16) rfl ?_); refine goesL_ (some 21) rfl rfl Try.func16 (by kernel_rfl) rfl #[.agg #[.slice A0_0 l0_0.length c0_0, .slice A0_1 l0_1.length c0_1], .int .i64 (rd t353 x15_1)] rfl ar_ ?_; (with_reducible refine (tree_Symbol.calls k1 _ _ l0_0 _ _ l0_1 (rd t353 x15_1) t357 _ ?side1 ?side2 ?side3 ?side4 A13.out).mono ?_); (case side1 => repeat (first | exact (Kd.C_below HR0_0.out HB.out) | (with_reducible refine Kd.C_alloc ?_ _) | (with_reducible refine Kd.C_drewN ?_ _) | (with_reducible refine Kd.C_drew ?_))); (case side2 => exact HC0_0.out); (case side3 => repeat (first | exact (Kd.C_below HR0_1.out HB.out) | (with_reducible refine Kd.C_alloc ?_ _) | (with_reducible refine Kd.C_drewN ?_ _) | (with_reducible refine Kd.C_drew ?_))); (case side4 => exact HC0_1.out); rintro e w17 ⟨rfl, hb⟩; refine ⟨_, rfl, ?_⟩; have n0_ := Aside0.mk (Kd.R_below (rr_ HO_13.out) hb); have n1_ := Aside0.mk (blk_below (g := gb352) (o := .cells #[.slice A0_0 l0_0.length c0_0, .slice A0_1 l0_1.length c0_1] 25 (0, 0)) (bk_ BK352.out) hb); have n2_ := Aside0.mk (below_step (bs_ HB.out GE352.out) hb); clear HO_13; clear BK352; clear HB; have HO_13 := n0_; have BK352 := n1_; have HB := n2_; clear n0_ n1_ n2_; (try clear hb); (try clear hb2); (try clear hk); (try clear hi)))
        go_ret
        exact ⟨by first | rfl | (simp [errW_none, errW_some] <;> rfl) | (simp [*, errW_none, errW_some] <;> rfl), by repeat (first | (with_reducible first | exact HB.out | apply below_alloc | apply pw_below_drewN | apply below_drew1 | refine below_set ?_ GE352.out) | exact HB.out)⟩
       ·rw [if_neg c15] at H
        have c15b0 : (x3_1 == 0) = false := beq_eq_false_iff_ne.mpr c15
        have c15b1 : (x3_1 != 0) = true := bne_iff_ne.mpr c15
        have H' := Aside0.mk H
        clear H
        have p356 : 0 ≤ (x15_1 : Int) := of_decide_eq_true as_
        have q356 : x15_1 < (t353.length : Int) := of_decide_eq_true as_
        obtain ⟨ad356, e356, hx356_0⟩ := Kd.at_int (Kd.R_reads' HO_13.out).2.2 x15_1 p356 q356
        cases e356
        replace p356 := eq_true p356
        replace q356 := eq_true q356
        have hcz18_0 : wr.cell? ⟨gb352, 0, none⟩ = some (.slice A0_0 l0_0.length c0_0) := (blk_cell BK352.out 0).trans rfl
        have hcz18_1 : wr.cell? ⟨gb352, 1, none⟩ = some (.slice A0_1 l0_1.length c0_1) := (blk_cell BK352.out 1).trans rfl
        have hfz18_0 := blk_frozen BK352.out 0
        have hfz18_1 := blk_frozen BK352.out 1
        go_wp2_with (first | ((with_reducible refine gate_callee (f := 16) rfl ?_); refine goesL_ (some 21) rfl rfl Try.func16 (by kernel_rfl) rfl #[.agg #[.slice A0_0 l0_0.length c0_0, .slice A0_1 l0_1.length c0_1], .int .i64 (rd t353 x15_1)] rfl ar_ ?_; (with_reducible refine (tree_Symbol.calls k1 _ _ l0_0 _ _ l0_1 (rd t353 x15_1) t357 _ ?side1 ?side2 ?side3 ?side4 A13.out).mono ?_); (case side1 => repeat (first | exact (Kd.C_below HR0_0.out HB.out) | (with_reducible refine Kd.C_alloc ?_ _) | (with_reducible refine Kd.C_drewN ?_ _) | (with_reducible refine Kd.C_drew ?_))); (case side2 => exact HC0_0.out); (case side3 => repeat (first | exact (Kd.C_below HR0_1.out HB.out) | (with_reducible refine Kd.C_alloc ?_ _) | (with_reducible refine Kd.C_drewN ?_ _) | (with_reducible refine Kd.C_drew ?_))); (case side4 => exact HC0_1.out); rintro e w19 ⟨rfl, hb⟩; refine ⟨_, rfl, ?_⟩; have n0_ := Aside0.mk (Kd.R_below (rr_ HO_13.out) hb); have n1_ := Aside0.mk (blk_below (g := gb352) (o := .cells #[.slice A0_0 l0_0.length c0_0, .slice A0_1 l0_1.length c0_1] 25 (0, 0)) (bk_ BK352.out) hb); have n2_ := Aside0.mk (below_step (bs_ HB.out GE352.out) hb); clear HO_13; clear BK352; clear HB; have HO_13 := n0_; have BK352 := n1_; have HB := n2_; clear n0_ n1_ n2_; (try clear hb); (try clear hb2); (try clear hk); (try clear hi)))
        go_roundg k1
        case measure => have := HK1.out; omega
        case rel => exact ⟨(wrap64 (x3_1 - 1)), (wrap64 (x15_1 + 1)), sm_, sm_, H', ⟨by have := HK1.out; omega⟩, ⟨by exact rr_ HO_13.out⟩, ⟨by exact bk_ BK352.out⟩, ⟨by repeat (first | (with_reducible first | exact HB.out | apply below_alloc | apply pw_below_drewN | apply below_drew1 | refine below_set ?_ GE352.out) | exact HB.out)⟩⟩
      ·rw [if_neg c14] at H
       have c14b0 : (t357 == a2) = false := beq_eq_false_iff_ne.mpr c14
       have c14b1 : (t357 != a2) = true := bne_iff_ne.mpr c14
       have H' := Aside0.mk H
       clear H
       have p356 : 0 ≤ (x15_1 : Int) := of_decide_eq_true as_
       have q356 : x15_1 < (t353.length : Int) := of_decide_eq_true as_
       obtain ⟨ad356, e356, hx356_0⟩ := Kd.at_int (Kd.R_reads' HO_13.out).2.2 x15_1 p356 q356
       cases e356
       replace p356 := eq_true p356
       replace q356 := eq_true q356
       have hcz20_0 : wr.cell? ⟨gb352, 0, none⟩ = some (.slice A0_0 l0_0.length c0_0) := (blk_cell BK352.out 0).trans rfl
       have hcz20_1 : wr.cell? ⟨gb352, 1, none⟩ = some (.slice A0_1 l0_1.length c0_1) := (blk_cell BK352.out 1).trans rfl
       have hfz20_0 := blk_frozen BK352.out 0
       have hfz20_1 := blk_frozen BK352.out 1
       go_wp2_with (first | ((with_reducible refine gate_callee (f := 16) rfl ?_); refine goesL_ (some 21) rfl rfl Try.func16 (by kernel_rfl) rfl #[.agg #[.slice A0_0 l0_0.length c0_0, .slice A0_1 l0_1.length c0_1], .int .i64 (rd t353 x15_1)] rfl ar_ ?_; (with_reducible refine (tree_Symbol.calls k1 _ _ l0_0 _ _ l0_1 (rd t353 x15_1) t357 _ ?side1 ?side2 ?side3 ?side4 A13.out).mono ?_); (case side1 => repeat (first | exact (Kd.C_below HR0_0.out HB.out) | (with_reducible refine Kd.C_alloc ?_ _) | (with_reducible refine Kd.C_drewN ?_ _) | (with_reducible refine Kd.C_drew ?_))); (case side2 => exact HC0_0.out); (case side3 => repeat (first | exact (Kd.C_below HR0_1.out HB.out) | (with_reducible refine Kd.C_alloc ?_ _) | (with_reducible refine Kd.C_drewN ?_ _) | (with_reducible refine Kd.C_drew ?_))); (case side4 => exact HC0_1.out); rintro e w21 ⟨rfl, hb⟩; refine ⟨_, rfl, ?_⟩; have n0_ := Aside0.mk (Kd.R_below (rr_ HO_13.out) hb); have n1_ := Aside0.mk (blk_below (g := gb352) (o := .cells #[.slice A0_0 l0_0.length c0_0, .slice A0_1 l0_1.length c0_1] 25 (0, 0)) (bk_ BK352.out) hb); have n2_ := Aside0.mk (below_step (bs_ HB.out GE352.out) hb); clear HO_13; clear BK352; clear HB; have HO_13 := n0_; have BK352 := n1_; have HB := n2_; clear n0_ n1_ n2_; (try clear hb); (try clear hb2); (try clear hk); (try clear hi)))
       go_roundg k1
       case measure => have := HK1.out; omega
       case rel => exact ⟨(x3_1), (wrap64 (x15_1 + 1)), sm_, sm_, H', ⟨by have := HK1.out; omega⟩, ⟨by exact rr_ HO_13.out⟩, ⟨by exact bk_ BK352.out⟩, ⟨by repeat (first | (with_reducible first | exact HB.out | apply below_alloc | apply pw_below_drewN | apply below_drew1 | refine below_set ?_ GE352.out) | exact HB.out)⟩⟩
     ·rw [if_neg c12] at H
      exact absurd H (by simp)
    ·rw [if_neg c11] at H
     exact absurd H (by simp)
   ·rw [if_neg c10] at H
    have c10b0 : decide (x15_1 < (t353.length : Int)) = false := decide_eq_false c10
    clear c10
    obtain rfl := Option.some.inj H
    go_wp2
    go_ret
    exact ⟨by first | rfl | (simp [errW_none, errW_some] <;> rfl) | (simp [*, errW_none, errW_some] <;> rfl), by repeat (first | (with_reducible first | exact HB.out | apply below_alloc | apply pw_below_drewN | apply below_drew1 | refine below_set ?_ GE352.out) | exact HB.out)⟩
def tree_Leaf.f (l0_0 : List ByteArray) (l0_1 : List (S52)) (a1 : Int) : Option (Bool) := if a1 ≥ 0 then (if a1 < (l0_1.length : Int) then ((tree_Degree.f l0_0 l0_1 a1).bind fun t359 => (some (t359 == 0))) else (some false)) else (some false)
set_option maxHeartbeats 8000000 in
set_option maxRecDepth 100000 in
theorem tree_Leaf.calls (A0_0 : Option Addr) (c0_0 : Nat) (l0_0 : List ByteArray) (A0_1 : Option Addr) (c0_1 : Nat) (l0_1 : List (S52)) (a1 : Int) (r : Bool) (w : World) (hr0_0 : Kd.C Kd.string w A0_0 l0_0.length l0_0) (hc0_0 : l0_0.length ≤ c0_0) (hr0_1 : Kd.C k52 w A0_1 l0_1.length l0_1) (hc0_1 : l0_1.length ≤ c0_1) (h : tree_Leaf.f l0_0 l0_1 a1 = some r) :
  Calls Try.prog 22 #[.agg #[.slice A0_0 l0_0.length c0_0, .slice A0_1 l0_1.length c0_1], .int .i64 a1] w fun e w' => e = .returned (.bool r) ∧ Below w.heap.size w w' := by
 have hu25 := Try.underlying25
 have HR0_0 := Aside0.mk hr0_0
 have HC0_0 := Aside0.mk hc0_0
 clear hr0_0 hc0_0
 have HR0_1 := Aside0.mk hr0_1
 have HC0_1 := Aside0.mk hc0_1
 clear hr0_1 hc0_1
 have HB := Aside0.mk (Below.refl w.heap.size w)
 have H : (if a1 ≥ 0 then (if a1 < (l0_1.length : Int) then ((tree_Degree.f l0_0 l0_1 a1).bind fun t359 => (some (t359 == 0))) else (some false)) else (some false)) = some r := h
 clear h
 by_cases c3 : a1 ≥ 0
 ·rw [if_pos c3] at H
  have c3b0 : decide (0 ≤ a1) = true := decide_eq_true c3
  clear c3
  by_cases c4 : a1 < (l0_1.length : Int)
  ·rw [if_pos c4] at H
   have c4b0 : decide (a1 < (l0_1.length : Int)) = true := decide_eq_true c4
   clear c4
   replace H := Option.bind_eq_some_iff.mp H
   obtain ⟨t359, A50, H⟩ := H
   replace H : (some (t359 == 0)) = some r := H
   have A5 := Aside0.mk A50
   clear A50
   obtain rfl := Option.some.inj H
   go_enter Try.func22, Try.ntmps22
   go_wp2_with (first | ((with_reducible refine gate_dst (N := 2) rfl ?_); (try (refine gate_guard (by rfl) ?_; dsimp only)); refine box_event ?hg (N := 2) ?hd (cs := #[.slice A0_0 l0_0.length c0_0, .slice A0_1 l0_1.length c0_1]) (t := 25) ?hr ?_; (case hd => rfl); (case hg => rfl); (case hr => first | (go_simp; done) | (go_simp; rfl)); intro gb358 hg w6 hbox hb; have n0_ := Aside0.mk (below_step (bb_ HB.out) hb); have n1_ := Aside0.mk (hbox); have n2_ := Aside0.mk ((by rw [hg]; exact (below_size (bb_ HB.out)) : w.heap.size ≤ gb358)); have n3_ := Aside0.mk ((by rw [hg]; exact (below_size (bb_ HB.out)) : w.heap.size ≤ gb358)); clear HB; have HB := n0_; have BK358 := n1_; have GW358 := n2_; have GE358 := n3_; clear n0_ n1_ n2_ n3_; clear hb hbox hg; have hcz7_0 : w6.cell? ⟨gb358, 0, none⟩ = some (.slice A0_0 l0_0.length c0_0) := (blk_cell BK358.out 0).trans rfl; have hcz7_1 : w6.cell? ⟨gb358, 1, none⟩ = some (.slice A0_1 l0_1.length c0_1) := (blk_cell BK358.out 1).trans rfl; have hfz7_0 := blk_frozen BK358.out 0; have hfz7_1 := blk_frozen BK358.out 1) | (go_at_call 19; (with_reducible refine (tree_Degree.calls _ _ l0_0 _ _ l0_1 a1 t359 _ ?side1 ?side2 ?side3 ?side4 A5.out).mono ?_); (case side1 => repeat (first | exact (Kd.C_below HR0_0.out HB.out) | (with_reducible refine Kd.C_alloc ?_ _) | (with_reducible refine Kd.C_drewN ?_ _) | (with_reducible refine Kd.C_drew ?_))); (case side2 => exact HC0_0.out); (case side3 => repeat (first | exact (Kd.C_below HR0_1.out HB.out) | (with_reducible refine Kd.C_alloc ?_ _) | (with_reducible refine Kd.C_drewN ?_ _) | (with_reducible refine Kd.C_drew ?_))); (case side4 => exact HC0_1.out); rintro e w8 ⟨rfl, hb⟩; have n0_ := Aside0.mk (blk_below (g := gb358) (o := .cells #[.slice A0_0 l0_0.length c0_0, .slice A0_1 l0_1.length c0_1] 25 (0, 0)) (bk_ BK358.out) hb); have n1_ := Aside0.mk (below_step (bs_ HB.out GE358.out) hb); clear BK358; clear HB; have BK358 := n0_; have HB := n1_; clear n0_ n1_; (try clear hb); (try clear hb2); (try clear hk); (try clear hi)))
   go_ret
   exact ⟨by first | rfl | (simp [errW_none, errW_some] <;> rfl) | (simp [*, errW_none, errW_some] <;> rfl), by repeat (first | (with_reducible first | exact HB.out | apply below_alloc | apply pw_below_drewN | apply below_drew1 | refine below_set ?_ GE358.out) | exact HB.out)⟩
  ·rw [if_neg c4] at H
   have c4b0 : decide (a1 < (l0_1.length : Int)) = false := decide_eq_false c4
   clear c4
   obtain rfl := Option.some.inj H
   go_enter Try.func22, Try.ntmps22
   go_wp2_with (first | ((with_reducible refine gate_dst (N := 2) rfl ?_); (try (refine gate_guard (by rfl) ?_; dsimp only)); refine box_event ?hg (N := 2) ?hd (cs := #[.slice A0_0 l0_0.length c0_0, .slice A0_1 l0_1.length c0_1]) (t := 25) ?hr ?_; (case hd => rfl); (case hg => rfl); (case hr => first | (go_simp; done) | (go_simp; rfl)); intro gb358 hg w9 hbox hb; have n0_ := Aside0.mk (below_step (bb_ HB.out) hb); have n1_ := Aside0.mk (hbox); have n2_ := Aside0.mk ((by rw [hg]; exact (below_size (bb_ HB.out)) : w.heap.size ≤ gb358)); have n3_ := Aside0.mk ((by rw [hg]; exact (below_size (bb_ HB.out)) : w.heap.size ≤ gb358)); clear HB; have HB := n0_; have BK358 := n1_; have GW358 := n2_; have GE358 := n3_; clear n0_ n1_ n2_ n3_; clear hb hbox hg; have hcz10_0 : w9.cell? ⟨gb358, 0, none⟩ = some (.slice A0_0 l0_0.length c0_0) := (blk_cell BK358.out 0).trans rfl; have hcz10_1 : w9.cell? ⟨gb358, 1, none⟩ = some (.slice A0_1 l0_1.length c0_1) := (blk_cell BK358.out 1).trans rfl; have hfz10_0 := blk_frozen BK358.out 0; have hfz10_1 := blk_frozen BK358.out 1))
   go_ret
   exact ⟨by first | rfl | (simp [errW_none, errW_some] <;> rfl) | (simp [*, errW_none, errW_some] <;> rfl), by repeat (first | (with_reducible first | exact HB.out | apply below_alloc | apply pw_below_drewN | apply below_drew1 | refine below_set ?_ GE358.out) | exact HB.out)⟩
 ·rw [if_neg c3] at H
  have c3b0 : decide (0 ≤ a1) = false := decide_eq_false c3
  clear c3
  obtain rfl := Option.some.inj H
  go_enter Try.func22, Try.ntmps22
  go_wp2_with (first | ((with_reducible refine gate_dst (N := 2) rfl ?_); (try (refine gate_guard (by rfl) ?_; dsimp only)); refine box_event ?hg (N := 2) ?hd (cs := #[.slice A0_0 l0_0.length c0_0, .slice A0_1 l0_1.length c0_1]) (t := 25) ?hr ?_; (case hd => rfl); (case hg => rfl); (case hr => first | (go_simp; done) | (go_simp; rfl)); intro gb358 hg w11 hbox hb; have n0_ := Aside0.mk (below_step (bb_ HB.out) hb); have n1_ := Aside0.mk (hbox); have n2_ := Aside0.mk ((by rw [hg]; exact (below_size (bb_ HB.out)) : w.heap.size ≤ gb358)); have n3_ := Aside0.mk ((by rw [hg]; exact (below_size (bb_ HB.out)) : w.heap.size ≤ gb358)); clear HB; have HB := n0_; have BK358 := n1_; have GW358 := n2_; have GE358 := n3_; clear n0_ n1_ n2_ n3_; clear hb hbox hg))
  go_ret
  exact ⟨by first | rfl | (simp [errW_none, errW_some] <;> rfl) | (simp [*, errW_none, errW_some] <;> rfl), by repeat (first | (with_reducible first | exact HB.out | apply below_alloc | apply pw_below_drewN | apply below_drew1 | refine below_set ?_ GE358.out) | exact HB.out)⟩
-- NOT PRINTED: function 3 (topiarylaw15_TreeNodes)
end Go.Proofs.Ytoanmoddppmffaa.T
