/- What each function of the program comes to, and its walk: laid by a program. -/
import Derived.Test.YtoanmoddppmffaaJTx0
import Derived.Test.YtoanmoddppmffaaJTx14
namespace Go.Proofs.Ytoanmoddppmffaa.T
open Go.RowKit Go.Proofs.YtoanmoddppmffaaW.PrintWords Go.Proofs.YtoanmoddppmffaaW.PrintLast Go.Proofs.YtoanmoddppmffaaW.PrintMore
set_option linter.unusedVariables false
set_option linter.unusedSimpArgs false
theorem calls_world {P : Program} {f : FuncId} {args : Array Value} {W : World} {R : Ending → World → Prop} (C : World → Prop) (hC : C W) (h : ∀ W', C W' → Calls P f args W' R) : Calls P f args W R := h W hC
mutual
def topiarylaw15_small.j1 : Nat → List ByteArray → List (S52) → List ByteArray → Option (List ByteArray × (List (S52)))
 | 0, _, _, _ => none
 | k + 1, x341000, x341001, x343000 => topiarylaw15_small.l1 k 0 x341000 x341001 x343000 ([] : List (S52))
def topiarylaw15_small.l1 : Nat → Int → List ByteArray → List (S52) → List ByteArray → List (S52) → Option (List ByteArray × (List (S52)))
 | 0, _, _, _, _, _ => none
 | k + 1, x5, x341000, x341001, x343000, x343001 => if x5 < (x341001.length : Int) then (if x5 < 30 then (if 0 ≤ x5 then ((topiarylaw15_short.f ((rd_T52 x341001 x5).f3) 20).bind fun t350 => (if x343001.length < 3518437208883 then (topiarylaw15_small.l1 k (wrap64 (x5 + 1)) x341000 x341001 x343000 (x343001 ++ [(⟨(rd_T52 x341001 x5).f0, (rd_T52 x341001 x5).f1, (rd_T52 x341001 x5).f2, t350⟩ : S52)])) else (none))) else (none)) else (some (x343000, x343001))) else (some (x343000, x343001))
def topiarylaw15_small.l0 : Nat → Int → List ByteArray → List (S52) → List ByteArray → Option (List ByteArray × (List (S52)))
 | 0, _, _, _, _ => none
 | k + 1, x4, x341000, x341001, x343000 => if x4 < (x341000.length : Int) then (if x4 < 12 then (if 0 ≤ x4 then ((topiarylaw15_short.f (rdOf ByteArray.empty x341000 x4) 20).bind fun t344 => (if x343000.length < 8796093022208 then (topiarylaw15_small.l0 k (wrap64 (x4 + 1)) x341000 x341001 (x343000 ++ [t344])) else (none))) else (none)) else (topiarylaw15_small.j1 k x341000 x341001 x343000)) else (topiarylaw15_small.j1 k x341000 x341001 x343000)
end
def topiarylaw15_small.f (k : Nat) (l0_0 : List ByteArray) (l0_1 : List (S52)) : Option (List ByteArray × (List (S52))) := topiarylaw15_small.l0 k 0 l0_0 l0_1 ([] : List ByteArray)
theorem topiarylaw15_small.mono_l : ∀ k, (∀ y0 y1 y2, LeO (topiarylaw15_small.j1 k y0 y1 y2) (topiarylaw15_small.j1 (k + 1) y0 y1 y2)) ∧ (∀ y0 y1 y2 y3 y4, LeO (topiarylaw15_small.l1 k y0 y1 y2 y3 y4) (topiarylaw15_small.l1 (k + 1) y0 y1 y2 y3 y4)) ∧ (∀ y0 y1 y2 y3, LeO (topiarylaw15_small.l0 k y0 y1 y2 y3) (topiarylaw15_small.l0 (k + 1) y0 y1 y2 y3))
 | 0 => ⟨fun _ _ _ r h => by simp [topiarylaw15_small.j1] at h, fun _ _ _ _ _ r h => by simp [topiarylaw15_small.l1] at h, fun _ _ _ _ r h => by simp [topiarylaw15_small.l0] at h⟩
 | k + 1 => by
  obtain ⟨ih0, ih1, ih2⟩ := topiarylaw15_small.mono_l k
  refine ⟨?_, ?_, ?_⟩
  ·intro y0 y1 y2
   unfold topiarylaw15_small.j1
   repeat' first
   | (with_reducible exact ih0 _ _ _)
   | (with_reducible exact ih1 _ _ _ _ _)
   | (with_reducible exact ih2 _ _ _ _)
   | (with_reducible exact LeO.refl _)
   | (with_reducible exact LeO.none _)
   | (with_reducible refine LeO.ite ?_ ?_)
   | (with_reducible refine LeO.bind ?_ (fun _ => ?_))
   | exact ih0 _ _ _
   | exact ih1 _ _ _ _ _
   | exact ih2 _ _ _ _
   | exact LeO.none _
   | refine LeO.ite ?_ ?_
   | refine LeO.bind ?_ (fun _ => ?_)
  ·intro y0 y1 y2 y3 y4
   unfold topiarylaw15_small.l1
   repeat' first
   | (with_reducible exact ih0 _ _ _)
   | (with_reducible exact ih1 _ _ _ _ _)
   | (with_reducible exact ih2 _ _ _ _)
   | (with_reducible exact LeO.refl _)
   | (with_reducible exact LeO.none _)
   | (with_reducible refine LeO.ite ?_ ?_)
   | (with_reducible refine LeO.bind ?_ (fun _ => ?_))
   | exact ih0 _ _ _
   | exact ih1 _ _ _ _ _
   | exact ih2 _ _ _ _
   | exact LeO.none _
   | refine LeO.ite ?_ ?_
   | refine LeO.bind ?_ (fun _ => ?_)
  ·intro y0 y1 y2 y3
   unfold topiarylaw15_small.l0
   repeat' first
   | (with_reducible exact ih0 _ _ _)
   | (with_reducible exact ih1 _ _ _ _ _)
   | (with_reducible exact ih2 _ _ _ _)
   | (with_reducible exact LeO.refl _)
   | (with_reducible exact LeO.none _)
   | (with_reducible refine LeO.ite ?_ ?_)
   | (with_reducible refine LeO.bind ?_ (fun _ => ?_))
   | exact ih0 _ _ _
   | exact ih1 _ _ _ _ _
   | exact ih2 _ _ _ _
   | exact LeO.none _
   | refine LeO.ite ?_ ?_
   | refine LeO.bind ?_ (fun _ => ?_)
theorem topiarylaw15_small.mono : ∀ a0 a1 k, LeO (topiarylaw15_small.f k a0 a1) (topiarylaw15_small.f (k + 1) a0 a1) := by
 intro a0 a1 k
 obtain ⟨ih0, ih1, ih2⟩ := topiarylaw15_small.mono_l k
 unfold topiarylaw15_small.f
 repeat' first
   | (with_reducible exact ih0 _ _ _)
   | (with_reducible exact ih1 _ _ _ _ _)
   | (with_reducible exact ih2 _ _ _ _)
   | (with_reducible exact LeO.refl _)
   | (with_reducible exact LeO.none _)
   | (with_reducible refine LeO.ite ?_ ?_)
   | (with_reducible refine LeO.bind ?_ (fun _ => ?_))
   | exact ih0 _ _ _
   | exact ih1 _ _ _ _ _
   | exact ih2 _ _ _ _
   | exact LeO.none _
   | refine LeO.ite ?_ ?_
   | refine LeO.bind ?_ (fun _ => ?_)
def topiarylaw15_small.T5 : Bool × List (List Nat × List Nat) := (true, [([], []), ([0], [0]), ([], []), ([2], [2]), ([], []), ([3, 4], [3, 4]), ([5], [5]), ([6], [6]), ([7], [7]), ([1, 8, 7], [1, 8]), ([0, 1, 2, 3, 4, 5, 6, 7, 8, 9], []), ([10, 9, 9, 0, 1, 2, 3, 4, 5, 6, 7, 8, 9], [9, 10])])
def topiarylaw15_small.B5 : List Nat := [0, 1, 0, 4, 0, 28, 60, 124, 252, 511, 1023, 2047]
theorem topiarylaw15_small.tab5 : rtab .any (opsOf Try.f10 5) = topiarylaw15_small.T5 := by kernel_rfl
theorem topiarylaw15_small.bits5 : waitsOk topiarylaw15_small.T5.2 topiarylaw15_small.B5 = true := by kernel_rfl
set_option maxHeartbeats 8000000 in
set_option maxRecDepth 100000 in
theorem topiarylaw15_small.calls (k : Nat) (A0_0 : Option Addr) (c0_0 : Nat) (l0_0 : List ByteArray) (A0_1 : Option Addr) (c0_1 : Nat) (l0_1 : List (S52)) (r1 : List ByteArray) (r2 : List (S52)) (w : World) (hr0_0 : Kd.C Kd.string w A0_0 l0_0.length l0_0) (hc0_0 : l0_0.length ≤ c0_0) (hr0_1 : Kd.C k52 w A0_1 l0_1.length l0_1) (hc0_1 : l0_1.length ≤ c0_1) (h : topiarylaw15_small.f k l0_0 l0_1 = some (r1, r2)) :
  Calls Try.prog 10 #[.agg #[.slice A0_0 l0_0.length c0_0, .slice A0_1 l0_1.length c0_1]] w fun e w' => ∃ v0_ v1_ : Value, e = .returned (.agg #[v0_, v1_]) ∧ Kd.R Kd.string 9 w' w.heap.size (fun _ => True) v0_ r1 ∧ Kd.R k52 52 w' w.heap.size (fun _ => True) v1_ r2 ∧ Below w.heap.size w w' := by
 have hu25 := Try.underlying25
 have hu52 := Try.underlying52
 have HR0_0 := Aside0.mk hr0_0
 have HC0_0 := Aside0.mk hc0_0
 clear hr0_0 hc0_0
 have HR0_1 := Aside0.mk hr0_1
 have HC0_1 := Aside0.mk hc0_1
 clear hr0_1 hc0_1
 have HB := Aside0.mk (Below.refl w.heap.size w)
 have H : (topiarylaw15_small.l0 k 0 l0_0 l0_1 ([] : List ByteArray)) = some (r1, r2) := h
 clear h
 have HC2 := Aside0.mk H
 clear H
 go_enter Try.func10, Try.ntmps10
 go_upto_block 0 with (first | ((with_reducible refine gate_dst (N := 1) rfl ?_); refine box_event ?hg (N := 1) ?hd (cs := #[.slice A0_0 l0_0.length c0_0, .slice A0_1 l0_1.length c0_1]) (t := 25) ?hr ?_; (case hd => rfl); (case hg => rfl); (case hr => first | (go_simp; done) | (go_simp; rfl)); intro gb340 hg w3 hbox hb; have n0_ := Aside0.mk (below_step (bb_ HB.out) hb); have n1_ := Aside0.mk (hbox); have n2_ := Aside0.mk ((by rw [hg]; exact (below_size (bb_ HB.out)) : w.heap.size ≤ gb340)); have n3_ := Aside0.mk ((by rw [hg]; exact (below_size (bb_ HB.out)) : w.heap.size ≤ gb340)); clear HB; have HB := n0_; have BK340 := n1_; have GW340 := n2_; have GE340 := n3_; clear n0_ n1_ n2_ n3_; clear hb hbox hg) | ((with_reducible refine gate_dst (N := 2) rfl ?_); refine box_event ?hg (N := 2) ?hd (cs := #[.slice none 0 0, .slice none 0 0]) (t := 25) ?hr ?_; (case hd => rfl); (case hg => rfl); (case hr => first | (go_simp; done) | (go_simp; rfl)); intro gb341 hg w4 hbox hb; have n0_ := Aside0.mk (blk_below (g := gb340) (o := .cells #[.slice A0_0 l0_0.length c0_0, .slice A0_1 l0_1.length c0_1] 25 (0, 0)) (bk_ BK340.out) hb); have n1_ := Aside0.mk (below_step (bs_ HB.out GE340.out) hb); have n2_ := Aside0.mk (hbox); have n3_ := Aside0.mk ((by rw [hg]; exact (below_size (bs_ HB.out GE340.out)) : w.heap.size ≤ gb341)); have n4_ := Aside0.mk ((by rw [hg]; exact (below_size (bs_ HB.out GE340.out)) : w.heap.size ≤ gb341)); have n5_ := Aside0.mk ((by rw [hg]; exact Nat.ne_of_lt (blk_lt (g := gb340) (o := .cells #[.slice A0_0 l0_0.length c0_0, .slice A0_1 l0_1.length c0_1] 25 (0, 0)) (bk_ BK340.out)) : gb340 ≠ gb341)); have n6_ := Aside0.mk ((by rw [hg]; exact Nat.ne_of_gt (blk_lt (g := gb340) (o := .cells #[.slice A0_0 l0_0.length c0_0, .slice A0_1 l0_1.length c0_1] 25 (0, 0)) (bk_ BK340.out)) : gb341 ≠ gb340)); clear BK340; clear HB; have BK340 := n0_; have HB := n1_; have BK341 := n2_; have GW341 := n3_; have GE341 := n4_; have NB340_341 := n5_; have NB341_340 := n6_; clear n0_ n1_ n2_ n3_ n4_ n5_ n6_; clear hb hbox hg) | ((with_reducible refine gate_dst (N := 3) rfl ?_); refine box_event ?hg (N := 3) ?hd (cs := #[.slice none 0 0, .slice none 0 0]) (t := 25) ?hr ?_; (case hd => rfl); (case hg => rfl); (case hr => first | (go_simp; done) | (go_simp; rfl)); intro gb342 hg w5 hbox hb; have n0_ := Aside0.mk (blk_below (g := gb340) (o := .cells #[.slice A0_0 l0_0.length c0_0, .slice A0_1 l0_1.length c0_1] 25 (0, 0)) (bk_ BK340.out) hb); have n1_ := Aside0.mk (blk_below (g := gb341) (o := .cells #[.slice none 0 0, .slice none 0 0] 25 (0, 0)) (bk_ BK341.out) hb); have n2_ := Aside0.mk (below_step (bt_ HB.out GE340.out GE341.out) hb); have n3_ := Aside0.mk (hbox); have n4_ := Aside0.mk ((by rw [hg]; exact (below_size (bt_ HB.out GE340.out GE341.out)) : w.heap.size ≤ gb342)); have n5_ := Aside0.mk ((by rw [hg]; exact (below_size (bt_ HB.out GE340.out GE341.out)) : w.heap.size ≤ gb342)); have n6_ := Aside0.mk ((by rw [hg]; exact Nat.ne_of_lt (blk_lt (g := gb340) (o := .cells #[.slice A0_0 l0_0.length c0_0, .slice A0_1 l0_1.length c0_1] 25 (0, 0)) (bk_ BK340.out)) : gb340 ≠ gb342)); have n7_ := Aside0.mk ((by rw [hg]; exact Nat.ne_of_gt (blk_lt (g := gb340) (o := .cells #[.slice A0_0 l0_0.length c0_0, .slice A0_1 l0_1.length c0_1] 25 (0, 0)) (bk_ BK340.out)) : gb342 ≠ gb340)); have n8_ := Aside0.mk ((by rw [hg]; exact Nat.ne_of_lt (blk_lt (g := gb341) (o := .cells #[.slice none 0 0, .slice none 0 0] 25 (0, 0)) (bk_ BK341.out)) : gb341 ≠ gb342)); have n9_ := Aside0.mk ((by rw [hg]; exact Nat.ne_of_gt (blk_lt (g := gb341) (o := .cells #[.slice none 0 0, .slice none 0 0] 25 (0, 0)) (bk_ BK341.out)) : gb342 ≠ gb341)); clear BK340; clear BK341; clear HB; have BK340 := n0_; have BK341 := n1_; have HB := n2_; have BK342 := n3_; have GW342 := n4_; have GE342 := n5_; have NB340_342 := n6_; have NB342_340 := n7_; have NB341_342 := n8_; have NB342_341 := n9_; clear n0_ n1_ n2_ n3_ n4_ n5_ n6_ n7_ n8_ n9_; clear hb hbox hg))
 (try simp only [Act.put, List.setIfInBounds_toArray, List.set_cons_zero, List.set_cons_succ])
 go_cut [] (fun wc => ∃ (kq : Nat) (x343000_1 : List ByteArray) (u343000 : Value), Aside0 (topiarylaw15_small.j1 kq l0_0 l0_1 x343000_1 = some (r1, r2)) ∧ Aside0 (kq ≤ k) ∧ Aside0 (Kd.R Kd.string 9 wc w.heap.size (fun _ => True) u343000 x343000_1) ∧ Aside0 (wc.heap[gb340]? = some (.cells #[(.slice A0_0 l0_0.length c0_0), (.slice A0_1 l0_1.length c0_1)] 25 (0, 0))) ∧ Aside0 (wc.heap[gb341]? = some (.cells #[(.slice none 0 0), (.slice none 0 0)] 25 (0, 0))) ∧ Aside0 (wc.heap[gb342]? = some (.cells #[u343000, (.slice none 0 0)] 25 (0, 0))) ∧ Aside0 (Below w.heap.size w wc))
 case first =>
  have H := HC2.out
  clear HC2
  have H' := Aside0.mk H
  clear H
  go_wp2
  go_loopg [4] k (fun kq v4 w' => ∃ (x4_1 : Int) (x343000_1 : List ByteArray) (u343000 : Value), v4 = .int .i64 x4_1 ∧ Aside0 (topiarylaw15_small.l0 kq x4_1 l0_0 l0_1 x343000_1 = some (r1, r2)) ∧ Aside0 (kq ≤ k) ∧ Aside0 (Kd.R Kd.string 9 w' w.heap.size (fun _ => True) u343000 x343000_1) ∧ Aside0 (w'.heap[gb340]? = some (.cells #[(.slice A0_0 l0_0.length c0_0), (.slice A0_1 l0_1.length c0_1)] 25 (0, 0))) ∧ Aside0 (w'.heap[gb341]? = some (.cells #[(.slice none 0 0), (.slice none 0 0)] 25 (0, 0))) ∧ Aside0 (w'.heap[gb342]? = some (.cells #[u343000, (.slice none 0 0)] 25 (0, 0))) ∧ Aside0 (Below w.heap.size w w'))
  case atStart => exact ⟨(0), (([] : List ByteArray)), (.slice none 0 0), sm_, H', ⟨Nat.le_refl _⟩, ⟨by first | exact Kd.R_nil _ _ _ _ _ | exact Kd.N_nil _ _ _ _ _ | exact Kd.V_nil _ _ _ _ _ | exact Kd.Q_nil _ _ _ _ _ | exact Kd.S_nil _ _ _ _ _⟩, ⟨bk_ BK340.out⟩, ⟨bk_ BK341.out⟩, ⟨bk_ BK342.out⟩, ⟨bu_ HB.out GE340.out GE341.out GE342.out⟩⟩
  case round =>
   clear H'
   try clear c1
   try clear p2
   obtain ⟨x4_1, x343000_1, u343000, rfl, HA, HK1, HO_343000, BK340, BK341, BK342, HB⟩ := hrel
   cases gk with
   | zero => exact absurd HA.out (by simp [topiarylaw15_small.l0])
   | succ k1 =>
    have H := HA.out
    clear HA
    simp only [topiarylaw15_small.l0] at H
    by_cases c6 : x4_1 < (l0_0.length : Int)
    ·rw [if_pos c6] at H
     have c6b0 : decide (x4_1 < (l0_0.length : Int)) = true := decide_eq_true c6
     clear c6
     (first | rw [c6b0] | (simp only [i64_w, i32_w]; rw [c6b0]) | skip)
     by_cases c7 : x4_1 < 12
     ·rw [if_pos c7] at H
      have c7b0 : decide (x4_1 < 12) = true := decide_eq_true c7
      clear c7
      by_cases c8 : 0 ≤ x4_1
      ·rw [if_pos c8] at H
       have c8b0 : decide (0 ≤ x4_1) = true := decide_eq_true c8
       clear c8
       replace H := Option.bind_eq_some_iff.mp H
       obtain ⟨t344, A90, H⟩ := H
       try dsimp only at H
       have A9 := Aside0.mk A90
       clear A90
       by_cases c10 : x343000_1.length < 8796093022208
       ·rw [if_pos c10] at H
        have LMc10 := Aside0.mk c10
        clear c10
        obtain ⟨y345, hy345⟩ : ∃ y_ : List ByteArray, y_ = (x343000_1 ++ [t344]) := ⟨_, rfl⟩
        replace H : (topiarylaw15_small.l0 k1 (wrap64 (x4_1 + 1)) l0_0 l0_1 y345) = some (r1, r2) := by first | (rw [hy345]; with_reducible exact H) | (have H2_ := (Option.bind_some _ _).symm.trans H; rw [hy345]; with_reducible exact H2_) | (have H2_ := (Option.bind_some _ _).symm.trans H; with_reducible exact H2_) | with_reducible exact H | (rw [hy345]; exact H) | exact H
        have Ny345 := Aside0.mk hy345
        clear hy345
        have H' := Aside0.mk H
        clear H
        have hnb11 := NB340_341.out
        have hnc11 := NB341_340.out
        have hnb12 := NB340_342.out
        have hnc12 := NB342_340.out
        have hcz13_0 : wr.cell? ⟨gb340, 0, none⟩ = some (.slice A0_0 l0_0.length c0_0) := (blk_cell BK340.out 0).trans rfl
        have hcz13_1 : wr.cell? ⟨gb340, 1, none⟩ = some (.slice A0_1 l0_1.length c0_1) := (blk_cell BK340.out 1).trans rfl
        have hfz13_0 := blk_frozen BK340.out 0
        have hfz13_1 := blk_frozen BK340.out 1
        try go_wp2
        have n0_ := Aside0.mk (Kd.R_drew HO_343000.out)
        have n1_ := Aside0.mk (blk_drew BK340.out)
        have n2_ := Aside0.mk (blk_drew BK341.out)
        have n3_ := Aside0.mk (blk_drew BK342.out)
        have n4_ := Aside0.mk (below_drew1 HB.out)
        clear HO_343000
        clear BK340
        clear BK341
        clear BK342
        clear HB
        have HO_343000 := n0_
        have BK340 := n1_
        have BK341 := n2_
        have BK342 := n3_
        have HB := n4_
        clear n0_ n1_ n2_ n3_ n4_
        have p343 : 0 ≤ (x4_1 : Int) := of_decide_eq_true as_
        have q343 : x4_1 < (l0_0.length : Int) := of_decide_eq_true as_
        obtain ⟨ad343, e343, hx343_0⟩ := Kd.at_string HR0_0.out x4_1 p343 q343
        have hw343_0 := hx343_0
        cases e343
        replace hx343_0 := (HB.out.cell (World.block_lt_of_cell? w _ hx343_0)).trans hx343_0
        replace p343 := eq_true p343
        replace q343 := eq_true q343
        refine start_ (n := 12) (S := fun w' => w'.cell? ⟨gb342, 0, none⟩ = some (u343000) ∧ w'.cell? ⟨gb342, 1, none⟩ = some (.slice none 0 0) ∧ w'.cell? ⟨gb340, 0, none⟩ = some (.slice (some ad343) l0_0.length c0_0) ∧ w'.cell? ⟨gb340, 1, none⟩ = some (.slice A0_1 l0_1.length c0_1) ∧ w'.cell? (ad343.add (x4_1).toNat) = some (.string (rdOf ByteArray.empty l0_0 x4_1))) (ds := [11]) #[false, false, false, false, false, false, false, false, false, false, false, false] (by kernel_rfl) rfl rfl ⟨(blk_cell BK342.out 0).trans rfl, (blk_cell BK342.out 1).trans rfl, (blk_cell BK340.out 0).trans rfl, (blk_cell BK340.out 1).trans rfl, ((HB.out.cell (World.block_lt_of_cell? w _ hw343_0)).trans hw343_0)⟩ (fun hHeld => ?_); refine with_tabW topiarylaw15_small.tab5 topiarylaw15_small.bits5 (fun HT_ HW_ => ?_)
        generalize wr.drew = w14 at HO_343000 BK340 BK341 BK342 HB hx343_0 hHeld ⊢
        refine pure_ (i := 0) (N := some 18) (v := ?_) (a' := ?_) #[true, false, false, false, false, false, false, false, false, false, false, false] rfl rfl (any_of HT_.out (by kernel_rfl)) (fun _ _ _ h => h) (Or.inl ⟨by rfl, ?_⟩) ?_ ?_
        rotate_left
        ·intro w'
         go_simp
         with_reducible rfl
        rotate_left
        ·simp only [Act.put, List.setIfInBounds_toArray, List.set_cons_zero, List.set_cons_succ, i64_w, i32_w]
         rfl
        refine pure_ (i := 2) (N := some 20) (v := ?_) (a' := ?_) #[true, false, true, false, false, false, false, false, false, false, false, false] rfl rfl (any_of HT_.out (by kernel_rfl)) (fun _ _ _ h => h) (Or.inl ⟨by rfl, ?_⟩) ?_ ?_
        rotate_left
        ·intro w'
         go_simp
         with_reducible rfl
        rotate_left
        ·simp only [Act.put, List.setIfInBounds_toArray, List.set_cons_zero, List.set_cons_succ, i64_w, i32_w]
         rfl
        refine pure_ (i := 4) (N := some 22) (v := ?_) (a' := ?_) #[true, false, true, false, true, false, false, false, false, false, false, false] rfl rfl (any_of HT_.out (by kernel_rfl)) (fun _ _ _ h => h) (Or.inl ⟨by rfl, ?_⟩) ?_ ?_
        rotate_left
        ·intro w'
         go_simp
         with_reducible rfl
        rotate_left
        ·simp only [Act.put, List.setIfInBounds_toArray, List.set_cons_zero, List.set_cons_succ, i64_w, i32_w]
         rfl
        refine take_ (i := 1) (N := some 19) (v := ?_) (a' := ?_) #[true, true, true, false, true, false, false, false, false, false, false, false] rfl rfl (take_ofW HT_.out HW_.out (by kernel_rfl)) (fun _ _ _ h => h) (Or.inl ⟨by rfl, ?_⟩) hHeld ?_ ?_
        rotate_left
        ·rintro w' ⟨s0, s1, s2, s3, s4⟩
         go_simp
         with_reducible rfl
        rotate_left
        ·simp only [Act.put, List.setIfInBounds_toArray, List.set_cons_zero, List.set_cons_succ, i64_w, i32_w]
         rfl
        refine take_ (i := 3) (N := some 21) (v := ?_) (a' := ?_) #[true, true, true, true, true, false, false, false, false, false, false, false] rfl rfl (take_ofW HT_.out HW_.out (by kernel_rfl)) (fun _ _ _ h => h) (Or.inl ⟨by rfl, ?_⟩) hHeld ?_ ?_
        rotate_left
        ·rintro w' ⟨s0, s1, s2, s3, s4⟩
         go_simp
         with_reducible rfl
        rotate_left
        ·simp only [Act.put, List.setIfInBounds_toArray, List.set_cons_zero, List.set_cons_succ, i64_w, i32_w]
         rfl
        refine pure_ (i := 5) (N := some 23) (v := ?_) (a' := ?_) #[true, true, true, true, true, true, false, false, false, false, false, false] rfl rfl (any_of HT_.out (by kernel_rfl)) (fun _ _ _ h => h) (Or.inl ⟨by rfl, ?_⟩) ?_ ?_
        rotate_left
        ·intro w'
         go_simp
         with_reducible rfl
        rotate_left
        ·simp only [Act.put, List.setIfInBounds_toArray, List.set_cons_zero, List.set_cons_succ, i64_w, i32_w]
         rfl
        refine take_ (i := 6) (N := some 24) (v := ?_) (a' := ?_) #[true, true, true, true, true, true, true, false, false, false, false, false] rfl rfl (take_ofW HT_.out HW_.out (by kernel_rfl)) (fun _ _ _ h => h) (Or.inl ⟨by rfl, ?_⟩) hHeld ?_ ?_
        rotate_left
        ·rintro w' ⟨s0, s1, s2, s3, s4⟩
         go_simp
         with_reducible rfl
        rotate_left
        ·simp only [Act.put, List.setIfInBounds_toArray, List.set_cons_zero, List.set_cons_succ, i64_w, i32_w]
         rfl
        refine one_ (i := 7) (N := some 25) #[true, true, true, true, true, true, true, true, false, false, false, false] rfl rfl (one_of HT_.out (by kernel_rfl)) (by decide) (fun K hK => ?_)
        refine goes_ Try.func29 (by kernel_rfl) rfl #[.string (rdOf ByteArray.empty l0_0 x4_1), .int .i64 20] (by rfl) rfl rfl ar_ ?_
        with_reducible refine (topiarylaw15_short.calls (rdOf ByteArray.empty l0_0 x4_1) 20 t344 _ A9.out).mono ?_
        rintro e w' ⟨rfl, ⟨nd, rfl⟩⟩
        refine ⟨_, rfl, ?_⟩
        refine hK.out _ _ ⟨(blk_cell BK342.out 0).trans rfl, (blk_cell BK342.out 1).trans rfl, (blk_cell BK340.out 0).trans rfl, (blk_cell BK340.out 1).trans rfl, ((HB.out.cell (World.block_lt_of_cell? w _ hw343_0)).trans hw343_0)⟩ (fun hHeld => ?_)
        clear hK K
        refine norm_ (a' := ?_) ?_ ?_
        rotate_left
        ·show Act.put _ (some 25) _ = _
         simp only [Act.put, List.setIfInBounds_toArray, List.set_cons_zero, List.set_cons_succ, i64_w, i32_w]
         rfl
        refine one_ (i := 8) (N := some 26) #[true, true, true, true, true, true, true, true, true, false, false, false] rfl rfl (one_of HT_.out (by kernel_rfl)) (by decide) (fun K hK => ?_)
        refine value_ (w1 := ?_) (v := ?_) (by rfl) rfl ?_ ?_
        rotate_left 2
        ·go_simp
         constructor
         ·rfl
         ·rfl
        refine hK.out _ _ ⟨(blk_cell (blk_alloc BK342.out _) 0).trans rfl, (blk_cell (blk_alloc BK342.out _) 1).trans rfl, (blk_cell (blk_alloc BK340.out _) 0).trans rfl, (blk_cell (blk_alloc BK340.out _) 1).trans rfl, (World.cell?_alloc_lt _ _ _ (World.block_lt_of_cell? _ _ (((HB.out.cell (World.block_lt_of_cell? w _ hw343_0)).trans hw343_0)))).trans (((HB.out.cell (World.block_lt_of_cell? w _ hw343_0)).trans hw343_0))⟩ (fun hHeld => ?_)
        clear hK K
        refine norm_ (a' := ?_) ?_ ?_
        rotate_left
        ·show Act.put _ (some 26) _ = _
         simp only [Act.put, List.setIfInBounds_toArray, List.set_cons_zero, List.set_cons_succ, i64_w, i32_w]
         rfl
        refine one_ (i := 9) (N := some 27) #[true, true, true, true, true, true, true, true, true, true, false, false] rfl rfl (one_of HT_.out (by kernel_rfl)) (by decide) (fun K hK => ?_)
        refine Kd.R_append_step Kd.string (w0 := w) w.heap.size (by rfl) (.tmp 19) (.tmp 26) 22 9 (.string ⟨#[]⟩) 16 rfl Try.underlying22 info9 rfl (by decide) (by omega) u343000 x343000_1 t344 [.string t344] (fun _ => True) (fun _ => False) rfl rfl ?aP (fun _ hk => hk.elim) ?aF ?aO ?aB ?aS ?aL ?_
        (case aP => exact rfl)
        (case aB => exact (bu_ HB.out GE340.out GE341.out GE342.out))
        (case aF => exact (fun _ _ => trivial))
        (case aO => exact (rr_ HO_343000.out))
        (case aS => exact (below_size (bu_ HB.out GE340.out GE341.out GE342.out)))
        (case aL => have := LMc10.out; omega)
        intro v346 w15 ho hb hg hat
        rw [← Ny345.out] at ho
        have n0_ := Aside0.mk (blk_grown (g := gb340) (o := .cells #[.slice (some ad343) l0_0.length c0_0, .slice A0_1 l0_1.length c0_1] 25 (0, 0)) (bk_ BK340.out) hg (Kd.R_ne HO_343000.out BK340.out (by decide)))
        have n1_ := Aside0.mk (blk_grown (g := gb341) (o := .cells #[.slice none 0 0, .slice none 0 0] 25 (0, 0)) (bk_ BK341.out) hg (Kd.R_ne HO_343000.out BK341.out (by decide)))
        have n2_ := Aside0.mk (blk_grown (g := gb342) (o := .cells #[u343000, .slice none 0 0] 25 (0, 0)) (bk_ BK342.out) hg (Kd.R_ne HO_343000.out BK342.out (by decide)))
        have n3_ := Aside0.mk (hb)
        have n4_ := Aside0.mk (ho)
        clear BK340
        clear BK341
        clear BK342
        clear HB
        clear HO_343000
        have BK340 := n0_
        have BK341 := n1_
        have BK342 := n2_
        have HB := n3_
        have HO347 := n4_
        clear n0_ n1_ n2_ n3_ n4_
        clear ho hb hg hat
        obtain ⟨Ao16, co16, eo16⟩ := Kd.R_slice HO347.out
        (first | subst eo16 | (injection eo16 with f1_ f2_ f3_; have f4_ := f1_.symm; have f5_ := f3_.symm; clear f1_ f2_ f3_; subst f4_; subst f5_))
        refine hK.out _ _ ⟨(blk_cell BK342.out 0).trans rfl, (blk_cell BK342.out 1).trans rfl, (blk_cell BK340.out 0).trans rfl, (blk_cell BK340.out 1).trans rfl, ((HB.out.cell (World.block_lt_of_cell? w _ hw343_0)).trans hw343_0)⟩ (fun hHeld => ?_)
        clear hK K
        refine norm_ (a' := ?_) ?_ ?_
        rotate_left
        ·show Act.put _ (some 27) _ = _
         simp only [Act.put, List.setIfInBounds_toArray, List.set_cons_zero, List.set_cons_succ, i64_w, i32_w]
         rfl
        refine pure_ (i := 10) (N := some 28) (v := ?_) (a' := ?_) #[true, true, true, true, true, true, true, true, true, true, true, false] rfl rfl (any_of HT_.out (by kernel_rfl)) (fun _ _ _ h => h) (Or.inl ⟨by rfl, ?_⟩) ?_ ?_
        rotate_left
        ·intro w'
         go_simp
         with_reducible rfl
        rotate_left
        ·simp only [Act.put, List.setIfInBounds_toArray, List.set_cons_zero, List.set_cons_succ, i64_w, i32_w]
         rfl
        refine last_ (i := 11) (N := none) #[true, true, true, true, true, true, true, true, true, true, true, true] rfl rfl (one_of HT_.out (by kernel_rfl)) (by decide) (fun K hK => ?_)
        have hs17 : w15.cell? ⟨gb342, 0, none⟩ = some (u343000) := (blk_cell BK342.out 0).trans rfl
        have hfs17 := blk_frozen BK342.out 0
        have hns17_0 := NB340_342.out
        have hns17_1 := NB341_342.out
        have hms17_0 := NB342_340.out
        have hms17_1 := NB342_341.out
        refine skip_ (w1 := ?_) (by rfl) rfl ?_ ?_
        rotate_left
        ·go_simp
         rfl
        refine hK.out _ _ ?_
        clear hK K
        refine done_ (done_of HT_.out (by kernel_rfl)) ?_
        try go_wp2
        go_roundg k1
        case measure => have := HK1.out; omega
        case rel => exact ⟨(wrap64 (x4_1 + 1)), (y345), (.slice Ao16 y345.length co16), sm_, H', ⟨by have := HK1.out; omega⟩, ⟨by (with_reducible repeat (first | apply Kd.R_alloc | apply Kd.R_drewN | apply Kd.R_drew)); exact Kd.R_mono (Kd.R_far (p := ⟨gb342, 0, none⟩) (Kd.R_types HO347.out BK342.out (by decide)) (fun _ hk => hk.2) (.slice Ao16 y345.length co16)) (fun _ hk => trivial)⟩, ⟨by (with_reducible repeat (first | refine blk_drewN ?_ _ | refine blk_drew ?_ | refine blk_alloc ?_ _)); refine blk_far ?_ NB340_342.out _; exact bk_ BK340.out⟩, ⟨by (with_reducible repeat (first | refine blk_drewN ?_ _ | refine blk_drew ?_ | refine blk_alloc ?_ _)); refine blk_far ?_ NB341_342.out _; exact bk_ BK341.out⟩, ⟨by (with_reducible repeat (first | refine blk_drewN ?_ _ | refine blk_drew ?_ | refine blk_alloc ?_ _)); refine blk_put (cs := #[u343000, .slice none 0 0]) ?_ 0 _ rfl; exact bk_ BK342.out⟩, ⟨bu_ HB.out GE340.out GE341.out GE342.out⟩⟩
       ·rw [if_neg c10] at H
        exact absurd H (by simp)
      ·rw [if_neg c8] at H
       exact absurd H (by simp)
     ·rw [if_neg c7] at H
      have c7b0 : decide (x4_1 < 12) = false := decide_eq_false c7
      clear c7
      have H' := Aside0.mk H
      clear H
      have hnb18 := NB340_341.out
      have hnc18 := NB341_340.out
      have hnb19 := NB340_342.out
      have hnc19 := NB342_340.out
      have hcz20_0 : wr.cell? ⟨gb340, 0, none⟩ = some (.slice A0_0 l0_0.length c0_0) := (blk_cell BK340.out 0).trans rfl
      have hcz20_1 : wr.cell? ⟨gb340, 1, none⟩ = some (.slice A0_1 l0_1.length c0_1) := (blk_cell BK340.out 1).trans rfl
      have hfz20_0 := blk_frozen BK340.out 0
      have hfz20_1 := blk_frozen BK340.out 1
      go_wp2
      go_meet
      case rel => exact ⟨_, (x343000_1), (u343000), H', ⟨by have := HK1.out; first | omega | exact Nat.le_refl _⟩, ⟨rr_ HO_343000.out⟩, ⟨bk_ BK340.out⟩, ⟨bk_ BK341.out⟩, ⟨bk_ BK342.out⟩, ⟨bu_ HB.out GE340.out GE341.out GE342.out⟩⟩
    ·rw [if_neg c6] at H
     have c6b0 : decide (x4_1 < (l0_0.length : Int)) = false := decide_eq_false c6
     clear c6
     (first | rw [c6b0] | (simp only [i64_w, i32_w]; rw [c6b0]) | skip)
     have H' := Aside0.mk H
     clear H
     have hnb21 := NB340_341.out
     have hnc21 := NB341_340.out
     have hnb22 := NB340_342.out
     have hnc22 := NB342_340.out
     have hcz23_0 : wr.cell? ⟨gb340, 0, none⟩ = some (.slice A0_0 l0_0.length c0_0) := (blk_cell BK340.out 0).trans rfl
     have hcz23_1 : wr.cell? ⟨gb340, 1, none⟩ = some (.slice A0_1 l0_1.length c0_1) := (blk_cell BK340.out 1).trans rfl
     have hfz23_0 := blk_frozen BK340.out 0
     have hfz23_1 := blk_frozen BK340.out 1
     go_wp2
     go_meet
     case rel => exact ⟨_, (x343000_1), (u343000), H', ⟨by have := HK1.out; first | omega | exact Nat.le_refl _⟩, ⟨rr_ HO_343000.out⟩, ⟨bk_ BK340.out⟩, ⟨bk_ BK341.out⟩, ⟨bk_ BK342.out⟩, ⟨bu_ HB.out GE340.out GE341.out GE342.out⟩⟩
 case rest =>
  clear HC2
  try clear c1
  try clear c2
  try clear p2
  try clear p3
  try clear q3
  try clear hx3
  try clear c6
  try clear c6b0
  try clear p6
  try clear c7
  try clear c7b0
  try clear c8
  try clear c8b0
  try clear c10
  try clear c11
  try clear c12
  try clear c18
  try clear c19
  try clear c21
  try clear c22
  try clear hcz13_0
  try clear hcz13_1
  try clear hcz20_0
  try clear hcz20_1
  try clear hcz23_0
  try clear hcz23_1
  try clear hfz13_0
  try clear hfz13_1
  try clear hfz20_0
  try clear hfz20_1
  try clear hfz23_0
  try clear hfz23_1
  try clear hx343_0
  try clear p2
  try clear p343
  try clear q343
  obtain ⟨kq, x343000_1, u343000, HA, HJ1, HO_343000, BK340, BK341, BK342, HB⟩ := hcut
  cases kq with
  | zero => exact absurd HA.out (by simp [topiarylaw15_small.j1])
  | succ kj1 =>
   have H := HA.out
   clear HA
   simp only [topiarylaw15_small.j1] at H
   have H' := Aside0.mk H
   clear H
   go_wp2
   go_loopg [5] kj1 (fun kq v5 w' => ∃ (x5_2 : Int) (x343001_2 : List (S52)) (u343001 : Value), v5 = .int .i64 x5_2 ∧ Aside0 (topiarylaw15_small.l1 kq x5_2 l0_0 l0_1 x343000_1 x343001_2 = some (r1, r2)) ∧ Aside0 (kq ≤ kj1) ∧ Aside0 (Kd.R Kd.string 9 w' w.heap.size (fun _ => True) u343000 x343000_1) ∧ Aside0 (Kd.R k52 52 w' w.heap.size (fun _ => True) u343001 x343001_2) ∧ Aside0 (w'.heap[gb340]? = some (.cells #[(.slice A0_0 l0_0.length c0_0), (.slice A0_1 l0_1.length c0_1)] 25 (0, 0))) ∧ Aside0 (w'.heap[gb341]? = some (.cells #[(.slice none 0 0), (.slice none 0 0)] 25 (0, 0))) ∧ Aside0 (w'.heap[gb342]? = some (.cells #[u343000, u343001] 25 (0, 0))) ∧ Aside0 (Below w.heap.size w w'))
   case atStart => exact ⟨(0), (([] : List (S52))), (.slice none 0 0), sm_, H', ⟨Nat.le_refl _⟩, ⟨rr_ HO_343000.out⟩, ⟨by first | exact Kd.R_nil _ _ _ _ _ | exact Kd.N_nil _ _ _ _ _ | exact Kd.V_nil _ _ _ _ _ | exact Kd.Q_nil _ _ _ _ _ | exact Kd.S_nil _ _ _ _ _⟩, ⟨bk_ BK340.out⟩, ⟨bk_ BK341.out⟩, ⟨bk_ BK342.out⟩, ⟨bu_ HB.out GE340.out GE341.out GE342.out⟩⟩
   case round =>
    clear H'
    try clear c1
    try clear c2
    try clear p2
    try clear p3
    try clear q3
    try clear hx3
    try clear c6
    try clear c6b0
    try clear p6
    try clear c7
    try clear c7b0
    try clear c8
    try clear c8b0
    try clear c10
    try clear c11
    try clear c12
    try clear c18
    try clear c19
    try clear c21
    try clear c22
    try clear hcz13_0
    try clear hcz13_1
    try clear hcz20_0
    try clear hcz20_1
    try clear hcz23_0
    try clear hcz23_1
    try clear hfz13_0
    try clear hfz13_1
    try clear hfz20_0
    try clear hfz20_1
    try clear hfz23_0
    try clear hfz23_1
    try clear hx343_0
    try clear p2
    try clear p3
    try clear p343
    try clear p6
    try clear q3
    try clear q343
    obtain ⟨x5_2, x343001_2, u343001, rfl, HA, HK2, HO_343000, HO_343001, BK340, BK341, BK342, HB⟩ := hrel
    cases gk with
    | zero => exact absurd HA.out (by simp [topiarylaw15_small.l1])
    | succ k2 =>
     have H := HA.out
     clear HA
     simp only [topiarylaw15_small.l1] at H
     by_cases c24 : x5_2 < (l0_1.length : Int)
     ·rw [if_pos c24] at H
      have c24b0 : decide (x5_2 < (l0_1.length : Int)) = true := decide_eq_true c24
      clear c24
      by_cases c25 : x5_2 < 30
      ·rw [if_pos c25] at H
       have c25b0 : decide (x5_2 < 30) = true := decide_eq_true c25
       clear c25
       by_cases c26 : 0 ≤ x5_2
       ·rw [if_pos c26] at H
        have c26b0 : decide (0 ≤ x5_2) = true := decide_eq_true c26
        clear c26
        replace H := Option.bind_eq_some_iff.mp H
        obtain ⟨t350, A270, H⟩ := H
        try dsimp only at H
        have A27 := Aside0.mk A270
        clear A270
        by_cases c28 : x343001_2.length < 3518437208883
        ·rw [if_pos c28] at H
         have LMc28 := Aside0.mk c28
         clear c28
         obtain ⟨y351, hy351⟩ : ∃ y_ : List (S52), y_ = (x343001_2 ++ [(⟨(rd_T52 l0_1 x5_2).f0, (rd_T52 l0_1 x5_2).f1, (rd_T52 l0_1 x5_2).f2, t350⟩ : S52)]) := ⟨_, rfl⟩
         replace H : (topiarylaw15_small.l1 k2 (wrap64 (x5_2 + 1)) l0_0 l0_1 x343000_1 y351) = some (r1, r2) := by first | (rw [hy351]; with_reducible exact H) | (have H2_ := (Option.bind_some _ _).symm.trans H; rw [hy351]; with_reducible exact H2_) | (have H2_ := (Option.bind_some _ _).symm.trans H; with_reducible exact H2_) | with_reducible exact H | (rw [hy351]; exact H) | exact H
         have Ny351 := Aside0.mk hy351
         clear hy351
         have H' := Aside0.mk H
         clear H
         have hnb29 := NB340_341.out
         have hnc29 := NB341_340.out
         have hnb30 := NB340_342.out
         have hnc30 := NB342_340.out
         have hcz31_0 : wr.cell? ⟨gb340, 0, none⟩ = some (.slice A0_0 l0_0.length c0_0) := (blk_cell BK340.out 0).trans rfl
         have hcz31_1 : wr.cell? ⟨gb340, 1, none⟩ = some (.slice A0_1 l0_1.length c0_1) := (blk_cell BK340.out 1).trans rfl
         have hfz31_0 := blk_frozen BK340.out 0
         have hfz31_1 := blk_frozen BK340.out 1
         have p348 : 0 ≤ (x5_2 : Int) := of_decide_eq_true as_
         have q348 : x5_2 < (l0_1.length : Int) := of_decide_eq_true as_
         obtain ⟨ad348, e348, hx348_0, hx348_1, hx348_2, hx348_3⟩ := at_T52 HR0_1.out x5_2 p348 q348
         cases e348
         replace hx348_0 := (HB.out.cell (World.block_lt_of_cell? w _ hx348_0)).trans hx348_0
         replace hx348_1 := (HB.out.cell (World.block_lt_of_cell? w _ hx348_1)).trans hx348_1
         replace hx348_2 := (HB.out.cell (World.block_lt_of_cell? w _ hx348_2)).trans hx348_2
         replace hx348_3 := (HB.out.cell (World.block_lt_of_cell? w _ hx348_3)).trans hx348_3
         replace p348 := eq_true p348
         replace q348 := eq_true q348
         go_wp2_with (first | ((with_reducible refine gate_dst (N := 6) rfl ?_); refine box_event ?hg (N := 6) ?hd (cs := #[.int .i64 0, .int .i64 0, .int .i64 0, .string (⟨#[]⟩ : ByteArray)]) (t := 52) ?hr ?_; (case hd => rfl); (case hg => rfl); (case hr => first | (go_simp; done) | (go_simp; rfl)); intro gb349 hg w32 hbox hb; have n0_ := Aside0.mk (Kd.R_below (rr_ HO_343000.out) hb); have n1_ := Aside0.mk (Kd.R_below (Kd.R_elderB (rr_ HO_343001.out) gb349 (Nat.le_of_eq hg.symm)) hb); have n2_ := Aside0.mk (blk_below (g := gb340) (o := .cells #[.slice A0_0 l0_0.length c0_0, .slice (some ad348) l0_1.length c0_1] 25 (0, 0)) (bk_ BK340.out) hb); have n3_ := Aside0.mk (blk_below (g := gb341) (o := .cells #[.slice none 0 0, .slice none 0 0] 25 (0, 0)) (bk_ BK341.out) hb); have n4_ := Aside0.mk (blk_below (g := gb342) (o := .cells #[u343000, u343001] 25 (0, 0)) (bk_ BK342.out) hb); have n5_ := Aside0.mk (below_step (bu_ HB.out GE340.out GE341.out GE342.out) hb); have n6_ := Aside0.mk (hbox); have n7_ := Aside0.mk ((by rw [hg]; exact (below_size (bu_ HB.out GE340.out GE341.out GE342.out)) : w.heap.size ≤ gb349)); have n8_ := Aside0.mk ((by rw [hg]; exact (below_size (bu_ HB.out GE340.out GE341.out GE342.out)) : w.heap.size ≤ gb349)); have n9_ := Aside0.mk ((by rw [hg]; exact Nat.ne_of_lt (blk_lt (g := gb340) (o := .cells #[.slice A0_0 l0_0.length c0_0, .slice (some ad348) l0_1.length c0_1] 25 (0, 0)) (bk_ BK340.out)) : gb340 ≠ gb349)); have n10_ := Aside0.mk ((by rw [hg]; exact Nat.ne_of_gt (blk_lt (g := gb340) (o := .cells #[.slice A0_0 l0_0.length c0_0, .slice (some ad348) l0_1.length c0_1] 25 (0, 0)) (bk_ BK340.out)) : gb349 ≠ gb340)); have n11_ := Aside0.mk ((by rw [hg]; exact Nat.ne_of_lt (blk_lt (g := gb341) (o := .cells #[.slice none 0 0, .slice none 0 0] 25 (0, 0)) (bk_ BK341.out)) : gb341 ≠ gb349)); have n12_ := Aside0.mk ((by rw [hg]; exact Nat.ne_of_gt (blk_lt (g := gb341) (o := .cells #[.slice none 0 0, .slice none 0 0] 25 (0, 0)) (bk_ BK341.out)) : gb349 ≠ gb341)); have n13_ := Aside0.mk ((by rw [hg]; exact Nat.ne_of_lt (blk_lt (g := gb342) (o := .cells #[u343000, u343001] 25 (0, 0)) (bk_ BK342.out)) : gb342 ≠ gb349)); have n14_ := Aside0.mk ((by rw [hg]; exact Nat.ne_of_gt (blk_lt (g := gb342) (o := .cells #[u343000, u343001] 25 (0, 0)) (bk_ BK342.out)) : gb349 ≠ gb342)); clear HO_343000; clear HO_343001; clear BK340; clear BK341; clear BK342; clear HB; have HO_343000 := n0_; have HO_343001 := n1_; have BK340 := n2_; have BK341 := n3_; have BK342 := n4_; have HB := n5_; have BK349 := n6_; have GW349 := n7_; have GE349 := n8_; have NB340_349 := n9_; have NB349_340 := n10_; have NB341_349 := n11_; have NB349_341 := n12_; have NB342_349 := n13_; have NB349_342 := n14_; clear n0_ n1_ n2_ n3_ n4_ n5_ n6_ n7_ n8_ n9_ n10_ n11_ n12_ n13_ n14_; clear hb hbox hg; have hnb33 := NB349_340.out; have hnc33 := NB340_349.out; have hnb34 := NB349_341.out; have hnc34 := NB341_349.out; have hnb35 := NB349_342.out; have hnc35 := NB342_349.out; have hcz36_0 : w32.cell? ⟨gb349, 0, none⟩ = some (.int .i64 0) := (blk_cell BK349.out 0).trans rfl; have hcz36_1 : w32.cell? ⟨gb349, 1, none⟩ = some (.int .i64 0) := (blk_cell BK349.out 1).trans rfl; have hcz36_2 : w32.cell? ⟨gb349, 2, none⟩ = some (.int .i64 0) := (blk_cell BK349.out 2).trans rfl; have hcz36_3 : w32.cell? ⟨gb349, 3, none⟩ = some (.string (⟨#[]⟩ : ByteArray)) := (blk_cell BK349.out 3).trans rfl; have hfz36_0 := blk_frozen BK349.out 0; have hfz36_1 := blk_frozen BK349.out 1; have hfz36_2 := blk_frozen BK349.out 2; have hfz36_3 := blk_frozen BK349.out 3))
         refine calls_world (fun W_ => W_.heap[gb340]? = some (.cells #[.slice A0_0 l0_0.length c0_0, .slice (some ad348) l0_1.length c0_1] 25 (0, 0)) ∧ W_.heap[gb341]? = some (.cells #[.slice none 0 0, .slice none 0 0] 25 (0, 0)) ∧ W_.heap[gb342]? = some (.cells #[u343000, u343001] 25 (0, 0)) ∧ W_.heap[gb349]? = some (.cells #[.int .i64 (rd_T52 l0_1 x5_2).f0, .int .i64 (rd_T52 l0_1 x5_2).f1, .int .i64 (rd_T52 l0_1 x5_2).f2, .string (rd_T52 l0_1 x5_2).f3] 52 (0, 0)) ∧ Kd.R Kd.string 9 W_ w.heap.size (fun k_ => k_ ≠ gb349) u343000 x343000_1 ∧ Kd.R k52 52 W_ w.heap.size (fun k_ => k_ ≠ gb349) u343001 x343001_2 ∧ Below w.heap.size w W_) ⟨?b0, ?b1, ?b2, ?b3, ?b4, ?b5, ?b6⟩ ?_
         case b0 => exact blk_far (blk_far (blk_far (blk_far BK340.out NB340_349.out _) NB340_349.out _) NB340_349.out _) NB340_349.out _
         case b1 => exact blk_far (blk_far (blk_far (blk_far BK341.out NB341_349.out _) NB341_349.out _) NB341_349.out _) NB341_349.out _
         case b2 => exact blk_far (blk_far (blk_far (blk_far BK342.out NB342_349.out _) NB342_349.out _) NB342_349.out _) NB342_349.out _
         case b3 => exact by simpa using blk_set (blk_set (blk_set (blk_set BK349.out 0 (.int .i64 (rd_T52 l0_1 x5_2).f0)) 1 (.int .i64 (rd_T52 l0_1 x5_2).f1)) 2 (.int .i64 (rd_T52 l0_1 x5_2).f2)) 3 (.string (rd_T52 l0_1 x5_2).f3)
         case b4 => exact Kd.R_far (Kd.R_far (Kd.R_far (Kd.R_far (Kd.R_mono (Kd.R_types HO_343000.out BK349.out (by decide)) (fun _ hk => hk.2)) (fun _ hk => hk) _) (fun _ hk => hk) _) (fun _ hk => hk) _) (fun _ hk => hk) _
         case b5 => exact Kd.R_far (Kd.R_far (Kd.R_far (Kd.R_far (Kd.R_mono HO_343001.out (fun _ hk => hk.2)) (fun _ hk => hk) _) (fun _ hk => hk) _) (fun _ hk => hk) _) (fun _ hk => hk) _
         case b6 => exact below_set (below_set (below_set (below_set HB.out GE349.out) GE349.out) GE349.out) GE349.out
         clear HO_343000 HO_343001 BK340 BK341 BK342 BK349 HB hcz36_0 hcz36_1 hcz36_2 hcz36_3 hfz36_0 hfz36_1 hfz36_2 hfz36_3 hx348_0 hx348_1 hx348_2 hx348_3
         rintro w33 ⟨b0, b1, b2, b3, b4, b5, b6⟩
         have BK340 := Aside0.mk b0
         have BK341 := Aside0.mk b1
         have BK342 := Aside0.mk b2
         have BK349 := Aside0.mk b3
         have HO_343000 := Aside0.mk b4
         have HO_343001 := Aside0.mk b5
         have HB := Aside0.mk b6
         clear b0 b1 b2 b3 b4 b5 b6
         have k0 : w33.cell? ⟨gb349, 0, none⟩ = some (.int .i64 (rd_T52 l0_1 x5_2).f0) := (blk_cell BK349.out 0).trans rfl
         have k1 : w33.cell? ⟨gb349, 1, none⟩ = some (.int .i64 (rd_T52 l0_1 x5_2).f1) := (blk_cell BK349.out 1).trans rfl
         have k2c : w33.cell? ⟨gb349, 2, none⟩ = some (.int .i64 (rd_T52 l0_1 x5_2).f2) := (blk_cell BK349.out 2).trans rfl
         have k3 : w33.cell? ⟨gb349, 3, none⟩ = some (.string (rd_T52 l0_1 x5_2).f3) := (blk_cell BK349.out 3).trans rfl
         have kf := blk_frozen BK349.out 3
         have m1 : w33.cell? ⟨gb342, 1, none⟩ = some u343001 := (blk_cell BK342.out 1).trans rfl
         have mf := blk_frozen BK342.out 1
         with_reducible refine (topiarylaw15_short.calls ((rd_T52 l0_1 x5_2).f3) 20 t350 _ A27.out).mono ?_
         rintro e w' ⟨rfl, ⟨nd, rfl⟩⟩
         go_wp2_with (first | ((with_reducible refine gate_builtin (b := .append) (xs := #[.tmp 50, .tmp 52]) rfl ?_); at_builtin; refine Kd.R_append k52 (w0 := w) w.heap.size rfl (.tmp 50) (.tmp 52) 23 52 (.agg #[(.int .i64 0), (.int .i64 0), (.int .i64 0), (.string ⟨#[]⟩)]) 40 rfl Try.underlying23 info52 rfl (by decide) (by omega) u343001 x343001_2 (⟨(rd_T52 l0_1 x5_2).f0, (rd_T52 l0_1 x5_2).f1, (rd_T52 l0_1 x5_2).f2, t350⟩ : S52) [.int .i64 ((rd_T52 l0_1 x5_2).f0), .int .i64 ((rd_T52 l0_1 x5_2).f1), .int .i64 ((rd_T52 l0_1 x5_2).f2), .string t350] (fun k_ => k_ ≠ gb349) (fun _ => False) rfl (by first | (go_simp; done) | (go_simp; rfl)) ?aP (fun _ hk => hk.elim) ?aF ?aO ?aB ?aS ?aL ?_; (case aP => exact k52_mkM _ _ _ (⟨(rd_T52 l0_1 x5_2).f0, (rd_T52 l0_1 x5_2).f1, (rd_T52 l0_1 x5_2).f2, t350⟩ : S52)); (case aB => exact below_set (pw_below_drewN HB.out nd) GE349.out); (case aF => exact fun k_ hk => Kd.freshB (blk_set (blk_drewN BK349.out nd) 3 _) k_ hk); (case aO => exact Kd.R_far (Kd.R_drewN HO_343001.out nd) (fun _ hk => hk) _); (case aS => exact below_size (below_set (pw_below_drewN HB.out nd) GE349.out)); (case aL => have := LMc28.out; omega); intro v352 w39 ho hb hg hat; rw [← Ny351.out] at ho; have n0_ := Aside0.mk (Kd.R_over' (Kd.R_far (p := ⟨gb349, 3, none⟩) (Kd.R_drewN HO_343000.out nd) (fun _ hk => hk) (.string t350)) (Kd.R_typed (Kd.R_far (p := ⟨gb349, 3, none⟩) (Kd.R_drewN HO_343001.out nd) (fun _ hk => hk) (.string t350))) (by decide) hg); have n1_ := Aside0.mk (blk_grown (blk_far (p := ⟨gb349, 3, none⟩) (blk_drewN BK340.out nd) NB340_349.out (.string t350)) hg (Kd.R_ne HO_343001.out BK340.out (by decide))); have n2_ := Aside0.mk (blk_grown (blk_far (p := ⟨gb349, 3, none⟩) (blk_drewN BK341.out nd) NB341_349.out (.string t350)) hg (Kd.R_ne HO_343001.out BK341.out (by decide))); have n3_ := Aside0.mk (blk_grown (blk_far (p := ⟨gb349, 3, none⟩) (blk_drewN BK342.out nd) NB342_349.out (.string t350)) hg (Kd.R_ne HO_343001.out BK342.out (by decide))); have n4_ := Aside0.mk hb; have n5_ := Aside0.mk ho; clear HO_343000 BK340 BK341 BK342 HB HO_343001 BK349; have HO_343000 := n0_; have BK340 := n1_; have BK341 := n2_; have BK342 := n3_; have HB := n4_; have HO353 := n5_; clear n0_ n1_ n2_ n3_ n4_ n5_; clear ho hb hg hat; obtain ⟨Ao40, co40, eo40⟩ := Kd.R_slice HO353.out; subst eo40; have hcz41_1 : w39.cell? ⟨gb342, 1, none⟩ = some u343001 := (blk_cell BK342.out 1).trans rfl; have hfz41_1 := blk_frozen BK342.out 1))
         go_roundg k2
         case measure => have := HJ1.out; have := HK2.out; omega
         case rel => exact ⟨(wrap64 (x5_2 + 1)), (y351), (.slice Ao40 y351.length co40), sm_, H', ⟨by have := HJ1.out; have := HK2.out; omega⟩, ⟨Kd.R_mono (Kd.R_far (p := ⟨gb342, 1, none⟩) (Kd.R_types HO_343000.out BK342.out (by decide)) (fun _ hk => hk.2) (.slice Ao40 y351.length co40)) (fun _ hk => trivial)⟩, ⟨Kd.R_mono (Kd.R_far (p := ⟨gb342, 1, none⟩) (Kd.R_types HO353.out BK342.out (by decide)) (fun _ hk => hk.2) (.slice Ao40 y351.length co40)) (fun _ hk => trivial)⟩, ⟨blk_far BK340.out NB340_342.out _⟩, ⟨blk_far BK341.out NB341_342.out _⟩, ⟨by simpa using blk_set BK342.out 1 (.slice Ao40 y351.length co40)⟩, ⟨below_set HB.out GE342.out⟩⟩
        ·rw [if_neg c28] at H
         exact absurd H (by simp)
       ·rw [if_neg c26] at H
        exact absurd H (by simp)
      ·rw [if_neg c25] at H
       have c25b0 : decide (x5_2 < 30) = false := decide_eq_false c25
       clear c25
       simp only [Option.some.injEq, Prod.mk.injEq] at H
       obtain ⟨rfl, rfl⟩ := H
       have hnb42 := NB340_341.out
       have hnc42 := NB341_340.out
       have hnb43 := NB340_342.out
       have hnc43 := NB342_340.out
       have hcz44_0 : wr.cell? ⟨gb340, 0, none⟩ = some (.slice A0_0 l0_0.length c0_0) := (blk_cell BK340.out 0).trans rfl
       have hcz44_1 : wr.cell? ⟨gb340, 1, none⟩ = some (.slice A0_1 l0_1.length c0_1) := (blk_cell BK340.out 1).trans rfl
       have hfz44_0 := blk_frozen BK340.out 0
       have hfz44_1 := blk_frozen BK340.out 1
       have hnb45 := NB342_341.out
       have hnc45 := NB341_342.out
       have hcz46_0 : wr.cell? ⟨gb342, 0, none⟩ = some (u343000) := (blk_cell BK342.out 0).trans rfl
       have hcz46_1 : wr.cell? ⟨gb342, 1, none⟩ = some (u343001) := (blk_cell BK342.out 1).trans rfl
       have hfz46_0 := blk_frozen BK342.out 0
       have hfz46_1 := blk_frozen BK342.out 1
       obtain ⟨Ao47, co47, eo47⟩ := Kd.R_slice HO_343000.out
       subst eo47
       have hcz48_0 : wr.cell? ⟨gb341, 0, none⟩ = some (.slice none 0 0) := (blk_cell BK341.out 0).trans rfl
       have hcz48_1 : wr.cell? ⟨gb341, 1, none⟩ = some (.slice none 0 0) := (blk_cell BK341.out 1).trans rfl
       have hfz48_0 := blk_frozen BK341.out 0
       have hfz48_1 := blk_frozen BK341.out 1
       obtain ⟨Ao49, co49, eo49⟩ := Kd.R_slice HO_343001.out
       subst eo49
       go_wp2
       refine bodyPost_ret (results_cell_row rfl _ _ gb341 25 #[.slice Ao47 x343000_1.length co47, .slice Ao49 x343001_2.length co49] (0, 0) _ rfl (by (with_reducible repeat (first | refine blk_drewN ?_ _ | refine blk_drew ?_ | refine blk_alloc ?_ _)); refine blk_put (cs := #[.slice Ao47 x343000_1.length co47, .slice none 0 0]) ?_ 1 _ rfl; (with_reducible repeat (first | refine blk_drewN ?_ _ | refine blk_drew ?_ | refine blk_alloc ?_ _)); refine blk_put (cs := #[.slice none 0 0, .slice none 0 0]) ?_ 0 _ rfl; exact bk_ BK341.out) Try.underlying25 rfl (by kernel_rfl)) rfl ?_
       exact ⟨_, _, by first | rfl | (simp [errW_none, errW_some] <;> rfl) | (simp [*, errW_none, errW_some] <;> rfl), by (with_reducible repeat (first | apply Kd.R_alloc | apply Kd.R_drewN | apply Kd.R_drew)); exact Kd.R_mono (Kd.R_far (p := ⟨gb341, 1, none⟩) (Kd.R_far (p := ⟨gb341, 0, none⟩) (Kd.R_types HO_343000.out BK341.out (by decide)) (fun _ hk => hk.2) (.slice Ao47 x343000_1.length co47)) (fun _ hk => hk.2) (.slice Ao49 x343001_2.length co49)) (fun _ hk => trivial), by (with_reducible repeat (first | apply Kd.R_alloc | apply Kd.R_drewN | apply Kd.R_drew)); exact Kd.R_mono (Kd.R_far (p := ⟨gb341, 1, none⟩) (Kd.R_far (p := ⟨gb341, 0, none⟩) (Kd.R_types HO_343001.out BK341.out (by decide)) (fun _ hk => hk.2) (.slice Ao47 x343000_1.length co47)) (fun _ hk => hk.2) (.slice Ao49 x343001_2.length co49)) (fun _ hk => trivial), bu_ HB.out GE340.out GE341.out GE342.out⟩
     ·rw [if_neg c24] at H
      have c24b0 : decide (x5_2 < (l0_1.length : Int)) = false := decide_eq_false c24
      clear c24
      simp only [Option.some.injEq, Prod.mk.injEq] at H
      obtain ⟨rfl, rfl⟩ := H
      have hnb50 := NB340_341.out
      have hnc50 := NB341_340.out
      have hnb51 := NB340_342.out
      have hnc51 := NB342_340.out
      have hcz52_0 : wr.cell? ⟨gb340, 0, none⟩ = some (.slice A0_0 l0_0.length c0_0) := (blk_cell BK340.out 0).trans rfl
      have hcz52_1 : wr.cell? ⟨gb340, 1, none⟩ = some (.slice A0_1 l0_1.length c0_1) := (blk_cell BK340.out 1).trans rfl
      have hfz52_0 := blk_frozen BK340.out 0
      have hfz52_1 := blk_frozen BK340.out 1
      have hnb53 := NB342_341.out
      have hnc53 := NB341_342.out
      have hcz54_0 : wr.cell? ⟨gb342, 0, none⟩ = some (u343000) := (blk_cell BK342.out 0).trans rfl
      have hcz54_1 : wr.cell? ⟨gb342, 1, none⟩ = some (u343001) := (blk_cell BK342.out 1).trans rfl
      have hfz54_0 := blk_frozen BK342.out 0
      have hfz54_1 := blk_frozen BK342.out 1
      obtain ⟨Ao55, co55, eo55⟩ := Kd.R_slice HO_343000.out
      subst eo55
      have hcz56_0 : wr.cell? ⟨gb341, 0, none⟩ = some (.slice none 0 0) := (blk_cell BK341.out 0).trans rfl
      have hcz56_1 : wr.cell? ⟨gb341, 1, none⟩ = some (.slice none 0 0) := (blk_cell BK341.out 1).trans rfl
      have hfz56_0 := blk_frozen BK341.out 0
      have hfz56_1 := blk_frozen BK341.out 1
      obtain ⟨Ao57, co57, eo57⟩ := Kd.R_slice HO_343001.out
      subst eo57
      go_wp2
      refine bodyPost_ret (results_cell_row rfl _ _ gb341 25 #[.slice Ao55 x343000_1.length co55, .slice Ao57 x343001_2.length co57] (0, 0) _ rfl (by (with_reducible repeat (first | refine blk_drewN ?_ _ | refine blk_drew ?_ | refine blk_alloc ?_ _)); refine blk_put (cs := #[.slice Ao55 x343000_1.length co55, .slice none 0 0]) ?_ 1 _ rfl; (with_reducible repeat (first | refine blk_drewN ?_ _ | refine blk_drew ?_ | refine blk_alloc ?_ _)); refine blk_put (cs := #[.slice none 0 0, .slice none 0 0]) ?_ 0 _ rfl; exact bk_ BK341.out) Try.underlying25 rfl (by kernel_rfl)) rfl ?_
      exact ⟨_, _, by first | rfl | (simp [errW_none, errW_some] <;> rfl) | (simp [*, errW_none, errW_some] <;> rfl), by (with_reducible repeat (first | apply Kd.R_alloc | apply Kd.R_drewN | apply Kd.R_drew)); exact Kd.R_mono (Kd.R_far (p := ⟨gb341, 1, none⟩) (Kd.R_far (p := ⟨gb341, 0, none⟩) (Kd.R_types HO_343000.out BK341.out (by decide)) (fun _ hk => hk.2) (.slice Ao55 x343000_1.length co55)) (fun _ hk => hk.2) (.slice Ao57 x343001_2.length co57)) (fun _ hk => trivial), by (with_reducible repeat (first | apply Kd.R_alloc | apply Kd.R_drewN | apply Kd.R_drew)); exact Kd.R_mono (Kd.R_far (p := ⟨gb341, 1, none⟩) (Kd.R_far (p := ⟨gb341, 0, none⟩) (Kd.R_types HO_343001.out BK341.out (by decide)) (fun _ hk => hk.2) (.slice Ao55 x343000_1.length co55)) (fun _ hk => hk.2) (.slice Ao57 x343001_2.length co57)) (fun _ hk => trivial), bu_ HB.out GE340.out GE341.out GE342.out⟩
def topiaryref15_Parent.f (l0_0 : List ByteArray) (l0_1 : List (S52)) (a1 : Int) : Option (Int) := if a1 < 0 then (some (-1)) else (if a1 ≥ (l0_1.length : Int) then (some (-1)) else (if 0 ≤ a1 then (if a1 < (l0_1.length : Int) then (if ((rd_T52 l0_1 a1).f2) < 0 then (some (-1)) else (if ((rd_T52 l0_1 a1).f2) ≥ a1 then (some (-1)) else (some ((rd_T52 l0_1 a1).f2)))) else (none)) else (none)))
set_option maxHeartbeats 8000000 in
set_option maxRecDepth 100000 in
theorem topiaryref15_Parent.calls (A0_0 : Option Addr) (c0_0 : Nat) (l0_0 : List ByteArray) (A0_1 : Option Addr) (c0_1 : Nat) (l0_1 : List (S52)) (a1 : Int) (r : Int) (w : World) (hr0_0 : Kd.C Kd.string w A0_0 l0_0.length l0_0) (hc0_0 : l0_0.length ≤ c0_0) (hr0_1 : Kd.C k52 w A0_1 l0_1.length l0_1) (hc0_1 : l0_1.length ≤ c0_1) (h : topiaryref15_Parent.f l0_0 l0_1 a1 = some r) :
  Calls Try.prog 18 #[.agg #[.slice A0_0 l0_0.length c0_0, .slice A0_1 l0_1.length c0_1], .int .i64 a1] w fun e w' => e = .returned (.int .i64 r) ∧ Below w.heap.size w w' := by
 have hu25 := Try.underlying25
 have HR0_0 := Aside0.mk hr0_0
 have HC0_0 := Aside0.mk hc0_0
 clear hr0_0 hc0_0
 have HR0_1 := Aside0.mk hr0_1
 have HC0_1 := Aside0.mk hc0_1
 clear hr0_1 hc0_1
 have HB := Aside0.mk (Below.refl w.heap.size w)
 have H : (if a1 < 0 then (some (-1)) else (if a1 ≥ (l0_1.length : Int) then (some (-1)) else (if 0 ≤ a1 then (if a1 < (l0_1.length : Int) then (if ((rd_T52 l0_1 a1).f2) < 0 then (some (-1)) else (if ((rd_T52 l0_1 a1).f2) ≥ a1 then (some (-1)) else (some ((rd_T52 l0_1 a1).f2)))) else (none)) else (none)))) = some r := h
 clear h
 by_cases c3 : a1 < 0
 ·rw [if_pos c3] at H
  have c3b0 : decide (a1 < 0) = true := decide_eq_true c3
  clear c3
  obtain rfl := Option.some.inj H
  go_enter Try.func18, Try.ntmps18
  go_wp2_with (first | ((with_reducible refine gate_dst (N := 2) rfl ?_); (try (refine gate_guard (by rfl) ?_; dsimp only)); refine box_event ?hg (N := 2) ?hd (cs := #[.slice A0_0 l0_0.length c0_0, .slice A0_1 l0_1.length c0_1]) (t := 25) ?hr ?_; (case hd => rfl); (case hg => rfl); (case hr => first | (go_simp; done) | (go_simp; rfl)); intro gb340 hg w4 hbox hb; have n0_ := Aside0.mk (below_step (bb_ HB.out) hb); have n1_ := Aside0.mk (hbox); have n2_ := Aside0.mk ((by rw [hg]; exact (below_size (bb_ HB.out)) : w.heap.size ≤ gb340)); have n3_ := Aside0.mk ((by rw [hg]; exact (below_size (bb_ HB.out)) : w.heap.size ≤ gb340)); clear HB; have HB := n0_; have BK340 := n1_; have GW340 := n2_; have GE340 := n3_; clear n0_ n1_ n2_ n3_; clear hb hbox hg))
  go_ret
  exact ⟨by first | rfl | (simp [errW_none, errW_some] <;> rfl) | (simp [*, errW_none, errW_some] <;> rfl), bs_ HB.out GE340.out⟩
 ·rw [if_neg c3] at H
  have c3b0 : decide (a1 < 0) = false := decide_eq_false c3
  clear c3
  by_cases c5 : a1 ≥ (l0_1.length : Int)
  ·rw [if_pos c5] at H
   have c5b0 : decide ((l0_1.length : Int) ≤ a1) = true := decide_eq_true c5
   clear c5
   obtain rfl := Option.some.inj H
   go_enter Try.func18, Try.ntmps18
   go_wp2_with (first | ((with_reducible refine gate_dst (N := 2) rfl ?_); (try (refine gate_guard (by rfl) ?_; dsimp only)); refine box_event ?hg (N := 2) ?hd (cs := #[.slice A0_0 l0_0.length c0_0, .slice A0_1 l0_1.length c0_1]) (t := 25) ?hr ?_; (case hd => rfl); (case hg => rfl); (case hr => first | (go_simp; done) | (go_simp; rfl)); intro gb340 hg w6 hbox hb; have n0_ := Aside0.mk (below_step (bb_ HB.out) hb); have n1_ := Aside0.mk (hbox); have n2_ := Aside0.mk ((by rw [hg]; exact (below_size (bb_ HB.out)) : w.heap.size ≤ gb340)); have n3_ := Aside0.mk ((by rw [hg]; exact (below_size (bb_ HB.out)) : w.heap.size ≤ gb340)); clear HB; have HB := n0_; have BK340 := n1_; have GW340 := n2_; have GE340 := n3_; clear n0_ n1_ n2_ n3_; clear hb hbox hg; have hcz7_0 : w6.cell? ⟨gb340, 0, none⟩ = some (.slice A0_0 l0_0.length c0_0) := (blk_cell BK340.out 0).trans rfl; have hcz7_1 : w6.cell? ⟨gb340, 1, none⟩ = some (.slice A0_1 l0_1.length c0_1) := (blk_cell BK340.out 1).trans rfl; have hfz7_0 := blk_frozen BK340.out 0; have hfz7_1 := blk_frozen BK340.out 1))
   go_ret
   exact ⟨by first | rfl | (simp [errW_none, errW_some] <;> rfl) | (simp [*, errW_none, errW_some] <;> rfl), bs_ HB.out GE340.out⟩
  ·rw [if_neg c5] at H
   have c5b0 : decide ((l0_1.length : Int) ≤ a1) = false := decide_eq_false c5
   clear c5
   by_cases c8 : 0 ≤ a1
   ·rw [if_pos c8] at H
    have c8b0 : decide (0 ≤ a1) = true := decide_eq_true c8
    clear c8
    by_cases c9 : a1 < (l0_1.length : Int)
    ·rw [if_pos c9] at H
     have c9b0 : decide (a1 < (l0_1.length : Int)) = true := decide_eq_true c9
     clear c9
     by_cases c10 : ((rd_T52 l0_1 a1).f2) < 0
     ·rw [if_pos c10] at H
      have c10b0 : decide (((rd_T52 l0_1 a1).f2) < 0) = true := decide_eq_true c10
      clear c10
      obtain rfl := Option.some.inj H
      go_enter Try.func18, Try.ntmps18
      go_wp2_with (first | ((with_reducible refine gate_dst (N := 2) rfl ?_); (try (refine gate_guard (by rfl) ?_; dsimp only)); refine box_event ?hg (N := 2) ?hd (cs := #[.slice A0_0 l0_0.length c0_0, .slice A0_1 l0_1.length c0_1]) (t := 25) ?hr ?_; (case hd => rfl); (case hg => rfl); (case hr => first | (go_simp; done) | (go_simp; rfl)); intro gb340 hg w11 hbox hb; have n0_ := Aside0.mk (below_step (bb_ HB.out) hb); have n1_ := Aside0.mk (hbox); have n2_ := Aside0.mk ((by rw [hg]; exact (below_size (bb_ HB.out)) : w.heap.size ≤ gb340)); have n3_ := Aside0.mk ((by rw [hg]; exact (below_size (bb_ HB.out)) : w.heap.size ≤ gb340)); clear HB; have HB := n0_; have BK340 := n1_; have GW340 := n2_; have GE340 := n3_; clear n0_ n1_ n2_ n3_; clear hb hbox hg; have hcz12_0 : w11.cell? ⟨gb340, 0, none⟩ = some (.slice A0_0 l0_0.length c0_0) := (blk_cell BK340.out 0).trans rfl; have hcz12_1 : w11.cell? ⟨gb340, 1, none⟩ = some (.slice A0_1 l0_1.length c0_1) := (blk_cell BK340.out 1).trans rfl; have hfz12_0 := blk_frozen BK340.out 0; have hfz12_1 := blk_frozen BK340.out 1; have p341 : 0 ≤ (a1 : Int) := of_decide_eq_true as_; have q341 : a1 < (l0_1.length : Int) := of_decide_eq_true as_; obtain ⟨ad341, e341, hx341_0, hx341_1, hx341_2, hx341_3⟩ := at_T52 HR0_1.out a1 p341 q341; cases e341; replace hx341_0 := (HB.out.cell (World.block_lt_of_cell? w _ hx341_0)).trans hx341_0; replace hx341_1 := (HB.out.cell (World.block_lt_of_cell? w _ hx341_1)).trans hx341_1; replace hx341_2 := (HB.out.cell (World.block_lt_of_cell? w _ hx341_2)).trans hx341_2; replace hx341_3 := (HB.out.cell (World.block_lt_of_cell? w _ hx341_3)).trans hx341_3; replace p341 := eq_true p341; replace q341 := eq_true q341))
      go_ret
      exact ⟨by first | rfl | (simp [errW_none, errW_some] <;> rfl) | (simp [*, errW_none, errW_some] <;> rfl), bs_ HB.out GE340.out⟩
     ·rw [if_neg c10] at H
      have c10b0 : decide (((rd_T52 l0_1 a1).f2) < 0) = false := decide_eq_false c10
      clear c10
      by_cases c13 : ((rd_T52 l0_1 a1).f2) ≥ a1
      ·rw [if_pos c13] at H
       have c13b0 : decide (a1 ≤ ((rd_T52 l0_1 a1).f2)) = true := decide_eq_true c13
       clear c13
       obtain rfl := Option.some.inj H
       go_enter Try.func18, Try.ntmps18
       go_wp2_with (first | ((with_reducible refine gate_dst (N := 2) rfl ?_); (try (refine gate_guard (by rfl) ?_; dsimp only)); refine box_event ?hg (N := 2) ?hd (cs := #[.slice A0_0 l0_0.length c0_0, .slice A0_1 l0_1.length c0_1]) (t := 25) ?hr ?_; (case hd => rfl); (case hg => rfl); (case hr => first | (go_simp; done) | (go_simp; rfl)); intro gb340 hg w14 hbox hb; have n0_ := Aside0.mk (below_step (bb_ HB.out) hb); have n1_ := Aside0.mk (hbox); have n2_ := Aside0.mk ((by rw [hg]; exact (below_size (bb_ HB.out)) : w.heap.size ≤ gb340)); have n3_ := Aside0.mk ((by rw [hg]; exact (below_size (bb_ HB.out)) : w.heap.size ≤ gb340)); clear HB; have HB := n0_; have BK340 := n1_; have GW340 := n2_; have GE340 := n3_; clear n0_ n1_ n2_ n3_; clear hb hbox hg; have hcz15_0 : w14.cell? ⟨gb340, 0, none⟩ = some (.slice A0_0 l0_0.length c0_0) := (blk_cell BK340.out 0).trans rfl; have hcz15_1 : w14.cell? ⟨gb340, 1, none⟩ = some (.slice A0_1 l0_1.length c0_1) := (blk_cell BK340.out 1).trans rfl; have hfz15_0 := blk_frozen BK340.out 0; have hfz15_1 := blk_frozen BK340.out 1; have p341 : 0 ≤ (a1 : Int) := of_decide_eq_true as_; have q341 : a1 < (l0_1.length : Int) := of_decide_eq_true as_; obtain ⟨ad341, e341, hx341_0, hx341_1, hx341_2, hx341_3⟩ := at_T52 HR0_1.out a1 p341 q341; cases e341; replace hx341_0 := (HB.out.cell (World.block_lt_of_cell? w _ hx341_0)).trans hx341_0; replace hx341_1 := (HB.out.cell (World.block_lt_of_cell? w _ hx341_1)).trans hx341_1; replace hx341_2 := (HB.out.cell (World.block_lt_of_cell? w _ hx341_2)).trans hx341_2; replace hx341_3 := (HB.out.cell (World.block_lt_of_cell? w _ hx341_3)).trans hx341_3; replace p341 := eq_true p341; replace q341 := eq_true q341; have p342 : 0 ≤ (a1 : Int) := of_decide_eq_true as_; have q342 : a1 < (l0_1.length : Int) := of_decide_eq_true as_; obtain ⟨ad342, e342, hx342_0, hx342_1, hx342_2, hx342_3⟩ := at_T52 HR0_1.out a1 p342 q342; obtain rfl : ad341 = ad342 := (by injection e342); replace hx342_0 := (HB.out.cell (World.block_lt_of_cell? w _ hx342_0)).trans hx342_0; replace hx342_1 := (HB.out.cell (World.block_lt_of_cell? w _ hx342_1)).trans hx342_1; replace hx342_2 := (HB.out.cell (World.block_lt_of_cell? w _ hx342_2)).trans hx342_2; replace hx342_3 := (HB.out.cell (World.block_lt_of_cell? w _ hx342_3)).trans hx342_3; replace p342 := eq_true p342; replace q342 := eq_true q342))
       go_ret
       exact ⟨by first | rfl | (simp [errW_none, errW_some] <;> rfl) | (simp [*, errW_none, errW_some] <;> rfl), bs_ HB.out GE340.out⟩
      ·rw [if_neg c13] at H
       have c13b0 : decide (a1 ≤ ((rd_T52 l0_1 a1).f2)) = false := decide_eq_false c13
       clear c13
       obtain rfl := Option.some.inj H
       go_enter Try.func18, Try.ntmps18
       go_wp2_with (first | ((with_reducible refine gate_dst (N := 2) rfl ?_); (try (refine gate_guard (by rfl) ?_; dsimp only)); refine box_event ?hg (N := 2) ?hd (cs := #[.slice A0_0 l0_0.length c0_0, .slice A0_1 l0_1.length c0_1]) (t := 25) ?hr ?_; (case hd => rfl); (case hg => rfl); (case hr => first | (go_simp; done) | (go_simp; rfl)); intro gb340 hg w16 hbox hb; have n0_ := Aside0.mk (below_step (bb_ HB.out) hb); have n1_ := Aside0.mk (hbox); have n2_ := Aside0.mk ((by rw [hg]; exact (below_size (bb_ HB.out)) : w.heap.size ≤ gb340)); have n3_ := Aside0.mk ((by rw [hg]; exact (below_size (bb_ HB.out)) : w.heap.size ≤ gb340)); clear HB; have HB := n0_; have BK340 := n1_; have GW340 := n2_; have GE340 := n3_; clear n0_ n1_ n2_ n3_; clear hb hbox hg; have hcz17_0 : w16.cell? ⟨gb340, 0, none⟩ = some (.slice A0_0 l0_0.length c0_0) := (blk_cell BK340.out 0).trans rfl; have hcz17_1 : w16.cell? ⟨gb340, 1, none⟩ = some (.slice A0_1 l0_1.length c0_1) := (blk_cell BK340.out 1).trans rfl; have hfz17_0 := blk_frozen BK340.out 0; have hfz17_1 := blk_frozen BK340.out 1; have p341 : 0 ≤ (a1 : Int) := of_decide_eq_true as_; have q341 : a1 < (l0_1.length : Int) := of_decide_eq_true as_; obtain ⟨ad341, e341, hx341_0, hx341_1, hx341_2, hx341_3⟩ := at_T52 HR0_1.out a1 p341 q341; cases e341; replace hx341_0 := (HB.out.cell (World.block_lt_of_cell? w _ hx341_0)).trans hx341_0; replace hx341_1 := (HB.out.cell (World.block_lt_of_cell? w _ hx341_1)).trans hx341_1; replace hx341_2 := (HB.out.cell (World.block_lt_of_cell? w _ hx341_2)).trans hx341_2; replace hx341_3 := (HB.out.cell (World.block_lt_of_cell? w _ hx341_3)).trans hx341_3; replace p341 := eq_true p341; replace q341 := eq_true q341; have p342 : 0 ≤ (a1 : Int) := of_decide_eq_true as_; have q342 : a1 < (l0_1.length : Int) := of_decide_eq_true as_; obtain ⟨ad342, e342, hx342_0, hx342_1, hx342_2, hx342_3⟩ := at_T52 HR0_1.out a1 p342 q342; obtain rfl : ad341 = ad342 := (by injection e342); replace hx342_0 := (HB.out.cell (World.block_lt_of_cell? w _ hx342_0)).trans hx342_0; replace hx342_1 := (HB.out.cell (World.block_lt_of_cell? w _ hx342_1)).trans hx342_1; replace hx342_2 := (HB.out.cell (World.block_lt_of_cell? w _ hx342_2)).trans hx342_2; replace hx342_3 := (HB.out.cell (World.block_lt_of_cell? w _ hx342_3)).trans hx342_3; replace p342 := eq_true p342; replace q342 := eq_true q342; have p343 : 0 ≤ (a1 : Int) := of_decide_eq_true as_; have q343 : a1 < (l0_1.length : Int) := of_decide_eq_true as_; obtain ⟨ad343, e343, hx343_0, hx343_1, hx343_2, hx343_3⟩ := at_T52 HR0_1.out a1 p343 q343; obtain rfl : ad341 = ad343 := (by injection e343); replace hx343_0 := (HB.out.cell (World.block_lt_of_cell? w _ hx343_0)).trans hx343_0; replace hx343_1 := (HB.out.cell (World.block_lt_of_cell? w _ hx343_1)).trans hx343_1; replace hx343_2 := (HB.out.cell (World.block_lt_of_cell? w _ hx343_2)).trans hx343_2; replace hx343_3 := (HB.out.cell (World.block_lt_of_cell? w _ hx343_3)).trans hx343_3; replace p343 := eq_true p343; replace q343 := eq_true q343))
       go_ret
       exact ⟨by first | rfl | (simp [errW_none, errW_some] <;> rfl) | (simp [*, errW_none, errW_some] <;> rfl), bs_ HB.out GE340.out⟩
    ·rw [if_neg c9] at H
     exact absurd H (by simp)
   ·rw [if_neg c8] at H
    exact absurd H (by simp)
end Go.Proofs.Ytoanmoddppmffaa.T
