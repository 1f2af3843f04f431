/- What each function of the program comes to, and its walk: laid by a program. -/
import Derived.Test.YtoanmoddppmffaaCTx0
import Derived.Test.YtoanmoddppmffaaCTx1
import Derived.Test.YtoanmoddppmffaaCTx2
import Derived.Test.YtoanmoddppmffaaCTx3
import Derived.Test.YtoanmoddppmffaaCTx4
import Derived.Test.YtoanmoddppmffaaCTx5
import Derived.Test.YtoanmoddppmffaaCTx6
import Derived.Test.YtoanmoddppmffaaCTx7
import Derived.Test.YtoanmoddppmffaaCTx8
import Derived.Test.YtoanmoddppmffaaCTx9
import Derived.Test.YtoanmoddppmffaaCTx10
import Derived.Test.YtoanmoddppmffaaCTx11
import Derived.Test.YtoanmoddppmffaaCTx12
import Derived.Test.YtoanmoddppmffaaCTx13
import Derived.Test.YtoanmoddppmffaaCTx14
import Derived.Test.YtoanmoddppmffaaCTx15
import Derived.Test.YtoanmoddppmffaaCTx16
import Derived.Test.YtoanmoddppmffaaCTx17
import Derived.Test.YtoanmoddppmffaaCTx18
import Derived.Test.YtoanmoddppmffaaCTx20
import Derived.Test.YtoanmoddppmffaaCTx21
namespace Go.Proofs.Ytoanmoddppmffaa.T
open Go.RowKit Go.Proofs.YtoanmoddppmffaaW.PrintWords Go.Proofs.YtoanmoddppmffaaW.PrintLast Go.Proofs.YtoanmoddppmffaaW.PrintMore
set_option linter.unusedVariables false
set_option linter.unusedSimpArgs false
mutual
def topiarylaw15_TreeCounts.l0 : Nat → Bool → Int → Int → List ByteArray → List (S52) → Option (Bool)
 | 0, _, _, _, _, _ => none
 | k + 1, x3, x6, x7, x367000, x367001 => if x7 < (x367001.length : Int) then ((tree_Children.f x367000 x367001 x7).bind fun t368 => (topiarylaw15_TreeCounts.l1 k x3 (wrap64 (x6 + (t368.length : Int))) x7 t368 (wrap64 (x7 + 1)) 0 x367000 x367001)) else (if x3 = true then (if x6 = (wrap64 ((x367001.length : Int) - 1)) then ((tree_End.f k x367000 x367001 0).bind fun t367 => (some (t367 == (x367001.length : Int)))) else (some false)) else (some false))
def topiarylaw15_TreeCounts.l1 : Nat → Bool → Int → Int → List Int → Int → Int → List ByteArray → List (S52) → Option (Bool)
 | 0, _, _, _, _, _, _, _, _ => none
 | k + 1, x3, x6, x7, x8, x9, x10, x367000, x367001 => if x10 < (x8.length : Int) then (if 0 ≤ x10 then ((tree_Parent.f k x367000 x367001 (rd x8 x10)).bind fun t372 => (if t372 = x7 then (if (rd x8 x10) = x9 then ((tree_Depth.f x367000 x367001 (rd x8 x10)).bind fun t375 => ((tree_Depth.f x367000 x367001 x7).bind fun t376 => (if t375 = (wrap64 (t376 + 1)) then ((tree_End.f k x367000 x367001 (rd x8 x10)).bind fun t378 => (topiarylaw15_TreeCounts.l1 k x3 x6 x7 x8 t378 (wrap64 (x10 + 1)) x367000 x367001)) else (some false)))) else (some false)) else (some false))) else (none)) else ((tree_End.f k x367000 x367001 x7).bind fun t379 => (if t379 = x9 then ((tree_Leaf.f x367000 x367001 x7).bind fun t380 => (if (t380 != ((x8.length : Int) == 0)) = true then (some false) else (topiarylaw15_TreeCounts.l0 k x3 x6 (wrap64 (x7 + 1)) x367000 x367001))) else (some false)))
end
def topiarylaw15_TreeCounts.f (k : Nat) (a0 : ByteArray) : Option (Bool) := (topiarylaw15_awake.f k).bind fun t357 => ((topiarylaw15_short.f a0 200).bind fun t358 => ((topiaryref13_Parse.f k t358).bind fun bt359 => (if bt359.2.2 = 0 then (topiarylaw15_TreeCounts.l0 k t357 0 0 bt359.1 bt359.2.1) else (some t357))))
def topiarylaw15_TreeCounts.T15 : Bool × List (List Nat × List Nat) := (true, [([], []), ([], []), ([], []), ([1, 2], [1, 2]), ([3], [3]), ([0, 4], [0, 4]), ([], []), ([5, 6], [5, 6]), ([7, 5], [7]), ([8], [8]), ([8], [8]), ([9, 10, 8], [8, 9, 10]), ([11, 8], [8, 11]), ([8], [8]), ([12, 13, 8], [8, 12, 13]), ([8, 14], [8, 14]), ([15, 8], [15]), ([16], [16]), ([16], [16]), ([16], [16]), ([18, 19, 16], [16, 18, 19]), ([20, 16], [16, 20]), ([17, 21, 16, 16], [16, 17, 21]), ([16], [16]), ([16], [16]), ([23, 24, 22, 16], [16, 23, 24]), ([25, 16], [16, 25]), ([22, 26, 16], [16, 22, 26]), ([16, 27], [16, 27])])
def topiarylaw15_TreeCounts.B15 : List Nat := [0, 0, 0, 6, 14, 31, 0, 127, 255, 511, 511, 2047, 4095, 511, 16383, 32767, 65535, 131071, 131071, 131071, 917503, 1966079, 4194303, 131071, 131071, 33554431, 67108863, 134217727, 268435455]
theorem topiarylaw15_TreeCounts.tab15 : rtab .any (opsOf Try.f5 15) = topiarylaw15_TreeCounts.T15 := by kernel_rfl
theorem topiarylaw15_TreeCounts.bits15 : waitsOk topiarylaw15_TreeCounts.T15.2 topiarylaw15_TreeCounts.B15 = true := by kernel_rfl
def topiarylaw15_TreeCounts.T20 : Bool × List (List Nat × List Nat) := (true, [([], []), ([0], [0]), ([1], [1]), ([1], [1]), ([3, 1], [1, 3]), ([4, 1], [1, 4]), ([5, 1], [1, 5]), ([2, 6, 1], [1, 2, 6]), ([1, 7], [1, 7]), ([8, 1], [8]), ([9], [9]), ([10, 9, 9], [9, 10]), ([9], [9]), ([12, 9], [9, 12]), ([13, 9], [9, 13]), ([11, 14, 9], [9, 11, 14]), ([9, 15], [9, 15]), ([16, 11, 0, 1, 2, 3, 4, 5, 6, 7, 8, 9, 10, 11, 12, 13, 14, 15, 16], [16])])
def topiarylaw15_TreeCounts.B20 : List Nat := [0, 1, 3, 3, 11, 27, 59, 127, 255, 511, 1023, 2047, 1023, 5119, 13311, 32767, 65535, 131071]
theorem topiarylaw15_TreeCounts.tab20 : rtab .any (opsOf Try.f5 20) = topiarylaw15_TreeCounts.T20 := by kernel_rfl
theorem topiarylaw15_TreeCounts.bits20 : waitsOk topiarylaw15_TreeCounts.T20.2 topiarylaw15_TreeCounts.B20 = true := by kernel_rfl
set_option maxHeartbeats 8000000 in
set_option maxRecDepth 100000 in
theorem topiarylaw15_TreeCounts.calls (k : Nat) (a0 : ByteArray) (r : Bool) (w : World) (h : topiarylaw15_TreeCounts.f k a0 = some r) (hrt : r = true) :
  Calls Try.prog 5 #[.string a0] w fun e w' => e = .returned (.bool r) ∧ Below w.heap.size w w' := by
 have HRT := Aside0.mk hrt
 clear hrt
 have hu25 := Try.underlying25
 have HB := Aside0.mk (Below.refl w.heap.size w)
 have H : ((topiarylaw15_awake.f k).bind fun t357 => ((topiarylaw15_short.f a0 200).bind fun t358 => ((topiaryref13_Parse.f k t358).bind fun bt359 => (if bt359.2.2 = 0 then (topiarylaw15_TreeCounts.l0 k t357 0 0 bt359.1 bt359.2.1) else (some t357))))) = some r := h
 clear h
 replace H := Option.bind_eq_some_iff.mp H
 obtain ⟨t357, A20, H⟩ := H
 replace H : ((topiarylaw15_short.f a0 200).bind fun t358 => ((topiaryref13_Parse.f k t358).bind fun bt359 => (if bt359.2.2 = 0 then (topiarylaw15_TreeCounts.l0 k t357 0 0 bt359.1 bt359.2.1) else (some t357)))) = some r := H
 have A2 := Aside0.mk A20
 clear A20
 replace H := Option.bind_eq_some_iff.mp H
 obtain ⟨t358, A30, H⟩ := H
 replace H : ((topiaryref13_Parse.f k t358).bind fun bt359 => (if bt359.2.2 = 0 then (topiarylaw15_TreeCounts.l0 k t357 0 0 bt359.1 bt359.2.1) else (some t357))) = some r := H
 have A3 := Aside0.mk A30
 clear A30
 replace H := Option.bind_eq_some_iff.mp H
 obtain ⟨⟨t359, t362, t365⟩, A40, H⟩ := H
 replace H : (if t365 = 0 then (topiarylaw15_TreeCounts.l0 k t357 0 0 t359 t362) else (some t357)) = some r := H
 have A4 := Aside0.mk A40
 clear A40
 by_cases c5 : t365 = 0
 ·rw [if_pos c5] at H
  have c5b0 : (t365 == 0) = true := beq_iff_eq.mpr c5
  have c5b1 : (t365 != 0) = false := bne_eq_false_iff_eq.mpr c5
  clear c5
  have H' := Aside0.mk H
  clear H
  go_enter Try.func5, Try.ntmps5
  go_wp2_with (first | ((with_reducible refine gate_callee (f := 9) rfl ?_); refine goesL_ (some 11) rfl rfl Try.func9 (by kernel_rfl) rfl #[] rfl ar_ ?_; (with_reducible refine (topiarylaw15_awake.calls k  t357 _ A2.out).mono ?_); rintro e w6 ⟨rfl, hb⟩; refine ⟨_, rfl, ?_⟩; have n0_ := Aside0.mk (below_step (bb_ HB.out) hb); clear HB; have HB := n0_; clear n0_; (try clear hb); (try clear hb2); (try clear hk); (try clear hi)) | ((with_reducible refine gate_callee (f := 29) rfl ?_); refine goesL_ (some 14) rfl rfl Try.func29 (by kernel_rfl) rfl #[.string a0, .int .i64 200] rfl ar_ ?_; (with_reducible refine (topiarylaw15_short.calls a0 200 t358 _ A3.out).mono ?_); rintro e w' ⟨rfl, ⟨nd, rfl⟩⟩; refine ⟨_, rfl, ?_⟩; (try (rw [drewN_self w6]; generalize hq_ : World.drewN w6 _ = w6; have n0_ : Aside0 (Below w.heap.size w w6) := ⟨by rw [← hq_]; exact (bb_ HB.out)⟩; clear HB hq_; have HB := n0_; clear n0_))) | ((with_reducible refine gate_callee (f := 28) rfl ?_); refine goesL_ (some 15) rfl rfl Try.func28 (by kernel_rfl) rfl #[.string t358] rfl ar_ ?_; (with_reducible refine (topiaryref13_Parse.calls k t358 t359 t362 t365 _ A4.out).mono ?_); rintro e w7 ⟨v360, v363, rfl, ho0, ho1, hb⟩; refine ⟨_, rfl, ?_⟩; have n0_ := Aside0.mk (Kd.R_lower ho0 (below_size (bb_ HB.out))); have n1_ := Aside0.mk (Kd.R_lower ho1 (below_size (bb_ HB.out))); have n2_ := Aside0.mk (below_step (bb_ HB.out) hb); clear HB; have HO361 := n0_; have HO364 := n1_; have HB := n2_; clear n0_ n1_ n2_; (try clear hb); (try clear hb2); (try clear hk); (try clear hi); (try clear ho0); (try clear ho1)) | ((with_reducible refine gate_dst (N := 4) rfl ?_); (try (refine gate_guard (by rfl) ?_; dsimp only)); refine box_event ?hg (N := 4) ?hd (cs := #[.slice none 0 0, .slice none 0 0]) (t := 25) ?hr ?_; (case hd => rfl); (case hg => rfl); (case hr => first | (go_simp; done) | (go_simp; rfl)); intro gb366 hg w8 hbox hb; have n0_ := Aside0.mk (Kd.R_below (rr_ HO361.out) hb); have n1_ := Aside0.mk (Kd.R_below (rr_ HO364.out) hb); have n2_ := Aside0.mk (below_step (bb_ HB.out) hb); have n3_ := Aside0.mk (hbox); have n4_ := Aside0.mk ((by rw [hg]; exact (below_size (bb_ HB.out)) : w.heap.size ≤ gb366)); have n5_ := Aside0.mk ((by rw [hg]; exact (below_size (bb_ HB.out)) : w.heap.size ≤ gb366)); clear HO361; clear HO364; clear HB; have HO361 := n0_; have HO364 := n1_; have HB := n2_; have BK366 := n3_; have GW366 := n4_; have GE366 := n5_; clear n0_ n1_ n2_ n3_ n4_ n5_; clear hb hbox hg; obtain ⟨Ao9, co9, eo9⟩ := Kd.R_slice HO361.out; subst eo9; have hcz10_0 : w8.cell? ⟨gb366, 0, none⟩ = some (.slice none 0 0) := (blk_cell BK366.out 0).trans rfl; have hcz10_1 : w8.cell? ⟨gb366, 1, none⟩ = some (.slice none 0 0) := (blk_cell BK366.out 1).trans rfl; have hfz10_0 := blk_frozen BK366.out 0; have hfz10_1 := blk_frozen BK366.out 1; obtain ⟨Ao11, co11, eo11⟩ := Kd.R_slice HO364.out; subst eo11))
  go_loopg [6, 7] k (fun kq v6 v7 w' => ∃ (x6_1 : Int) (x7_1 : Int), v6 = .int .i64 x6_1 ∧ v7 = .int .i64 x7_1 ∧ Aside0 (topiarylaw15_TreeCounts.l0 kq t357 x6_1 x7_1 t359 t362 = some r) ∧ Aside0 (kq ≤ k) ∧ Aside0 (Kd.R Kd.string 9 w' w.heap.size (fun _ => True) (.slice Ao9 t359.length co9) t359) ∧ Aside0 (Kd.R k52 52 w' w.heap.size (fun _ => True) (.slice Ao11 t362.length co11) t362) ∧ Aside0 (w'.heap[gb366]? = some (.cells #[(.slice Ao9 t359.length co9), (.slice Ao11 t362.length co11)] 25 (0, 0))) ∧ Aside0 (Below w.heap.size w w'))
  case atStart => exact ⟨(0), (0), sm_, sm_, H', ⟨Nat.le_refl _⟩, ⟨by (with_reducible repeat (first | apply Kd.R_alloc | apply Kd.R_drewN | apply Kd.R_drew)); exact Kd.R_mono (Kd.R_far (p := ⟨gb366, 1, none⟩) (Kd.R_far (p := ⟨gb366, 0, none⟩) (Kd.R_types HO361.out BK366.out (by decide)) (fun _ hk => hk.2) (.slice Ao9 t359.length co9)) (fun _ hk => hk.2) (.slice Ao11 t362.length co11)) (fun _ hk => trivial)⟩, ⟨by (with_reducible repeat (first | apply Kd.R_alloc | apply Kd.R_drewN | apply Kd.R_drew)); exact Kd.R_mono (Kd.R_far (p := ⟨gb366, 1, none⟩) (Kd.R_far (p := ⟨gb366, 0, none⟩) (Kd.R_types HO364.out BK366.out (by decide)) (fun _ hk => hk.2) (.slice Ao9 t359.length co9)) (fun _ hk => hk.2) (.slice Ao11 t362.length co11)) (fun _ hk => trivial)⟩, ⟨by (with_reducible repeat (first | refine blk_drewN ?_ _ | refine blk_drew ?_ | refine blk_alloc ?_ _)); refine blk_put (cs := #[.slice Ao9 t359.length co9, .slice none 0 0]) ?_ 1 _ rfl; (with_reducible repeat (first | refine blk_drewN ?_ _ | refine blk_drew ?_ | refine blk_alloc ?_ _)); refine blk_put (cs := #[.slice none 0 0, .slice none 0 0]) ?_ 0 _ rfl; exact bk_ BK366.out⟩, ⟨by repeat (first | (with_reducible first | exact HB.out | apply below_alloc | apply pw_below_drewN | apply below_drew1 | refine below_set ?_ GE366.out) | exact HB.out)⟩⟩
  case round =>
   clear H'
   try clear c2
   try clear p2
   try clear c5
   try clear c5b0
   try clear c5b1
   try clear c9
   try clear hcz10_0
   try clear hcz10_1
   try clear hfz10_0
   try clear hfz10_1
   obtain ⟨x6_1, x7_1, rfl, rfl, HA, HK1, HO_367000, HO_367001, BK366, HB⟩ := hrel
   cases gk with
   | zero => exact absurd HA.out (by simp [topiarylaw15_TreeCounts.l0])
   | succ k1 =>
    have H := HA.out
    clear HA
    simp only [topiarylaw15_TreeCounts.l0] at H
    by_cases c12 : x7_1 < (t362.length : Int)
    ·rw [if_pos c12] at H
     have c12b0 : decide (x7_1 < (t362.length : Int)) = true := decide_eq_true c12
     clear c12
     replace H := Option.bind_eq_some_iff.mp H
     obtain ⟨t368, A130, H⟩ := H
     replace H : (topiarylaw15_TreeCounts.l1 k1 t357 (wrap64 (x6_1 + (t368.length : Int))) x7_1 t368 (wrap64 (x7_1 + 1)) 0 t359 t362) = some r := H
     have A13 := Aside0.mk A130
     clear A130
     have H' := Aside0.mk H
     clear H
     have hcz14_0 : wr.cell? ⟨gb366, 0, none⟩ = some (.slice Ao9 t359.length co9) := (blk_cell BK366.out 0).trans rfl
     have hcz14_1 : wr.cell? ⟨gb366, 1, none⟩ = some (.slice Ao11 t362.length co11) := (blk_cell BK366.out 1).trans rfl
     have hfz14_0 := blk_frozen BK366.out 0
     have hfz14_1 := blk_frozen BK366.out 1
     go_wp2_with (first | ((with_reducible refine gate_callee (f := 14) rfl ?_); refine goesL_ (some 30) rfl rfl Try.func14 (by kernel_rfl) rfl #[.agg #[.slice Ao9 t359.length co9, .slice Ao11 t362.length co11], .int .i64 x7_1] rfl ar_ ?_; (with_reducible refine (tree_Children.calls _ _ t359 _ _ t362 x7_1 t368 _ ?side1 ?side2 ?side3 ?side4 A13.out).mono ?_); (case side1 => repeat (first | exact (Kd.R_reads' HO_367000.out).2.2 | (with_reducible refine Kd.C_alloc ?_ _) | (with_reducible refine Kd.C_drewN ?_ _) | (with_reducible refine Kd.C_drew ?_))); (case side2 => exact (Kd.R_reads' HO_367000.out).2.1); (case side3 => repeat (first | exact (Kd.R_reads' HO_367001.out).2.2 | (with_reducible refine Kd.C_alloc ?_ _) | (with_reducible refine Kd.C_drewN ?_ _) | (with_reducible refine Kd.C_drew ?_))); (case side4 => exact (Kd.R_reads' HO_367001.out).2.1); rintro e w15 ⟨v369, rfl, ho0, hb⟩; refine ⟨_, rfl, ?_⟩; have n0_ := Aside0.mk (Kd.R_below (rr_ HO_367000.out) hb); have n1_ := Aside0.mk (Kd.R_below (rr_ HO_367001.out) hb); have n2_ := Aside0.mk (Kd.R_lower ho0 (below_size (bs_ HB.out GE366.out))); have n3_ := Aside0.mk (blk_below (g := gb366) (o := .cells #[.slice Ao9 t359.length co9, .slice Ao11 t362.length co11] 25 (0, 0)) (bk_ BK366.out) hb); have n4_ := Aside0.mk (below_step (bs_ HB.out GE366.out) hb); clear HO_367000; clear HO_367001; clear BK366; clear HB; have HO_367000 := n0_; have HO_367001 := n1_; have HO370 := n2_; have BK366 := n3_; have HB := n4_; clear n0_ n1_ n2_ n3_ n4_; (try clear hb); (try clear hb2); (try clear hk); (try clear hi); (try clear ho0); obtain ⟨Ao16, co16, eo16⟩ := Kd.R_slice HO370.out; subst eo16))
     go_loopg [9, 10] k1 (fun kq v9 v10 w' => ∃ (x9_2 : Int) (x10_2 : Int), v9 = .int .i64 x9_2 ∧ v10 = .int .i64 x10_2 ∧ Aside0 (topiarylaw15_TreeCounts.l1 kq t357 (wrap64 (x6_1 + (t368.length : Int))) x7_1 t368 x9_2 x10_2 t359 t362 = some r) ∧ Aside0 (kq ≤ k1) ∧ Aside0 (Kd.R (Kd.int .i64) 3 w' w.heap.size (fun _ => True) (.slice Ao16 t368.length co16) t368) ∧ Aside0 (Kd.R Kd.string 9 w' w.heap.size (fun _ => True) (.slice Ao9 t359.length co9) t359) ∧ Aside0 (Kd.R k52 52 w' w.heap.size (fun _ => True) (.slice Ao11 t362.length co11) t362) ∧ Aside0 (w'.heap[gb366]? = some (.cells #[(.slice Ao9 t359.length co9), (.slice Ao11 t362.length co11)] 25 (0, 0))) ∧ Aside0 (Below w.heap.size w w'))
     case atStart => exact ⟨(wrap64 (x7_1 + 1)), (0), sm_, sm_, H', ⟨Nat.le_refl _⟩, ⟨by exact rr_ HO370.out⟩, ⟨by exact rr_ HO_367000.out⟩, ⟨by exact rr_ HO_367001.out⟩, ⟨by exact bk_ BK366.out⟩, ⟨by repeat (first | (with_reducible first | exact HB.out | apply below_alloc | apply pw_below_drewN | apply below_drew1 | refine below_set ?_ GE366.out) | exact HB.out)⟩⟩
     case round =>
      clear H'
      try clear c1
      try clear c2
      try clear p2
      try clear c5
      try clear c5b0
      try clear c5b1
      try clear p6
      try clear c9
      try clear c12
      try clear c12b0
      try clear c14
      try clear hcz10_0
      try clear hcz10_1
      try clear hcz14_0
      try clear hcz14_1
      try clear hfz10_0
      try clear hfz10_1
      try clear hfz14_0
      try clear hfz14_1
      try clear p2
      obtain ⟨x9_2, x10_2, rfl, rfl, HA, HK2, HO_8, HO_367000, HO_367001, BK366, HB⟩ := hrel
      cases gk with
      | zero => exact absurd HA.out (by simp [topiarylaw15_TreeCounts.l1])
      | succ k2 =>
       have H := HA.out
       clear HA
       simp only [topiarylaw15_TreeCounts.l1] at H
       by_cases c17 : x10_2 < (t368.length : Int)
       ·rw [if_pos c17] at H
        have c17b0 : decide (x10_2 < (t368.length : Int)) = true := decide_eq_true c17
        clear c17
        by_cases c18 : 0 ≤ x10_2
        ·rw [if_pos c18] at H
         have c18b0 : decide (0 ≤ x10_2) = true := decide_eq_true c18
         clear c18
         replace H := Option.bind_eq_some_iff.mp H
         obtain ⟨t372, A190, H⟩ := H
         replace H : (if t372 = x7_1 then (if (rd t368 x10_2) = x9_2 then ((tree_Depth.f t359 t362 (rd t368 x10_2)).bind fun t375 => ((tree_Depth.f t359 t362 x7_1).bind fun t376 => (if t375 = (wrap64 (t376 + 1)) then ((tree_End.f k2 t359 t362 (rd t368 x10_2)).bind fun t378 => (topiarylaw15_TreeCounts.l1 k2 t357 (wrap64 (x6_1 + (t368.length : Int))) x7_1 t368 t378 (wrap64 (x10_2 + 1)) t359 t362)) else (some false)))) else (some false)) else (some false)) = some r := H
         have A19 := Aside0.mk A190
         clear A190
         by_cases c20 : t372 = x7_1
         ·rw [if_pos c20] at H
          have c20b0 : (t372 == x7_1) = true := beq_iff_eq.mpr c20
          have c20b1 : (t372 != x7_1) = false := bne_eq_false_iff_eq.mpr c20
          clear c20
          by_cases c21 : (rd t368 x10_2) = x9_2
          ·rw [if_pos c21] at H
           have c21b0 : ((rd t368 x10_2) == x9_2) = true := beq_iff_eq.mpr c21
           have c21b1 : ((rd t368 x10_2) != x9_2) = false := bne_eq_false_iff_eq.mpr c21
           clear c21
           replace H := Option.bind_eq_some_iff.mp H
           obtain ⟨t375, A220, H⟩ := H
           replace H : ((tree_Depth.f t359 t362 x7_1).bind fun t376 => (if t375 = (wrap64 (t376 + 1)) then ((tree_End.f k2 t359 t362 (rd t368 x10_2)).bind fun t378 => (topiarylaw15_TreeCounts.l1 k2 t357 (wrap64 (x6_1 + (t368.length : Int))) x7_1 t368 t378 (wrap64 (x10_2 + 1)) t359 t362)) else (some false))) = some r := H
           have A22 := Aside0.mk A220
           clear A220
           replace H := Option.bind_eq_some_iff.mp H
           obtain ⟨t376, A230, H⟩ := H
           replace H : (if t375 = (wrap64 (t376 + 1)) then ((tree_End.f k2 t359 t362 (rd t368 x10_2)).bind fun t378 => (topiarylaw15_TreeCounts.l1 k2 t357 (wrap64 (x6_1 + (t368.length : Int))) x7_1 t368 t378 (wrap64 (x10_2 + 1)) t359 t362)) else (some false)) = some r := H
           have A23 := Aside0.mk A230
           clear A230
           by_cases c24 : t375 = (wrap64 (t376 + 1))
           ·rw [if_pos c24] at H
            have c24b0 : (t375 == (wrap64 (t376 + 1))) = true := beq_iff_eq.mpr c24
            have c24b1 : (t375 != (wrap64 (t376 + 1))) = false := bne_eq_false_iff_eq.mpr c24
            clear c24
            replace H := Option.bind_eq_some_iff.mp H
            obtain ⟨t378, A250, H⟩ := H
            replace H : (topiarylaw15_TreeCounts.l1 k2 t357 (wrap64 (x6_1 + (t368.length : Int))) x7_1 t368 t378 (wrap64 (x10_2 + 1)) t359 t362) = some r := H
            have A25 := Aside0.mk A250
            clear A250
            have H' := Aside0.mk H
            clear H
            try go_wp2
            have n0_ := Aside0.mk (Kd.R_drew HO_8.out)
            have n1_ := Aside0.mk (Kd.R_drew HO_367000.out)
            have n2_ := Aside0.mk (Kd.R_drew HO_367001.out)
            have n3_ := Aside0.mk (blk_drew BK366.out)
            have n4_ := Aside0.mk (below_drew1 HB.out)
            clear HO_8
            clear HO_367000
            clear HO_367001
            clear BK366
            clear HB
            have HO_8 := n0_
            have HO_367000 := n1_
            have HO_367001 := n2_
            have BK366 := n3_
            have HB := n4_
            clear n0_ n1_ n2_ n3_ n4_
            have p371 : 0 ≤ (x10_2 : Int) := of_decide_eq_true as_
            have q371 : x10_2 < (t368.length : Int) := of_decide_eq_true as_
            obtain ⟨ad371, e371, hx371_0⟩ := Kd.at_int (Kd.R_reads' HO_8.out).2.2 x10_2 p371 q371
            cases e371
            replace p371 := eq_true p371
            replace q371 := eq_true q371
            have p373 : 0 ≤ (x10_2 : Int) := of_decide_eq_true as_
            have q373 : x10_2 < (t368.length : Int) := of_decide_eq_true as_
            obtain ⟨ad373, e373, hx373_0⟩ := Kd.at_int (Kd.R_reads' HO_8.out).2.2 x10_2 p373 q373
            obtain rfl : ad371 = ad373 := (by injection e373)
            replace p373 := eq_true p373
            replace q373 := eq_true q373
            have p374 : 0 ≤ (x10_2 : Int) := of_decide_eq_true as_
            have q374 : x10_2 < (t368.length : Int) := of_decide_eq_true as_
            obtain ⟨ad374, e374, hx374_0⟩ := Kd.at_int (Kd.R_reads' HO_8.out).2.2 x10_2 p374 q374
            obtain rfl : ad371 = ad374 := (by injection e374)
            replace p374 := eq_true p374
            replace q374 := eq_true q374
            refine start_ (n := 29) (S := fun w' => w'.cell? ⟨gb366, 0, none⟩ = some (.slice Ao9 t359.length co9) ∧ w'.cell? ⟨gb366, 1, none⟩ = some (.slice Ao11 t362.length co11) ∧ w'.cell? (ad371.add (x10_2).toNat) = some (.int .i64 (rd t368 x10_2)) ∧ w'.cell? (ad371.add (x10_2).toNat) = some (.int .i64 (rd t368 x10_2)) ∧ w'.cell? (ad371.add (x10_2).toNat) = some (.int .i64 (rd t368 x10_2))) (ds := []) #[false, false, false, false, false, false, false, false, false, false, false, false, false, false, false, false, false, false, false, false, false, false, false, false, false, false, false, false, false] (by kernel_rfl) rfl rfl ⟨(blk_cell BK366.out 0).trans rfl, (blk_cell BK366.out 1).trans rfl, hx371_0, hx373_0, hx374_0⟩ (fun hHeld => ?_); refine with_tabW topiarylaw15_TreeCounts.tab15 topiarylaw15_TreeCounts.bits15 (fun HT_ HW_ => ?_)
            generalize wr.drew = w26 at HO_8 HO_367000 HO_367001 BK366 HB hx371_0 hx373_0 hx374_0 hHeld ⊢
            refine pure_ (i := 1) (N := some 44) (v := ?_) (a' := ?_) #[false, true, false, false, false, false, false, false, false, false, false, false, false, false, false, false, false, false, false, false, false, false, false, false, false, false, false, false, false] rfl rfl (any_of HT_.out (by kernel_rfl)) (fun _ _ _ h => h) (Or.inl ⟨by rfl, ?_⟩) ?_ ?_
            rotate_left
            ·intro w'
             go_simp
             with_reducible rfl
            rotate_left
            ·simp only [Act.put, List.setIfInBounds_toArray, List.set_cons_zero, List.set_cons_succ, i64_w, i32_w]
             rfl
            refine pure_ (i := 2) (N := some 45) (v := ?_) (a' := ?_) #[false, true, true, false, false, false, false, false, false, false, false, false, false, false, false, false, false, false, false, false, false, false, false, false, false, false, false, false, false] rfl rfl (any_of HT_.out (by kernel_rfl)) (fun _ _ _ h => h) (Or.inl ⟨by rfl, ?_⟩) ?_ ?_
            rotate_left
            ·intro w'
             go_simp
             with_reducible rfl
            rotate_left
            ·simp only [Act.put, List.setIfInBounds_toArray, List.set_cons_zero, List.set_cons_succ, i64_w, i32_w]
             rfl
            refine pure_ (i := 3) (N := some 46) (v := ?_) (a' := ?_) #[false, true, true, true, false, false, false, false, false, false, false, false, false, false, false, false, false, false, false, false, false, false, false, false, false, false, false, false, false] rfl rfl (any_of HT_.out (by kernel_rfl)) (fun _ _ _ h => h) (Or.inl ⟨by rfl, ?_⟩) ?_ ?_
            rotate_left
            ·intro w'
             go_simp
             with_reducible rfl
            rotate_left
            ·simp only [Act.put, List.setIfInBounds_toArray, List.set_cons_zero, List.set_cons_succ, i64_w, i32_w]
             rfl
            refine pure_ (i := 6) (N := some 49) (v := ?_) (a' := ?_) #[false, true, true, true, false, false, true, false, false, false, false, false, false, false, false, false, false, false, false, false, false, false, false, false, false, false, false, false, false] rfl rfl (any_of HT_.out (by kernel_rfl)) (fun _ _ _ h => h) (Or.inl ⟨by rfl, ?_⟩) ?_ ?_
            rotate_left
            ·intro w'
             go_simp
             with_reducible rfl
            rotate_left
            ·simp only [Act.put, List.setIfInBounds_toArray, List.set_cons_zero, List.set_cons_succ, i64_w, i32_w]
             rfl
            refine take_ (i := 0) (N := some 43) (v := ?_) (a' := ?_) #[true, true, true, true, false, false, true, false, false, false, false, false, false, false, false, false, false, false, false, false, false, false, false, false, false, false, false, false, false] rfl rfl (take_ofW HT_.out HW_.out (by kernel_rfl)) (fun _ _ _ h => h) (Or.inl ⟨by rfl, ?_⟩) hHeld ?_ ?_
            rotate_left
            ·rintro w' ⟨s0, s1, s2, s3, s4⟩
             go_simp
             with_reducible rfl
            rotate_left
            ·simp only [Act.put, List.setIfInBounds_toArray, List.set_cons_zero, List.set_cons_succ, i64_w, i32_w]
             rfl
            refine take_ (i := 4) (N := some 47) (v := ?_) (a' := ?_) #[true, true, true, true, true, false, true, false, false, false, false, false, false, false, false, false, false, false, false, false, false, false, false, false, false, false, false, false, false] rfl rfl (take_ofW HT_.out HW_.out (by kernel_rfl)) (fun _ _ _ h => h) (Or.inl ⟨by rfl, ?_⟩) hHeld ?_ ?_
            rotate_left
            ·rintro w' ⟨s0, s1, s2, s3, s4⟩
             go_simp
             with_reducible rfl
            rotate_left
            ·simp only [Act.put, List.setIfInBounds_toArray, List.set_cons_zero, List.set_cons_succ, i64_w, i32_w]
             rfl
            refine one_ (i := 5) (N := some 48) #[true, true, true, true, true, true, true, false, false, false, false, false, false, false, false, false, false, false, false, false, false, false, false, false, false, false, false, false, false] rfl rfl (one_of HT_.out (by kernel_rfl)) (by decide) (fun K hK => ?_)
            refine goes_ Try.func17 (by kernel_rfl) rfl #[.agg #[.slice Ao9 t359.length co9, .slice Ao11 t362.length co11], .int .i64 (rd t368 x10_2)] (by rfl) rfl rfl ar_ ?_
            with_reducible refine (tree_Parent.calls k2 _ _ t359 _ _ t362 (rd t368 x10_2) t372 _ ?side1 ?side2 ?side3 ?side4 A19.out).mono ?_
            (case side1 => repeat (first | exact (Kd.R_reads' HO_367000.out).2.2 | (with_reducible refine Kd.C_alloc ?_ _) | (with_reducible refine Kd.C_drewN ?_ _) | (with_reducible refine Kd.C_drew ?_)))
            (case side2 => exact (Kd.R_reads' HO_367000.out).2.1)
            (case side3 => repeat (first | exact (Kd.R_reads' HO_367001.out).2.2 | (with_reducible refine Kd.C_alloc ?_ _) | (with_reducible refine Kd.C_drewN ?_ _) | (with_reducible refine Kd.C_drew ?_)))
            (case side4 => exact (Kd.R_reads' HO_367001.out).2.1)
            rintro e w27 ⟨rfl, hb⟩
            have HS2_ := (hb.cell (World.block_lt_of_cell? _ _ (hHeld.2.2.1))).trans (hHeld.2.2.1)
            have HS3_ := (hb.cell (World.block_lt_of_cell? _ _ (hHeld.2.2.2.1))).trans (hHeld.2.2.2.1)
            have HS4_ := (hb.cell (World.block_lt_of_cell? _ _ (hHeld.2.2.2.2))).trans (hHeld.2.2.2.2)
            refine ⟨_, rfl, ?_⟩
            have n0_ := Aside0.mk (Kd.R_below (rr_ HO_8.out) hb)
            have n1_ := Aside0.mk (Kd.R_below (rr_ HO_367000.out) hb)
            have n2_ := Aside0.mk (Kd.R_below (rr_ HO_367001.out) hb)
            have n3_ := Aside0.mk (blk_below (g := gb366) (o := .cells #[.slice Ao9 t359.length co9, .slice Ao11 t362.length co11] 25 (0, 0)) (bk_ BK366.out) hb)
            have n4_ := Aside0.mk (below_step (bs_ HB.out GE366.out) hb)
            clear HO_8
            clear HO_367000
            clear HO_367001
            clear BK366
            clear HB
            have HO_8 := n0_
            have HO_367000 := n1_
            have HO_367001 := n2_
            have BK366 := n3_
            have HB := n4_
            clear n0_ n1_ n2_ n3_ n4_
            (try clear hb)
            (try clear hb2)
            (try clear hk)
            (try clear hi)
            refine hK.out _ _ ⟨(blk_cell BK366.out 0).trans rfl, (blk_cell BK366.out 1).trans rfl, HS2_, HS3_, HS4_⟩ (fun hHeld => ?_)
            clear hK K
            refine norm_ (a' := ?_) ?_ ?_
            rotate_left
            ·show Act.put _ (some 48) _ = _
             simp only [Act.put, List.setIfInBounds_toArray, List.set_cons_zero, List.set_cons_succ, i64_w, i32_w]
             rfl
            refine pure_ (i := 7) (N := some 50) (v := ?_) (a' := ?_) #[true, true, true, true, true, true, true, true, false, false, false, false, false, false, false, false, false, false, false, false, false, false, false, false, false, false, false, false, false] rfl rfl (any_of HT_.out (by kernel_rfl)) (fun _ _ _ h => h) (Or.inl ⟨by rfl, ?_⟩) ?_ ?_
            rotate_left
            ·intro w'
             go_simp
             with_reducible rfl
            rotate_left
            ·simp only [Act.put, List.setIfInBounds_toArray, List.set_cons_zero, List.set_cons_succ, i64_w, i32_w]
             rfl
            refine pure_ (i := 8) (N := some 51) (v := ?_) (a' := ?_) #[true, true, true, true, true, true, true, true, true, false, false, false, false, false, false, false, false, false, false, false, false, false, false, false, false, false, false, false, false] rfl rfl (any_of HT_.out (by kernel_rfl)) (fun _ _ _ h => h) (Or.inl ⟨by rfl, ?_⟩) ?_ ?_
            rotate_left
            ·intro w'
             go_simp
             with_reducible rfl
            rotate_left
            ·simp only [Act.put, List.setIfInBounds_toArray, List.set_cons_zero, List.set_cons_succ, i64_w, i32_w]
             rfl
            refine pure_ (i := 9) (N := some 52) (v := ?_) (a' := ?_) #[true, true, true, true, true, true, true, true, true, true, false, false, false, false, false, false, false, false, false, false, false, false, false, false, false, false, false, false, false] rfl rfl (any_of HT_.out (by kernel_rfl)) (fun _ _ _ h => h) (Or.inl ⟨by rfl, ?_⟩) ?_ ?_
            rotate_left
            ·intro w'
             go_simp
             with_reducible rfl
            rotate_left
            ·simp only [Act.put, List.setIfInBounds_toArray, List.set_cons_zero, List.set_cons_succ, i64_w, i32_w]
             rfl
            refine pure_ (i := 10) (N := some 53) (v := ?_) (a' := ?_) #[true, true, true, true, true, true, true, true, true, true, true, false, false, false, false, false, false, false, false, false, false, false, false, false, false, false, false, false, false] rfl rfl (any_of HT_.out (by kernel_rfl)) (fun _ _ _ h => h) (Or.inl ⟨by rfl, ?_⟩) ?_ ?_
            rotate_left
            ·intro w'
             go_simp
             with_reducible rfl
            rotate_left
            ·simp only [Act.put, List.setIfInBounds_toArray, List.set_cons_zero, List.set_cons_succ, i64_w, i32_w]
             rfl
            refine pure_ (i := 11) (N := some 54) (v := ?_) (a' := ?_) #[true, true, true, true, true, true, true, true, true, true, true, true, false, false, false, false, false, false, false, false, false, false, false, false, false, false, false, false, false] rfl rfl (any_of HT_.out (by kernel_rfl)) (fun _ _ _ h => h) (Or.inl ⟨by rfl, ?_⟩) ?_ ?_
            rotate_left
            ·intro w'
             go_simp
             with_reducible rfl
            rotate_left
            ·simp only [Act.put, List.setIfInBounds_toArray, List.set_cons_zero, List.set_cons_succ, i64_w, i32_w]
             rfl
            refine pure_ (i := 13) (N := some 56) (v := ?_) (a' := ?_) #[true, true, true, true, true, true, true, true, true, true, true, true, false, true, false, false, false, false, false, false, false, false, false, false, false, false, false, false, false] rfl rfl (any_of HT_.out (by kernel_rfl)) (fun _ _ _ h => h) (Or.inl ⟨by rfl, ?_⟩) ?_ ?_
            rotate_left
            ·intro w'
             go_simp
             with_reducible rfl
            rotate_left
            ·simp only [Act.put, List.setIfInBounds_toArray, List.set_cons_zero, List.set_cons_succ, i64_w, i32_w]
             rfl
            refine take_ (i := 12) (N := some 55) (v := ?_) (a' := ?_) #[true, true, true, true, true, true, true, true, true, true, true, true, true, true, false, false, false, false, false, false, false, false, false, false, false, false, false, false, false] rfl rfl (take_ofW HT_.out HW_.out (by kernel_rfl)) (fun _ _ _ h => h) (Or.inl ⟨by rfl, ?_⟩) hHeld ?_ ?_
            rotate_left
            ·rintro w' ⟨s0, s1, s2, s3, s4⟩
             go_simp
             with_reducible rfl
            rotate_left
            ·simp only [Act.put, List.setIfInBounds_toArray, List.set_cons_zero, List.set_cons_succ, i64_w, i32_w]
             rfl
            refine pure_ (i := 14) (N := some 57) (v := ?_) (a' := ?_) #[true, true, true, true, true, true, true, true, true, true, true, true, true, true, true, false, false, false, false, false, false, false, false, false, false, false, false, false, false] rfl rfl (any_of HT_.out (by kernel_rfl)) (fun _ _ _ h => h) (Or.inl ⟨by rfl, ?_⟩) ?_ ?_
            rotate_left
            ·intro w'
             go_simp
             with_reducible rfl
            rotate_left
            ·simp only [Act.put, List.setIfInBounds_toArray, List.set_cons_zero, List.set_cons_succ, i64_w, i32_w]
             rfl
            refine pure_ (i := 15) (N := some 58) (v := ?_) (a' := ?_) #[true, true, true, true, true, true, true, true, true, true, true, true, true, true, true, true, false, false, false, false, false, false, false, false, false, false, false, false, false] rfl rfl (any_of HT_.out (by kernel_rfl)) (fun _ _ _ h => h) (Or.inl ⟨by rfl, ?_⟩) ?_ ?_
            rotate_left
            ·intro w'
             go_simp
             with_reducible rfl
            rotate_left
            ·simp only [Act.put, List.setIfInBounds_toArray, List.set_cons_zero, List.set_cons_succ, i64_w, i32_w]
             rfl
            refine pure_ (i := 16) (N := some 59) (v := ?_) (a' := ?_) #[true, true, true, true, true, true, true, true, true, true, true, true, true, true, true, true, true, false, false, false, false, false, false, false, false, false, false, false, false] rfl rfl (any_of HT_.out (by kernel_rfl)) (fun _ _ _ h => h) (Or.inl ⟨by rfl, ?_⟩) ?_ ?_
            rotate_left
            ·intro w'
             go_simp
             with_reducible rfl
            rotate_left
            ·simp only [Act.put, List.setIfInBounds_toArray, List.set_cons_zero, List.set_cons_succ, i64_w, i32_w]
             rfl
            refine pure_ (i := 18) (N := some 61) (v := ?_) (a' := ?_) #[true, true, true, true, true, true, true, true, true, true, true, true, true, true, true, true, true, false, true, false, false, false, false, false, false, false, false, false, false] rfl rfl (any_of HT_.out (by kernel_rfl)) (fun _ _ _ h => h) (Or.inl ⟨by rfl, ?_⟩) ?_ ?_
            rotate_left
            ·intro w'
             go_simp
             with_reducible rfl
            rotate_left
            ·simp only [Act.put, List.setIfInBounds_toArray, List.set_cons_zero, List.set_cons_succ, i64_w, i32_w]
             rfl
            refine pure_ (i := 19) (N := some 62) (v := ?_) (a' := ?_) #[true, true, true, true, true, true, true, true, true, true, true, true, true, true, true, true, true, false, true, true, false, false, false, false, false, false, false, false, false] rfl rfl (any_of HT_.out (by kernel_rfl)) (fun _ _ _ h => h) (Or.inl ⟨by rfl, ?_⟩) ?_ ?_
            rotate_left
            ·intro w'
             go_simp
             with_reducible rfl
            rotate_left
            ·simp only [Act.put, List.setIfInBounds_toArray, List.set_cons_zero, List.set_cons_succ, i64_w, i32_w]
             rfl
            refine pure_ (i := 20) (N := some 63) (v := ?_) (a' := ?_) #[true, true, true, true, true, true, true, true, true, true, true, true, true, true, true, true, true, false, true, true, true, false, false, false, false, false, false, false, false] rfl rfl (any_of HT_.out (by kernel_rfl)) (fun _ _ _ h => h) (Or.inl ⟨by rfl, ?_⟩) ?_ ?_
            rotate_left
            ·intro w'
             go_simp
             with_reducible rfl
            rotate_left
            ·simp only [Act.put, List.setIfInBounds_toArray, List.set_cons_zero, List.set_cons_succ, i64_w, i32_w]
             rfl
            refine pure_ (i := 24) (N := some 67) (v := ?_) (a' := ?_) #[true, true, true, true, true, true, true, true, true, true, true, true, true, true, true, true, true, false, true, true, true, false, false, false, true, false, false, false, false] rfl rfl (any_of HT_.out (by kernel_rfl)) (fun _ _ _ h => h) (Or.inl ⟨by rfl, ?_⟩) ?_ ?_
            rotate_left
            ·intro w'
             go_simp
             with_reducible rfl
            rotate_left
            ·simp only [Act.put, List.setIfInBounds_toArray, List.set_cons_zero, List.set_cons_succ, i64_w, i32_w]
             rfl
            refine take_ (i := 17) (N := some 60) (v := ?_) (a' := ?_) #[true, true, true, true, true, true, true, true, true, true, true, true, true, true, true, true, true, true, true, true, true, false, false, false, true, false, false, false, false] rfl rfl (take_ofW HT_.out HW_.out (by kernel_rfl)) (fun _ _ _ h => h) (Or.inl ⟨by rfl, ?_⟩) hHeld ?_ ?_
            rotate_left
            ·rintro w' ⟨s0, s1, s2, s3, s4⟩
             go_simp
             with_reducible rfl
            rotate_left
            ·simp only [Act.put, List.setIfInBounds_toArray, List.set_cons_zero, List.set_cons_succ, i64_w, i32_w]
             rfl
            refine take_ (i := 21) (N := some 64) (v := ?_) (a' := ?_) #[true, true, true, true, true, true, true, true, true, true, true, true, true, true, true, true, true, true, true, true, true, true, false, false, true, false, false, false, false] rfl rfl (take_ofW HT_.out HW_.out (by kernel_rfl)) (fun _ _ _ h => h) (Or.inl ⟨by rfl, ?_⟩) hHeld ?_ ?_
            rotate_left
            ·rintro w' ⟨s0, s1, s2, s3, s4⟩
             go_simp
             with_reducible rfl
            rotate_left
            ·simp only [Act.put, List.setIfInBounds_toArray, List.set_cons_zero, List.set_cons_succ, i64_w, i32_w]
             rfl
            refine take_ (i := 23) (N := some 66) (v := ?_) (a' := ?_) #[true, true, true, true, true, true, true, true, true, true, true, true, true, true, true, true, true, true, true, true, true, true, false, true, true, false, false, false, false] rfl rfl (take_ofW HT_.out HW_.out (by kernel_rfl)) (fun _ _ _ h => h) (Or.inl ⟨by rfl, ?_⟩) hHeld ?_ ?_
            rotate_left
            ·rintro w' ⟨s0, s1, s2, s3, s4⟩
             go_simp
             with_reducible rfl
            rotate_left
            ·simp only [Act.put, List.setIfInBounds_toArray, List.set_cons_zero, List.set_cons_succ, i64_w, i32_w]
             rfl
            refine one_ (i := 22) (N := some 65) #[true, true, true, true, true, true, true, true, true, true, true, true, true, true, true, true, true, true, true, true, true, true, true, true, true, false, false, false, false] rfl rfl (one_of HT_.out (by kernel_rfl)) (by decide) (fun K hK => ?_)
            refine goes_ Try.func25 (by kernel_rfl) rfl #[.agg #[.slice Ao9 t359.length co9, .slice Ao11 t362.length co11], .int .i64 (rd t368 x10_2)] (by rfl) rfl rfl ar_ ?_
            with_reducible refine (tree_Depth.calls _ _ t359 _ _ t362 (rd t368 x10_2) t375 _ ?side1 ?side2 ?side3 ?side4 A22.out).mono ?_
            (case side1 => repeat (first | exact (Kd.R_reads' HO_367000.out).2.2 | (with_reducible refine Kd.C_alloc ?_ _) | (with_reducible refine Kd.C_drewN ?_ _) | (with_reducible refine Kd.C_drew ?_)))
            (case side2 => exact (Kd.R_reads' HO_367000.out).2.1)
            (case side3 => repeat (first | exact (Kd.R_reads' HO_367001.out).2.2 | (with_reducible refine Kd.C_alloc ?_ _) | (with_reducible refine Kd.C_drewN ?_ _) | (with_reducible refine Kd.C_drew ?_)))
            (case side4 => exact (Kd.R_reads' HO_367001.out).2.1)
            rintro e w28 ⟨rfl, hb⟩
            have HS2_ := (hb.cell (World.block_lt_of_cell? _ _ (hHeld.2.2.1))).trans (hHeld.2.2.1)
            have HS3_ := (hb.cell (World.block_lt_of_cell? _ _ (hHeld.2.2.2.1))).trans (hHeld.2.2.2.1)
            have HS4_ := (hb.cell (World.block_lt_of_cell? _ _ (hHeld.2.2.2.2))).trans (hHeld.2.2.2.2)
            refine ⟨_, rfl, ?_⟩
            have n0_ := Aside0.mk (Kd.R_below (rr_ HO_8.out) hb)
            have n1_ := Aside0.mk (Kd.R_below (rr_ HO_367000.out) hb)
            have n2_ := Aside0.mk (Kd.R_below (rr_ HO_367001.out) hb)
            have n3_ := Aside0.mk (blk_below (g := gb366) (o := .cells #[.slice Ao9 t359.length co9, .slice Ao11 t362.length co11] 25 (0, 0)) (bk_ BK366.out) hb)
            have n4_ := Aside0.mk (below_step (bs_ HB.out GE366.out) hb)
            clear HO_8
            clear HO_367000
            clear HO_367001
            clear BK366
            clear HB
            have HO_8 := n0_
            have HO_367000 := n1_
            have HO_367001 := n2_
            have BK366 := n3_
            have HB := n4_
            clear n0_ n1_ n2_ n3_ n4_
            (try clear hb)
            (try clear hb2)
            (try clear hk)
            (try clear hi)
            refine hK.out _ _ ⟨(blk_cell BK366.out 0).trans rfl, (blk_cell BK366.out 1).trans rfl, HS2_, HS3_, HS4_⟩ (fun hHeld => ?_)
            clear hK K
            refine norm_ (a' := ?_) ?_ ?_
            rotate_left
            ·show Act.put _ (some 65) _ = _
             simp only [Act.put, List.setIfInBounds_toArray, List.set_cons_zero, List.set_cons_succ, i64_w, i32_w]
             rfl
            refine one_ (i := 25) (N := some 68) #[true, true, true, true, true, true, true, true, true, true, true, true, true, true, true, true, true, true, true, true, true, true, true, true, true, true, false, false, false] rfl rfl (one_of HT_.out (by kernel_rfl)) (by decide) (fun K hK => ?_)
            refine goes_ Try.func25 (by kernel_rfl) rfl #[.agg #[.slice Ao9 t359.length co9, .slice Ao11 t362.length co11], .int .i64 x7_1] (by rfl) rfl rfl ar_ ?_
            with_reducible refine (tree_Depth.calls _ _ t359 _ _ t362 x7_1 t376 _ ?side1 ?side2 ?side3 ?side4 A23.out).mono ?_
            (case side1 => repeat (first | exact (Kd.R_reads' HO_367000.out).2.2 | (with_reducible refine Kd.C_alloc ?_ _) | (with_reducible refine Kd.C_drewN ?_ _) | (with_reducible refine Kd.C_drew ?_)))
            (case side2 => exact (Kd.R_reads' HO_367000.out).2.1)
            (case side3 => repeat (first | exact (Kd.R_reads' HO_367001.out).2.2 | (with_reducible refine Kd.C_alloc ?_ _) | (with_reducible refine Kd.C_drewN ?_ _) | (with_reducible refine Kd.C_drew ?_)))
            (case side4 => exact (Kd.R_reads' HO_367001.out).2.1)
            rintro e w29 ⟨rfl, hb⟩
            have HS2_ := (hb.cell (World.block_lt_of_cell? _ _ (hHeld.2.2.1))).trans (hHeld.2.2.1)
            have HS3_ := (hb.cell (World.block_lt_of_cell? _ _ (hHeld.2.2.2.1))).trans (hHeld.2.2.2.1)
            have HS4_ := (hb.cell (World.block_lt_of_cell? _ _ (hHeld.2.2.2.2))).trans (hHeld.2.2.2.2)
            refine ⟨_, rfl, ?_⟩
            have n0_ := Aside0.mk (Kd.R_below (rr_ HO_8.out) hb)
            have n1_ := Aside0.mk (Kd.R_below (rr_ HO_367000.out) hb)
            have n2_ := Aside0.mk (Kd.R_below (rr_ HO_367001.out) hb)
            have n3_ := Aside0.mk (blk_below (g := gb366) (o := .cells #[.slice Ao9 t359.length co9, .slice Ao11 t362.length co11] 25 (0, 0)) (bk_ BK366.out) hb)
            have n4_ := Aside0.mk (below_step (bs_ HB.out GE366.out) hb)
            clear HO_8
            clear HO_367000
            clear HO_367001
            clear BK366
            clear HB
            have HO_8 := n0_
            have HO_367000 := n1_
            have HO_367001 := n2_
            have BK366 := n3_
            have HB := n4_
            clear n0_ n1_ n2_ n3_ n4_
            (try clear hb)
            (try clear hb2)
            (try clear hk)
            (try clear hi)
            refine hK.out _ _ ⟨(blk_cell BK366.out 0).trans rfl, (blk_cell BK366.out 1).trans rfl, HS2_, HS3_, HS4_⟩ (fun hHeld => ?_)
            clear hK K
            refine norm_ (a' := ?_) ?_ ?_
            rotate_left
            ·show Act.put _ (some 68) _ = _
             simp only [Act.put, List.setIfInBounds_toArray, List.set_cons_zero, List.set_cons_succ, i64_w, i32_w]
             rfl
            refine pure_ (i := 26) (N := some 69) (v := ?_) (a' := ?_) #[true, true, true, true, true, true, true, true, true, true, true, true, true, true, true, true, true, true, true, true, true, true, true, true, true, true, true, false, false] rfl rfl (any_of HT_.out (by kernel_rfl)) (fun _ _ _ h => h) (Or.inl ⟨by rfl, ?_⟩) ?_ ?_
            rotate_left
            ·intro w'
             go_simp
             with_reducible rfl
            rotate_left
            ·simp only [Act.put, List.setIfInBounds_toArray, List.set_cons_zero, List.set_cons_succ, i64_w, i32_w]
             rfl
            refine pure_ (i := 27) (N := some 70) (v := ?_) (a' := ?_) #[true, true, true, true, true, true, true, true, true, true, true, true, true, true, true, true, true, true, true, true, true, true, true, true, true, true, true, true, false] rfl rfl (any_of HT_.out (by kernel_rfl)) (fun _ _ _ h => h) (Or.inl ⟨by rfl, ?_⟩) ?_ ?_
            rotate_left
            ·intro w'
             go_simp
             with_reducible rfl
            rotate_left
            ·simp only [Act.put, List.setIfInBounds_toArray, List.set_cons_zero, List.set_cons_succ, i64_w, i32_w]
             rfl
            refine pure_ (i := 28) (N := some 71) (v := ?_) (a' := ?_) #[true, true, true, true, true, true, true, true, true, true, true, true, true, true, true, true, true, true, true, true, true, true, true, true, true, true, true, true, true] rfl rfl (any_of HT_.out (by kernel_rfl)) (fun _ _ _ h => h) (Or.inl ⟨by rfl, ?_⟩) ?_ ?_
            rotate_left
            ·intro w'
             go_simp
             with_reducible rfl
            rotate_left
            ·simp only [Act.put, List.setIfInBounds_toArray, List.set_cons_zero, List.set_cons_succ, i64_w, i32_w]
             rfl
            refine done_ (done_of HT_.out (by kernel_rfl)) ?_
            try go_wp2
            have n0_ := Aside0.mk (Kd.R_drew HO_8.out)
            have n1_ := Aside0.mk (Kd.R_drew HO_367000.out)
            have n2_ := Aside0.mk (Kd.R_drew HO_367001.out)
            have n3_ := Aside0.mk (blk_drew BK366.out)
            have n4_ := Aside0.mk (below_drew1 HB.out)
            clear HO_8
            clear HO_367000
            clear HO_367001
            clear BK366
            clear HB
            have HO_8 := n0_
            have HO_367000 := n1_
            have HO_367001 := n2_
            have BK366 := n3_
            have HB := n4_
            clear n0_ n1_ n2_ n3_ n4_
            have p377 : 0 ≤ (x10_2 : Int) := of_decide_eq_true as_
            have q377 : x10_2 < (t368.length : Int) := of_decide_eq_true as_
            obtain ⟨ad377, e377, hx377_0⟩ := Kd.at_int (Kd.R_reads' HO_8.out).2.2 x10_2 p377 q377
            obtain rfl : ad371 = ad377 := (by injection e377)
            replace p377 := eq_true p377
            replace q377 := eq_true q377
            refine start_ (n := 7) (S := fun w' => w'.cell? ⟨gb366, 0, none⟩ = some (.slice Ao9 t359.length co9) ∧ w'.cell? ⟨gb366, 1, none⟩ = some (.slice Ao11 t362.length co11) ∧ w'.cell? (ad371.add (x10_2).toNat) = some (.int .i64 (rd t368 x10_2))) (ds := []) #[false, false, false, false, false, false, false] (by kernel_rfl) rfl rfl ⟨(blk_cell BK366.out 0).trans rfl, (blk_cell BK366.out 1).trans rfl, hx377_0⟩ (fun hHeld => ?_)
            generalize w29.drew = w30 at HO_8 HO_367000 HO_367001 BK366 HB hx377_0 hHeld ⊢
            refine pure_ (i := 1) (N := some 73) (v := ?_) (a' := ?_) #[false, true, false, false, false, false, false] rfl rfl (by kernel_rfl) (fun _ _ _ h => h) (Or.inl ⟨by rfl, ?_⟩) ?_ ?_
            rotate_left
            ·intro w'
             go_simp
             with_reducible rfl
            rotate_left
            ·simp only [Act.put, List.setIfInBounds_toArray, List.set_cons_zero, List.set_cons_succ, i64_w, i32_w]
             rfl
            refine pure_ (i := 2) (N := some 74) (v := ?_) (a' := ?_) #[false, true, true, false, false, false, false] rfl rfl (by kernel_rfl) (fun _ _ _ h => h) (Or.inl ⟨by rfl, ?_⟩) ?_ ?_
            rotate_left
            ·intro w'
             go_simp
             with_reducible rfl
            rotate_left
            ·simp only [Act.put, List.setIfInBounds_toArray, List.set_cons_zero, List.set_cons_succ, i64_w, i32_w]
             rfl
            refine pure_ (i := 3) (N := some 75) (v := ?_) (a' := ?_) #[false, true, true, true, false, false, false] rfl rfl (by kernel_rfl) (fun _ _ _ h => h) (Or.inl ⟨by rfl, ?_⟩) ?_ ?_
            rotate_left
            ·intro w'
             go_simp
             with_reducible rfl
            rotate_left
            ·simp only [Act.put, List.setIfInBounds_toArray, List.set_cons_zero, List.set_cons_succ, i64_w, i32_w]
             rfl
            refine take_ (i := 0) (N := some 72) (v := ?_) (a' := ?_) #[true, true, true, true, false, false, false] rfl rfl (by kernel_rfl) (fun _ _ _ h => h) (Or.inl ⟨by rfl, ?_⟩) hHeld ?_ ?_
            rotate_left
            ·rintro w' ⟨s0, s1, s2⟩
             go_simp
             with_reducible rfl
            rotate_left
            ·simp only [Act.put, List.setIfInBounds_toArray, List.set_cons_zero, List.set_cons_succ, i64_w, i32_w]
             rfl
            refine take_ (i := 4) (N := some 76) (v := ?_) (a' := ?_) #[true, true, true, true, true, false, false] rfl rfl (by kernel_rfl) (fun _ _ _ h => h) (Or.inl ⟨by rfl, ?_⟩) hHeld ?_ ?_
            rotate_left
            ·rintro w' ⟨s0, s1, s2⟩
             go_simp
             with_reducible rfl
            rotate_left
            ·simp only [Act.put, List.setIfInBounds_toArray, List.set_cons_zero, List.set_cons_succ, i64_w, i32_w]
             rfl
            refine one_ (i := 5) (N := some 77) #[true, true, true, true, true, true, false] rfl rfl (by kernel_rfl) (by decide) (fun K hK => ?_)
            refine goes_ Try.func26 (by kernel_rfl) rfl #[.agg #[.slice Ao9 t359.length co9, .slice Ao11 t362.length co11], .int .i64 (rd t368 x10_2)] (by rfl) rfl rfl ar_ ?_
            with_reducible refine (tree_End.calls k2 _ _ t359 _ _ t362 (rd t368 x10_2) t378 _ ?side1 ?side2 ?side3 ?side4 A25.out).mono ?_
            (case side1 => repeat (first | exact (Kd.R_reads' HO_367000.out).2.2 | (with_reducible refine Kd.C_alloc ?_ _) | (with_reducible refine Kd.C_drewN ?_ _) | (with_reducible refine Kd.C_drew ?_)))
            (case side2 => exact (Kd.R_reads' HO_367000.out).2.1)
            (case side3 => repeat (first | exact (Kd.R_reads' HO_367001.out).2.2 | (with_reducible refine Kd.C_alloc ?_ _) | (with_reducible refine Kd.C_drewN ?_ _) | (with_reducible refine Kd.C_drew ?_)))
            (case side4 => exact (Kd.R_reads' HO_367001.out).2.1)
            rintro e w31 ⟨rfl, hb⟩
            have HS2_ := (hb.cell (World.block_lt_of_cell? _ _ (hHeld.2.2))).trans (hHeld.2.2)
            refine ⟨_, rfl, ?_⟩
            have n0_ := Aside0.mk (Kd.R_below (rr_ HO_8.out) hb)
            have n1_ := Aside0.mk (Kd.R_below (rr_ HO_367000.out) hb)
            have n2_ := Aside0.mk (Kd.R_below (rr_ HO_367001.out) hb)
            have n3_ := Aside0.mk (blk_below (g := gb366) (o := .cells #[.slice Ao9 t359.length co9, .slice Ao11 t362.length co11] 25 (0, 0)) (bk_ BK366.out) hb)
            have n4_ := Aside0.mk (below_step (bs_ HB.out GE366.out) hb)
            clear HO_8
            clear HO_367000
            clear HO_367001
            clear BK366
            clear HB
            have HO_8 := n0_
            have HO_367000 := n1_
            have HO_367001 := n2_
            have BK366 := n3_
            have HB := n4_
            clear n0_ n1_ n2_ n3_ n4_
            (try clear hb)
            (try clear hb2)
            (try clear hk)
            (try clear hi)
            refine hK.out _ _ ⟨(blk_cell BK366.out 0).trans rfl, (blk_cell BK366.out 1).trans rfl, HS2_⟩ (fun hHeld => ?_)
            clear hK K
            refine norm_ (a' := ?_) ?_ ?_
            rotate_left
            ·show Act.put _ (some 77) _ = _
             simp only [Act.put, List.setIfInBounds_toArray, List.set_cons_zero, List.set_cons_succ, i64_w, i32_w]
             rfl
            refine pure_ (i := 6) (N := some 9) (v := ?_) (a' := ?_) #[true, true, true, true, true, true, true] rfl rfl (by kernel_rfl) (fun _ _ _ h => h) (Or.inl ⟨by rfl, ?_⟩) ?_ ?_
            rotate_left
            ·intro w'
             go_simp
             with_reducible rfl
            rotate_left
            ·simp only [Act.put, List.setIfInBounds_toArray, List.set_cons_zero, List.set_cons_succ, i64_w, i32_w]
             rfl
            refine done_ (by kernel_rfl) ?_
            try go_wp2
            go_roundg k2
            case measure => have := HK1.out; have := HK2.out; omega
            case rel => exact ⟨(t378), (wrap64 (x10_2 + 1)), sm_, sm_, H', ⟨by have := HK1.out; have := HK2.out; omega⟩, ⟨by exact rr_ HO_8.out⟩, ⟨by exact rr_ HO_367000.out⟩, ⟨by exact rr_ HO_367001.out⟩, ⟨by exact bk_ BK366.out⟩, ⟨by repeat (first | (with_reducible first | exact HB.out | apply below_alloc | apply pw_below_drewN | apply below_drew1 | refine below_set ?_ GE366.out) | exact HB.out)⟩⟩
           ·rw [if_neg c24] at H
            have c24b0 : (t375 == (wrap64 (t376 + 1))) = false := beq_eq_false_iff_ne.mpr c24
            have c24b1 : (t375 != (wrap64 (t376 + 1))) = true := bne_iff_ne.mpr c24
            exact absurd ((Option.some.inj H).trans HRT.out) (by decide)
          ·rw [if_neg c21] at H
           have c21b0 : ((rd t368 x10_2) == x9_2) = false := beq_eq_false_iff_ne.mpr c21
           have c21b1 : ((rd t368 x10_2) != x9_2) = true := bne_iff_ne.mpr c21
           exact absurd ((Option.some.inj H).trans HRT.out) (by decide)
         ·rw [if_neg c20] at H
          have c20b0 : (t372 == x7_1) = false := beq_eq_false_iff_ne.mpr c20
          have c20b1 : (t372 != x7_1) = true := bne_iff_ne.mpr c20
          exact absurd ((Option.some.inj H).trans HRT.out) (by decide)
        ·rw [if_neg c18] at H
         exact absurd H (by simp)
       ·rw [if_neg c17] at H
        have c17b0 : decide (x10_2 < (t368.length : Int)) = false := decide_eq_false c17
        clear c17
        replace H := Option.bind_eq_some_iff.mp H
        obtain ⟨t379, A400, H⟩ := H
        replace H : (if t379 = x9_2 then ((tree_Leaf.f t359 t362 x7_1).bind fun t380 => (if (t380 != ((t368.length : Int) == 0)) = true then (some false) else (topiarylaw15_TreeCounts.l0 k2 t357 (wrap64 (x6_1 + (t368.length : Int))) (wrap64 (x7_1 + 1)) t359 t362))) else (some false)) = some r := H
        have A40 := Aside0.mk A400
        clear A400
        by_cases c41 : t379 = x9_2
        ·rw [if_pos c41] at H
         have c41b0 : (t379 == x9_2) = true := beq_iff_eq.mpr c41
         have c41b1 : (t379 != x9_2) = false := bne_eq_false_iff_eq.mpr c41
         clear c41
         replace H := Option.bind_eq_some_iff.mp H
         obtain ⟨t380, A420, H⟩ := H
         replace H : (if (t380 != ((t368.length : Int) == 0)) = true then (some false) else (topiarylaw15_TreeCounts.l0 k2 t357 (wrap64 (x6_1 + (t368.length : Int))) (wrap64 (x7_1 + 1)) t359 t362)) = some r := H
         have A42 := Aside0.mk A420
         clear A420
         by_cases c43 : (t380 != ((t368.length : Int) == 0)) = true
         ·rw [if_pos c43] at H
          have c43b0 : (t380 != ((t368.length : Int) == 0)) = true := c43
          (try (have c43b1 : decide (t380 = ((t368.length : Int) == 0)) = false := by simpa using c43))
          (try (have c43b2 : (t380 == ((t368.length : Int) == 0)) = false := by simpa using c43))
          (try (have c43b3 : ¬ (t380 = ((t368.length : Int) == 0)) := by simpa using c43))
          clear c43
          exact absurd ((Option.some.inj H).trans HRT.out) (by decide)
         ·rw [if_neg c43] at H
          have c43b0 : (t380 != ((t368.length : Int) == 0)) = false := by simpa using c43
          (try (have c43b1 : decide (t380 = ((t368.length : Int) == 0)) = true := by simpa using c43))
          (try (have c43b2 : (t380 == ((t368.length : Int) == 0)) = true := by simpa using c43))
          clear c43
          have H' := Aside0.mk H
          clear H
          have hcz48_0 : wr.cell? ⟨gb366, 0, none⟩ = some (.slice Ao9 t359.length co9) := (blk_cell BK366.out 0).trans rfl
          have hcz48_1 : wr.cell? ⟨gb366, 1, none⟩ = some (.slice Ao11 t362.length co11) := (blk_cell BK366.out 1).trans rfl
          have hfz48_0 := blk_frozen BK366.out 0
          have hfz48_1 := blk_frozen BK366.out 1
          go_wp2_with (first | ((with_reducible refine gate_callee (f := 26) rfl ?_); refine goesL_ (some 80) rfl rfl Try.func26 (by kernel_rfl) rfl #[.agg #[.slice Ao9 t359.length co9, .slice Ao11 t362.length co11], .int .i64 x7_1] rfl ar_ ?_; (with_reducible refine (tree_End.calls k2 _ _ t359 _ _ t362 x7_1 t379 _ ?side1 ?side2 ?side3 ?side4 A40.out).mono ?_); (case side1 => repeat (first | exact (Kd.R_reads' HO_367000.out).2.2 | (with_reducible refine Kd.C_alloc ?_ _) | (with_reducible refine Kd.C_drewN ?_ _) | (with_reducible refine Kd.C_drew ?_))); (case side2 => exact (Kd.R_reads' HO_367000.out).2.1); (case side3 => repeat (first | exact (Kd.R_reads' HO_367001.out).2.2 | (with_reducible refine Kd.C_alloc ?_ _) | (with_reducible refine Kd.C_drewN ?_ _) | (with_reducible refine Kd.C_drew ?_))); (case side4 => exact (Kd.R_reads' HO_367001.out).2.1); rintro e w49 ⟨rfl, hb⟩; refine ⟨_, rfl, ?_⟩; have n0_ := Aside0.mk (Kd.R_below (rr_ HO_8.out) hb); have n1_ := Aside0.mk (Kd.R_below (rr_ HO_367000.out) hb); have n2_ := Aside0.mk (Kd.R_below (rr_ HO_367001.out) hb); have n3_ := Aside0.mk (blk_below (g := gb366) (o := .cells #[.slice Ao9 t359.length co9, .slice Ao11 t362.length co11] 25 (0, 0)) (bk_ BK366.out) hb); have n4_ := Aside0.mk (below_step (bs_ HB.out GE366.out) hb); clear HO_8; clear HO_367000; clear HO_367001; clear BK366; clear HB; have HO_8 := n0_; have HO_367000 := n1_; have HO_367001 := n2_; have BK366 := n3_; have HB := n4_; clear n0_ n1_ n2_ n3_ n4_; (try clear hb); (try clear hb2); (try clear hk); (try clear hi); have hcz50_0 : w49.cell? ⟨gb366, 0, none⟩ = some (.slice Ao9 t359.length co9) := (blk_cell BK366.out 0).trans rfl; have hcz50_1 : w49.cell? ⟨gb366, 1, none⟩ = some (.slice Ao11 t362.length co11) := (blk_cell BK366.out 1).trans rfl; have hfz50_0 := blk_frozen BK366.out 0; have hfz50_1 := blk_frozen BK366.out 1) | (go_at_call 22; (with_reducible refine (tree_Leaf.calls _ _ t359 _ _ t362 x7_1 t380 _ ?side1 ?side2 ?side3 ?side4 A42.out).mono ?_); (case side1 => repeat (first | exact (Kd.R_reads' HO_367000.out).2.2 | (with_reducible refine Kd.C_alloc ?_ _) | (with_reducible refine Kd.C_drewN ?_ _) | (with_reducible refine Kd.C_drew ?_))); (case side2 => exact (Kd.R_reads' HO_367000.out).2.1); (case side3 => repeat (first | exact (Kd.R_reads' HO_367001.out).2.2 | (with_reducible refine Kd.C_alloc ?_ _) | (with_reducible refine Kd.C_drewN ?_ _) | (with_reducible refine Kd.C_drew ?_))); (case side4 => exact (Kd.R_reads' HO_367001.out).2.1); rintro e w51 ⟨rfl, hb⟩; have n0_ := Aside0.mk (Kd.R_below (rr_ HO_8.out) hb); have n1_ := Aside0.mk (Kd.R_below (rr_ HO_367000.out) hb); have n2_ := Aside0.mk (Kd.R_below (rr_ HO_367001.out) hb); have n3_ := Aside0.mk (blk_below (g := gb366) (o := .cells #[.slice Ao9 t359.length co9, .slice Ao11 t362.length co11] 25 (0, 0)) (bk_ BK366.out) hb); have n4_ := Aside0.mk (below_step (bs_ HB.out GE366.out) hb); clear HO_8; clear HO_367000; clear HO_367001; clear BK366; clear HB; have HO_8 := n0_; have HO_367000 := n1_; have HO_367001 := n2_; have BK366 := n3_; have HB := n4_; clear n0_ n1_ n2_ n3_ n4_; (try clear hb); (try clear hb2); (try clear hk); (try clear hi)))
          go_roundg k2
          case measure => have := HK1.out; have := HK2.out; omega
          case rel => exact ⟨((wrap64 (x6_1 + (t368.length : Int)))), (wrap64 (x7_1 + 1)), sm_, sm_, H', ⟨by have := HK1.out; have := HK2.out; omega⟩, ⟨by exact rr_ HO_367000.out⟩, ⟨by exact rr_ HO_367001.out⟩, ⟨by exact bk_ BK366.out⟩, ⟨by repeat (first | (with_reducible first | exact HB.out | apply below_alloc | apply pw_below_drewN | apply below_drew1 | refine below_set ?_ GE366.out) | exact HB.out)⟩⟩
        ·rw [if_neg c41] at H
         have c41b0 : (t379 == x9_2) = false := beq_eq_false_iff_ne.mpr c41
         have c41b1 : (t379 != x9_2) = true := bne_iff_ne.mpr c41
         exact absurd ((Option.some.inj H).trans HRT.out) (by decide)
    ·rw [if_neg c12] at H
     have c12b0 : decide (x7_1 < (t362.length : Int)) = false := decide_eq_false c12
     clear c12
     by_cases c54 : t357 = true
     ·subst c54
      have H1 : (if x6_1 = (wrap64 ((t362.length : Int) - 1)) then ((tree_End.f k1 t359 t362 0).bind fun t367 => (some (t367 == (t362.length : Int)))) else (some false)) = some r := by rw [if_pos rfl] at H; exact H
      clear H
      have H := H1
      clear H1
      by_cases c55 : x6_1 = (wrap64 ((t362.length : Int) - 1))
      ·rw [if_pos c55] at H
       have c55b0 : (x6_1 == (wrap64 ((t362.length : Int) - 1))) = true := beq_iff_eq.mpr c55
       have c55b1 : (x6_1 != (wrap64 ((t362.length : Int) - 1))) = false := bne_eq_false_iff_eq.mpr c55
       clear c55
       replace H := Option.bind_eq_some_iff.mp H
       obtain ⟨t367, A560, H⟩ := H
       replace H : (some (t367 == (t362.length : Int))) = some r := H
       have A56 := Aside0.mk A560
       clear A560
       obtain rfl := Option.some.inj H
       have hcz57_0 : wr.cell? ⟨gb366, 0, none⟩ = some (.slice Ao9 t359.length co9) := (blk_cell BK366.out 0).trans rfl
       have hcz57_1 : wr.cell? ⟨gb366, 1, none⟩ = some (.slice Ao11 t362.length co11) := (blk_cell BK366.out 1).trans rfl
       have hfz57_0 := blk_frozen BK366.out 0
       have hfz57_1 := blk_frozen BK366.out 1
       try go_wp2
       have n0_ := Aside0.mk (Kd.R_drew HO_367000.out)
       have n1_ := Aside0.mk (Kd.R_drew HO_367001.out)
       have n2_ := Aside0.mk (blk_drew BK366.out)
       have n3_ := Aside0.mk (below_drew1 HB.out)
       clear HO_367000
       clear HO_367001
       clear BK366
       clear HB
       have HO_367000 := n0_
       have HO_367001 := n1_
       have BK366 := n2_
       have HB := n3_
       clear n0_ n1_ n2_ n3_
       refine start_ (n := 18) (S := fun w' => w'.cell? ⟨gb366, 0, none⟩ = some (.slice Ao9 t359.length co9) ∧ w'.cell? ⟨gb366, 1, none⟩ = some (.slice Ao11 t362.length co11)) (ds := []) #[false, false, false, false, false, false, false, false, false, false, false, false, false, false, false, false, false, false] (by kernel_rfl) rfl rfl ⟨(blk_cell BK366.out 0).trans rfl, (blk_cell BK366.out 1).trans rfl⟩ (fun hHeld => ?_); refine with_tabW topiarylaw15_TreeCounts.tab20 topiarylaw15_TreeCounts.bits20 (fun HT_ HW_ => ?_)
       generalize wr.drew = w58 at HO_367000 HO_367001 BK366 HB hHeld ⊢
       refine pure_ (i := 0) (N := some 92) (v := ?_) (a' := ?_) #[true, false, false, false, false, false, false, false, false, false, false, false, false, false, false, false, false, false] rfl rfl (any_of HT_.out (by kernel_rfl)) (fun _ _ _ h => h) (Or.inl ⟨by rfl, ?_⟩) ?_ ?_
       rotate_left
       ·intro w'
        go_simp
        with_reducible rfl
       rotate_left
       ·simp only [Act.put, List.setIfInBounds_toArray, List.set_cons_zero, List.set_cons_succ, i64_w, i32_w]
        rfl
       refine pure_ (i := 1) (N := some 93) (v := ?_) (a' := ?_) #[true, true, false, false, false, false, false, false, false, false, false, false, false, false, false, false, false, false] rfl rfl (any_of HT_.out (by kernel_rfl)) (fun _ _ _ h => h) (Or.inl ⟨by rfl, ?_⟩) ?_ ?_
       rotate_left
       ·intro w'
        go_simp
        with_reducible rfl
       rotate_left
       ·simp only [Act.put, List.setIfInBounds_toArray, List.set_cons_zero, List.set_cons_succ, i64_w, i32_w]
        rfl
       refine pure_ (i := 2) (N := some 94) (v := ?_) (a' := ?_) #[true, true, true, false, false, false, false, false, false, false, false, false, false, false, false, false, false, false] rfl rfl (any_of HT_.out (by kernel_rfl)) (fun _ _ _ h => h) (Or.inl ⟨by rfl, ?_⟩) ?_ ?_
       rotate_left
       ·intro w'
        go_simp
        with_reducible rfl
       rotate_left
       ·simp only [Act.put, List.setIfInBounds_toArray, List.set_cons_zero, List.set_cons_succ, i64_w, i32_w]
        rfl
       refine pure_ (i := 3) (N := some 95) (v := ?_) (a' := ?_) #[true, true, true, true, false, false, false, false, false, false, false, false, false, false, false, false, false, false] rfl rfl (any_of HT_.out (by kernel_rfl)) (fun _ _ _ h => h) (Or.inl ⟨by rfl, ?_⟩) ?_ ?_
       rotate_left
       ·intro w'
        go_simp
        with_reducible rfl
       rotate_left
       ·simp only [Act.put, List.setIfInBounds_toArray, List.set_cons_zero, List.set_cons_succ, i64_w, i32_w]
        rfl
       refine take_ (i := 4) (N := some 96) (v := ?_) (a' := ?_) #[true, true, true, true, true, false, false, false, false, false, false, false, false, false, false, false, false, false] rfl rfl (take_ofW HT_.out HW_.out (by kernel_rfl)) (fun _ _ _ h => h) (Or.inl ⟨by rfl, ?_⟩) hHeld ?_ ?_
       rotate_left
       ·rintro w' ⟨s0, s1⟩
        go_simp
        with_reducible rfl
       rotate_left
       ·simp only [Act.put, List.setIfInBounds_toArray, List.set_cons_zero, List.set_cons_succ, i64_w, i32_w]
        rfl
       refine pure_ (i := 5) (N := some 97) (v := ?_) (a' := ?_) #[true, true, true, true, true, true, false, false, false, false, false, false, false, false, false, false, false, false] rfl rfl (any_of HT_.out (by kernel_rfl)) (fun _ _ _ h => h) (Or.inl ⟨by rfl, ?_⟩) ?_ ?_
       rotate_left
       ·intro w'
        go_simp
        with_reducible rfl
       rotate_left
       ·simp only [Act.put, List.setIfInBounds_toArray, List.set_cons_zero, List.set_cons_succ, i64_w, i32_w]
        rfl
       refine pure_ (i := 6) (N := some 98) (v := ?_) (a' := ?_) #[true, true, true, true, true, true, true, false, false, false, false, false, false, false, false, false, false, false] rfl rfl (any_of HT_.out (by kernel_rfl)) (fun _ _ _ h => h) (Or.inl ⟨by rfl, ?_⟩) ?_ ?_
       rotate_left
       ·intro w'
        go_simp
        with_reducible rfl
       rotate_left
       ·simp only [Act.put, List.setIfInBounds_toArray, List.set_cons_zero, List.set_cons_succ, i64_w, i32_w]
        rfl
       refine pure_ (i := 7) (N := some 99) (v := ?_) (a' := ?_) #[true, true, true, true, true, true, true, true, false, false, false, false, false, false, false, false, false, false] rfl rfl (any_of HT_.out (by kernel_rfl)) (fun _ _ _ h => h) (Or.inl ⟨by rfl, ?_⟩) ?_ ?_
       rotate_left
       ·intro w'
        go_simp
        with_reducible rfl
       rotate_left
       ·simp only [Act.put, List.setIfInBounds_toArray, List.set_cons_zero, List.set_cons_succ, i64_w, i32_w]
        rfl
       refine pure_ (i := 8) (N := some 100) (v := ?_) (a' := ?_) #[true, true, true, true, true, true, true, true, true, false, false, false, false, false, false, false, false, false] rfl rfl (any_of HT_.out (by kernel_rfl)) (fun _ _ _ h => h) (Or.inl ⟨by rfl, ?_⟩) ?_ ?_
       rotate_left
       ·intro w'
        go_simp
        with_reducible rfl
       rotate_left
       ·simp only [Act.put, List.setIfInBounds_toArray, List.set_cons_zero, List.set_cons_succ, i64_w, i32_w]
        rfl
       refine pure_ (i := 9) (N := some 101) (v := ?_) (a' := ?_) #[true, true, true, true, true, true, true, true, true, true, false, false, false, false, false, false, false, false] rfl rfl (any_of HT_.out (by kernel_rfl)) (fun _ _ _ h => h) (Or.inl ⟨by rfl, ?_⟩) ?_ ?_
       rotate_left
       ·intro w'
        go_simp
        with_reducible rfl
       rotate_left
       ·simp only [Act.put, List.setIfInBounds_toArray, List.set_cons_zero, List.set_cons_succ, i64_w, i32_w]
        rfl
       refine pure_ (i := 12) (N := some 104) (v := ?_) (a' := ?_) #[true, true, true, true, true, true, true, true, true, true, false, false, true, false, false, false, false, false] rfl rfl (any_of HT_.out (by kernel_rfl)) (fun _ _ _ h => h) (Or.inl ⟨by rfl, ?_⟩) ?_ ?_
       rotate_left
       ·intro w'
        go_simp
        with_reducible rfl
       rotate_left
       ·simp only [Act.put, List.setIfInBounds_toArray, List.set_cons_zero, List.set_cons_succ, i64_w, i32_w]
        rfl
       refine take_ (i := 10) (N := some 102) (v := ?_) (a' := ?_) #[true, true, true, true, true, true, true, true, true, true, true, false, true, false, false, false, false, false] rfl rfl (take_ofW HT_.out HW_.out (by kernel_rfl)) (fun _ _ _ h => h) (Or.inl ⟨by rfl, ?_⟩) hHeld ?_ ?_
       rotate_left
       ·rintro w' ⟨s0, s1⟩
        go_simp
        with_reducible rfl
       rotate_left
       ·simp only [Act.put, List.setIfInBounds_toArray, List.set_cons_zero, List.set_cons_succ, i64_w, i32_w]
        rfl
       refine take_ (i := 13) (N := some 105) (v := ?_) (a' := ?_) #[true, true, true, true, true, true, true, true, true, true, true, false, true, true, false, false, false, false] rfl rfl (take_ofW HT_.out HW_.out (by kernel_rfl)) (fun _ _ _ h => h) (Or.inl ⟨by rfl, ?_⟩) hHeld ?_ ?_
       rotate_left
       ·rintro w' ⟨s0, s1⟩
        go_simp
        with_reducible rfl
       rotate_left
       ·simp only [Act.put, List.setIfInBounds_toArray, List.set_cons_zero, List.set_cons_succ, i64_w, i32_w]
        rfl
       refine pure_ (i := 14) (N := some 106) (v := ?_) (a' := ?_) #[true, true, true, true, true, true, true, true, true, true, true, false, true, true, true, false, false, false] rfl rfl (any_of HT_.out (by kernel_rfl)) (fun _ _ _ h => h) (Or.inl ⟨by rfl, ?_⟩) ?_ ?_
       rotate_left
       ·intro w'
        go_simp
        with_reducible rfl
       rotate_left
       ·simp only [Act.put, List.setIfInBounds_toArray, List.set_cons_zero, List.set_cons_succ, i64_w, i32_w]
        rfl
       refine one_ (i := 11) (N := some 103) #[true, true, true, true, true, true, true, true, true, true, true, true, true, true, true, false, false, false] rfl rfl (one_of HT_.out (by kernel_rfl)) (by decide) (fun K hK => ?_)
       refine goes_ Try.func26 (by kernel_rfl) rfl #[.agg #[.slice Ao9 t359.length co9, .slice Ao11 t362.length co11], .int .i64 0] (by rfl) rfl rfl ar_ ?_
       with_reducible refine (tree_End.calls k1 _ _ t359 _ _ t362 0 t367 _ ?side1 ?side2 ?side3 ?side4 A56.out).mono ?_
       (case side1 => repeat (first | exact (Kd.R_reads' HO_367000.out).2.2 | (with_reducible refine Kd.C_alloc ?_ _) | (with_reducible refine Kd.C_drewN ?_ _) | (with_reducible refine Kd.C_drew ?_)))
       (case side2 => exact (Kd.R_reads' HO_367000.out).2.1)
       (case side3 => repeat (first | exact (Kd.R_reads' HO_367001.out).2.2 | (with_reducible refine Kd.C_alloc ?_ _) | (with_reducible refine Kd.C_drewN ?_ _) | (with_reducible refine Kd.C_drew ?_)))
       (case side4 => exact (Kd.R_reads' HO_367001.out).2.1)
       rintro e w59 ⟨rfl, hb⟩
       refine ⟨_, rfl, ?_⟩
       have n0_ := Aside0.mk (Kd.R_below (rr_ HO_367000.out) hb)
       have n1_ := Aside0.mk (Kd.R_below (rr_ HO_367001.out) hb)
       have n2_ := Aside0.mk (blk_below (g := gb366) (o := .cells #[.slice Ao9 t359.length co9, .slice Ao11 t362.length co11] 25 (0, 0)) (bk_ BK366.out) hb)
       have n3_ := Aside0.mk (below_step (bs_ HB.out GE366.out) hb)
       clear HO_367000
       clear HO_367001
       clear BK366
       clear HB
       have HO_367000 := n0_
       have HO_367001 := n1_
       have BK366 := n2_
       have HB := n3_
       clear n0_ n1_ n2_ n3_
       (try clear hb)
       (try clear hb2)
       (try clear hk)
       (try clear hi)
       refine hK.out _ _ ⟨(blk_cell BK366.out 0).trans rfl, (blk_cell BK366.out 1).trans rfl⟩ (fun hHeld => ?_)
       clear hK K
       refine norm_ (a' := ?_) ?_ ?_
       rotate_left
       ·show Act.put _ (some 103) _ = _
        simp only [Act.put, List.setIfInBounds_toArray, List.set_cons_zero, List.set_cons_succ, i64_w, i32_w]
        rfl
       refine pure_ (i := 15) (N := some 107) (v := ?_) (a' := ?_) #[true, true, true, true, true, true, true, true, true, true, true, true, true, true, true, true, false, false] rfl rfl (any_of HT_.out (by kernel_rfl)) (fun _ _ _ h => h) (Or.inl ⟨by rfl, ?_⟩) ?_ ?_
       rotate_left
       ·intro w'
        go_simp
        with_reducible rfl
       rotate_left
       ·simp only [Act.put, List.setIfInBounds_toArray, List.set_cons_zero, List.set_cons_succ, i64_w, i32_w]
        rfl
       refine pure_ (i := 16) (N := some 108) (v := ?_) (a' := ?_) #[true, true, true, true, true, true, true, true, true, true, true, true, true, true, true, true, true, false] rfl rfl (any_of HT_.out (by kernel_rfl)) (fun _ _ _ h => h) (Or.inl ⟨by rfl, ?_⟩) ?_ ?_
       rotate_left
       ·intro w'
        go_simp
        with_reducible rfl
       rotate_left
       ·simp only [Act.put, List.setIfInBounds_toArray, List.set_cons_zero, List.set_cons_succ, i64_w, i32_w]
        rfl
       refine pure_ (i := 17) (N := some 2) (v := ?_) (a' := ?_) #[true, true, true, true, true, true, true, true, true, true, true, true, true, true, true, true, true, true] rfl rfl (any_of HT_.out (by kernel_rfl)) (fun _ _ _ h => h) (Or.inl ⟨by rfl, ?_⟩) ?_ ?_
       rotate_left
       ·intro w'
        go_simp
        with_reducible rfl
       rotate_left
       ·simp only [Act.put, List.setIfInBounds_toArray, List.set_cons_zero, List.set_cons_succ, i64_w, i32_w]
        rfl
       refine done_ (done_of HT_.out (by kernel_rfl)) ?_
       try go_wp2
       go_ret
       exact ⟨by first | rfl | (simp [errW_none, errW_some] <;> rfl) | (simp [*, errW_none, errW_some] <;> rfl), by repeat (first | (with_reducible first | exact HB.out | apply below_alloc | apply pw_below_drewN | apply below_drew1 | refine below_set ?_ GE366.out) | exact HB.out)⟩
      ·rw [if_neg c55] at H
       have c55b0 : (x6_1 == (wrap64 ((t362.length : Int) - 1))) = false := beq_eq_false_iff_ne.mpr c55
       have c55b1 : (x6_1 != (wrap64 ((t362.length : Int) - 1))) = true := bne_iff_ne.mpr c55
       exact absurd ((Option.some.inj H).trans HRT.out) (by decide)
     ·replace c54 := Bool.eq_false_iff.mpr c54
      subst c54
      have H1 : (some false) = some r := by rw [if_neg (show ¬ (false = true) by decide)] at H; exact H
      clear H
      have H := H1
      clear H1
      exact absurd ((Option.some.inj H).trans HRT.out) (by decide)
 ·rw [if_neg c5] at H
  have c5b0 : (t365 == 0) = false := beq_eq_false_iff_ne.mpr c5
  have c5b1 : (t365 != 0) = true := bne_iff_ne.mpr c5
  obtain rfl := Option.some.inj H
  go_enter Try.func5, Try.ntmps5
  go_wp2_with (first | ((with_reducible refine gate_callee (f := 9) rfl ?_); refine goesL_ (some 11) rfl rfl Try.func9 (by kernel_rfl) rfl #[] rfl ar_ ?_; (with_reducible refine (topiarylaw15_awake.calls k  t357 _ A2.out).mono ?_); rintro e w64 ⟨rfl, hb⟩; refine ⟨_, rfl, ?_⟩; have n0_ := Aside0.mk (below_step (bb_ HB.out) hb); clear HB; have HB := n0_; clear n0_; (try clear hb); (try clear hb2); (try clear hk); (try clear hi)) | ((with_reducible refine gate_callee (f := 29) rfl ?_); refine goesL_ (some 14) rfl rfl Try.func29 (by kernel_rfl) rfl #[.string a0, .int .i64 200] rfl ar_ ?_; (with_reducible refine (topiarylaw15_short.calls a0 200 t358 _ A3.out).mono ?_); rintro e w' ⟨rfl, ⟨nd, rfl⟩⟩; refine ⟨_, rfl, ?_⟩; (try (rw [drewN_self w64]; generalize hq_ : World.drewN w64 _ = w64; have n0_ : Aside0 (Below w.heap.size w w64) := ⟨by rw [← hq_]; exact (bb_ HB.out)⟩; clear HB hq_; have HB := n0_; clear n0_))) | ((with_reducible refine gate_callee (f := 28) rfl ?_); refine goesL_ (some 15) rfl rfl Try.func28 (by kernel_rfl) rfl #[.string t358] rfl ar_ ?_; (with_reducible refine (topiaryref13_Parse.calls k t358 t359 t362 t365 _ A4.out).mono ?_); rintro e w65 ⟨v360, v363, rfl, ho0, ho1, hb⟩; refine ⟨_, rfl, ?_⟩; have n0_ := Aside0.mk (Kd.R_lower ho0 (below_size (bb_ HB.out))); have n1_ := Aside0.mk (Kd.R_lower ho1 (below_size (bb_ HB.out))); have n2_ := Aside0.mk (below_step (bb_ HB.out) hb); clear HB; have HO361 := n0_; have HO364 := n1_; have HB := n2_; clear n0_ n1_ n2_; (try clear hb); (try clear hb2); (try clear hk); (try clear hi); (try clear ho0); (try clear ho1)) | ((with_reducible refine gate_dst (N := 4) rfl ?_); (try (refine gate_guard (by rfl) ?_; dsimp only)); refine box_event ?hg (N := 4) ?hd (cs := #[.slice none 0 0, .slice none 0 0]) (t := 25) ?hr ?_; (case hd => rfl); (case hg => rfl); (case hr => first | (go_simp; done) | (go_simp; rfl)); intro gb366 hg w66 hbox hb; have n0_ := Aside0.mk (Kd.R_below (rr_ HO361.out) hb); have n1_ := Aside0.mk (Kd.R_below (rr_ HO364.out) hb); have n2_ := Aside0.mk (below_step (bb_ HB.out) hb); have n3_ := Aside0.mk (hbox); have n4_ := Aside0.mk ((by rw [hg]; exact (below_size (bb_ HB.out)) : w.heap.size ≤ gb366)); have n5_ := Aside0.mk ((by rw [hg]; exact (below_size (bb_ HB.out)) : w.heap.size ≤ gb366)); clear HO361; clear HO364; clear HB; have HO361 := n0_; have HO364 := n1_; have HB := n2_; have BK366 := n3_; have GW366 := n4_; have GE366 := n5_; clear n0_ n1_ n2_ n3_ n4_ n5_; clear hb hbox hg; obtain ⟨Ao67, co67, eo67⟩ := Kd.R_slice HO361.out; subst eo67; have hcz68_0 : w66.cell? ⟨gb366, 0, none⟩ = some (.slice none 0 0) := (blk_cell BK366.out 0).trans rfl; have hcz68_1 : w66.cell? ⟨gb366, 1, none⟩ = some (.slice none 0 0) := (blk_cell BK366.out 1).trans rfl; have hfz68_0 := blk_frozen BK366.out 0; have hfz68_1 := blk_frozen BK366.out 1; obtain ⟨Ao69, co69, eo69⟩ := Kd.R_slice HO364.out; subst eo69))
  go_ret
  exact ⟨by first | rfl | (simp [errW_none, errW_some] <;> rfl) | (simp [*, errW_none, errW_some] <;> rfl), by repeat (first | (with_reducible first | exact HB.out | apply below_alloc | apply pw_below_drewN | apply below_drew1 | refine below_set ?_ GE366.out) | exact HB.out)⟩
end Go.Proofs.Ytoanmoddppmffaa.T
