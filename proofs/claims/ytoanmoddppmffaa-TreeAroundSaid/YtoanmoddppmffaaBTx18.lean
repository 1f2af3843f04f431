/- What each function of the program comes to, and its walk: laid by a program. -/
import Derived.Test.YtoanmoddppmffaaBTx0
import Derived.Test.YtoanmoddppmffaaBTx1
import Derived.Test.YtoanmoddppmffaaBTx3
import Derived.Test.YtoanmoddppmffaaBTx14
import Derived.Test.YtoanmoddppmffaaBTx15
import Derived.Test.YtoanmoddppmffaaBTx16
import Derived.Test.YtoanmoddppmffaaBTx17
namespace Go.Proofs.Ytoanmoddppmffaa.T
open Go.RowKit Go.Proofs.YtoanmoddppmffaaW.PrintWords Go.Proofs.YtoanmoddppmffaaW.PrintLast Go.Proofs.YtoanmoddppmffaaW.PrintMore
set_option linter.unusedVariables false
set_option linter.unusedSimpArgs false
mutual
def topiarylaw15_TreeAround.j0 : Nat → Int → Bool → List Int → Int → Bool → List ByteArray → List (S52) → Option (Bool)
 | 0, _, _, _, _, _, _, _ => none
 | k + 1, x1, x5, x6, x7, x23, x387000, x387001 => if x23 = true then (topiarylaw15_TreeAround.j1 k x1 x5 x6 (x6.length : Int) x387000 x387001) else (topiarylaw15_TreeAround.j1 k x1 x5 x6 x7 x387000 x387001)
def topiarylaw15_TreeAround.j1 : Nat → Int → Bool → List Int → Int → List ByteArray → List (S52) → Option (Bool)
 | 0, _, _, _, _, _, _ => none
 | k + 1, x1, x5, x6, x7, x387000, x387001 => (tree_Up.f x387000 x387001 x1).bind fun t397 => ((topiaryref02_Same.f k t397 x6).bind fun t400 => (if x5 = true then (if t400 = true then ((tree_Depth.f x387000 x387001 x1).bind fun t401 => (if t401 = x7 then ((tree_End.f k x387000 x387001 x1).bind fun t402 => ((topiaryref15_End.f k x387000 x387001 x1).bind fun t403 => (some (t402 == t403)))) else (some false))) else (some false)) else (some false)))
end
def topiarylaw15_TreeAround.f (k : Nat) (l0_0 : List ByteArray) (l0_1 : List (S52)) (a1 : Int) : Option (Bool) := (topiarylaw15_awake.f k).bind fun t387 => ((topiarylaw15_small.f k l0_0 l0_1).bind fun bt388 => ((topiaryref15_Up.f k bt388.1 bt388.2 a1).bind fun t394 => (if a1 ≥ 0 then (topiarylaw15_TreeAround.j0 k a1 t387 t394 (-1) (decide (a1 < (bt388.2.length : Int))) bt388.1 bt388.2) else (topiarylaw15_TreeAround.j0 k a1 t387 t394 (-1) false bt388.1 bt388.2))))
def topiarylaw15_TreeAround.T8 : Bool × List (List Nat × List Nat) := (true, [([], []), ([0], [0]), ([1], [1]), ([1, 2], [1, 2]), ([3, 1], [3]), ([4], [4]), ([4], [4]), ([5, 6, 4, 4], [4, 5, 6]), ([4], [4]), ([7, 8, 4], [4, 7, 8]), ([4, 9], [4, 9]), ([10, 7], [10]), ([11], [11]), ([11], [11]), ([12, 13, 11, 11], [11, 12, 13]), ([11], [11]), ([11], [11]), ([15, 16, 14, 11], [11, 15, 16]), ([14, 17, 11], [11, 14, 17]), ([11, 18], [11, 18]), ([19, 17, 0, 1, 2, 3, 4, 5, 6, 7, 8, 9, 10, 11, 12, 13, 14, 15, 16, 17, 18, 19], [19])])
def topiarylaw15_TreeAround.B8 : List Nat := [0, 1, 3, 7, 15, 31, 31, 127, 31, 511, 1023, 2047, 4095, 4095, 16383, 4095, 4095, 131071, 262143, 524287, 1048575]
theorem topiarylaw15_TreeAround.tab8 : rtab .any (opsOf Try.f4 8) = topiarylaw15_TreeAround.T8 := by kernel_rfl
theorem topiarylaw15_TreeAround.bits8 : waitsOk topiarylaw15_TreeAround.T8.2 topiarylaw15_TreeAround.B8 = true := by kernel_rfl
set_option maxHeartbeats 8000000 in
set_option maxRecDepth 100000 in
theorem topiarylaw15_TreeAround.calls (k : Nat) (A0_0 : Option Addr) (c0_0 : Nat) (l0_0 : List ByteArray) (A0_1 : Option Addr) (c0_1 : Nat) (l0_1 : List (S52)) (a1 : Int) (r : Bool) (w : World) (hr0_0 : Kd.C Kd.string w A0_0 l0_0.length l0_0) (hc0_0 : l0_0.length ≤ c0_0) (hr0_1 : Kd.C k52 w A0_1 l0_1.length l0_1) (hc0_1 : l0_1.length ≤ c0_1) (h : topiarylaw15_TreeAround.f k l0_0 l0_1 a1 = some r) :
  Calls Try.prog 4 #[.agg #[.slice A0_0 l0_0.length c0_0, .slice A0_1 l0_1.length c0_1], .int .i64 a1] w fun e w' => e = .returned (.bool r) ∧ Below w.heap.size w w' := by
 have hu25 := Try.underlying25
 have HR0_0 := Aside0.mk hr0_0
 have HC0_0 := Aside0.mk hc0_0
 clear hr0_0 hc0_0
 have HR0_1 := Aside0.mk hr0_1
 have HC0_1 := Aside0.mk hc0_1
 clear hr0_1 hc0_1
 have HB := Aside0.mk (Below.refl w.heap.size w)
 have H : ((topiarylaw15_awake.f k).bind fun t387 => ((topiarylaw15_small.f k l0_0 l0_1).bind fun bt388 => ((topiaryref15_Up.f k bt388.1 bt388.2 a1).bind fun t394 => (if a1 ≥ 0 then (topiarylaw15_TreeAround.j0 k a1 t387 t394 (-1) (decide (a1 < (bt388.2.length : Int))) bt388.1 bt388.2) else (topiarylaw15_TreeAround.j0 k a1 t387 t394 (-1) false bt388.1 bt388.2))))) = some r := h
 clear h
 replace H := Option.bind_eq_some_iff.mp H
 obtain ⟨t387, A30, H⟩ := H
 replace H : ((topiarylaw15_small.f k l0_0 l0_1).bind fun bt388 => ((topiaryref15_Up.f k bt388.1 bt388.2 a1).bind fun t394 => (if a1 ≥ 0 then (topiarylaw15_TreeAround.j0 k a1 t387 t394 (-1) (decide (a1 < (bt388.2.length : Int))) bt388.1 bt388.2) else (topiarylaw15_TreeAround.j0 k a1 t387 t394 (-1) false bt388.1 bt388.2)))) = some r := H
 have A3 := Aside0.mk A30
 clear A30
 replace H := Option.bind_eq_some_iff.mp H
 obtain ⟨⟨t388, t391⟩, A40, H⟩ := H
 replace H : ((topiaryref15_Up.f k t388 t391 a1).bind fun t394 => (if a1 ≥ 0 then (topiarylaw15_TreeAround.j0 k a1 t387 t394 (-1) (decide (a1 < (t391.length : Int))) t388 t391) else (topiarylaw15_TreeAround.j0 k a1 t387 t394 (-1) false t388 t391))) = some r := H
 have A4 := Aside0.mk A40
 clear A40
 replace H := Option.bind_eq_some_iff.mp H
 obtain ⟨t394, A50, H⟩ := H
 replace H : (if a1 ≥ 0 then (topiarylaw15_TreeAround.j0 k a1 t387 t394 (-1) (decide (a1 < (t391.length : Int))) t388 t391) else (topiarylaw15_TreeAround.j0 k a1 t387 t394 (-1) false t388 t391)) = some r := H
 have A5 := Aside0.mk A50
 clear A50
 have HC6 := Aside0.mk H
 clear H
 go_enter Try.func4, Try.ntmps4
 go_upto_region 5 with (first | ((with_reducible refine gate_dst (N := 2) rfl ?_); (try (refine gate_guard (by rfl) ?_; dsimp only)); refine box_event ?hg (N := 2) ?hd (cs := #[.slice A0_0 l0_0.length c0_0, .slice A0_1 l0_1.length c0_1]) (t := 25) ?hr ?_; (case hd => rfl); (case hg => rfl); (case hr => first | (go_simp; done) | (go_simp; rfl)); intro gb386 hg w7 hbox hb; have n0_ := Aside0.mk (below_step (bb_ HB.out) hb); have n1_ := Aside0.mk (hbox); have n2_ := Aside0.mk ((by rw [hg]; exact (below_size (bb_ HB.out)) : w.heap.size ≤ gb386)); have n3_ := Aside0.mk ((by rw [hg]; exact (below_size (bb_ HB.out)) : w.heap.size ≤ gb386)); clear HB; have HB := n0_; have BK386 := n1_; have GW386 := n2_; have GE386 := n3_; clear n0_ n1_ n2_ n3_; clear hb hbox hg) | ((with_reducible refine gate_callee (f := 9) rfl ?_); refine goesL_ (some 9) rfl rfl Try.func9 (by kernel_rfl) rfl #[] rfl ar_ ?_; (with_reducible refine (topiarylaw15_awake.calls k  t387 _ A3.out).mono ?_); rintro e w8 ⟨rfl, hb⟩; refine ⟨_, rfl, ?_⟩; have n0_ := Aside0.mk (blk_below (g := gb386) (o := .cells #[.slice A0_0 l0_0.length c0_0, .slice A0_1 l0_1.length c0_1] 25 (0, 0)) (bk_ BK386.out) hb); have n1_ := Aside0.mk (below_step (bs_ HB.out GE386.out) hb); clear BK386; clear HB; have BK386 := n0_; have HB := n1_; clear n0_ n1_; (try clear hb); (try clear hb2); (try clear hk); (try clear hi); have hcz9_0 : w8.cell? ⟨gb386, 0, none⟩ = some (.slice A0_0 l0_0.length c0_0) := (blk_cell BK386.out 0).trans rfl; have hcz9_1 : w8.cell? ⟨gb386, 1, none⟩ = some (.slice A0_1 l0_1.length c0_1) := (blk_cell BK386.out 1).trans rfl; have hfz9_0 := blk_frozen BK386.out 0; have hfz9_1 := blk_frozen BK386.out 1) | ((with_reducible refine gate_callee (f := 10) rfl ?_); refine goesL_ (some 11) rfl rfl Try.func10 (by kernel_rfl) rfl #[.agg #[.slice A0_0 l0_0.length c0_0, .slice A0_1 l0_1.length c0_1]] rfl ar_ ?_; (with_reducible refine (topiarylaw15_small.calls k _ _ l0_0 _ _ l0_1 t388 t391 _ ?side1 ?side2 ?side3 ?side4 A4.out).mono ?_); (case side1 => repeat (first | exact (Kd.C_below HR0_0.out HB.out) | (with_reducible refine Kd.C_alloc ?_ _) | (with_reducible refine Kd.C_drewN ?_ _) | (with_reducible refine Kd.C_drew ?_))); (case side2 => exact HC0_0.out); (case side3 => repeat (first | exact (Kd.C_below HR0_1.out HB.out) | (with_reducible refine Kd.C_alloc ?_ _) | (with_reducible refine Kd.C_drewN ?_ _) | (with_reducible refine Kd.C_drew ?_))); (case side4 => exact HC0_1.out); rintro e w10 ⟨v389, v392, rfl, ho0, ho1, hb⟩; refine ⟨_, rfl, ?_⟩; have n0_ := Aside0.mk (Kd.R_lower ho0 (below_size (bs_ HB.out GE386.out))); have n1_ := Aside0.mk (Kd.R_lower ho1 (below_size (bs_ HB.out GE386.out))); have n2_ := Aside0.mk (blk_below (g := gb386) (o := .cells #[.slice A0_0 l0_0.length c0_0, .slice A0_1 l0_1.length c0_1] 25 (0, 0)) (bk_ BK386.out) hb); have n3_ := Aside0.mk (below_step (bs_ HB.out GE386.out) hb); clear BK386; clear HB; have HO390 := n0_; have HO393 := n1_; have BK386 := n2_; have HB := n3_; clear n0_ n1_ n2_ n3_; (try clear hb); (try clear hb2); (try clear hk); (try clear hi); (try clear ho0); (try clear ho1); obtain ⟨Ao11, co11, eo11⟩ := Kd.R_slice HO390.out; subst eo11; have hcz12_0 : w10.cell? ⟨gb386, 0, none⟩ = some (.slice A0_0 l0_0.length c0_0) := (blk_cell BK386.out 0).trans rfl; have hcz12_1 : w10.cell? ⟨gb386, 1, none⟩ = some (.slice A0_1 l0_1.length c0_1) := (blk_cell BK386.out 1).trans rfl; have hfz12_0 := blk_frozen BK386.out 0; have hfz12_1 := blk_frozen BK386.out 1; obtain ⟨Ao13, co13, eo13⟩ := Kd.R_slice HO393.out; subst eo13) | ((with_reducible refine gate_callee (f := 23) rfl ?_); refine goesL_ (some 14) rfl rfl Try.func23 (by kernel_rfl) rfl #[.agg #[.slice Ao11 t388.length co11, .slice Ao13 t391.length co13], .int .i64 a1] rfl ar_ ?_; (with_reducible refine (topiaryref15_Up.calls k _ _ t388 _ _ t391 a1 t394 _ ?side1 ?side2 ?side3 ?side4 A5.out).mono ?_); (case side1 => refine (Kd.R_reads' (e := 9) (base := w.heap.size) (ok := fun k_ => True) (n := t388.length) (c := co11) ?_).2.2; exact (by (with_reducible repeat (first | apply Kd.R_alloc | apply Kd.R_drewN | apply Kd.R_drew)); exact (Kd.R_mono (Kd.R_far (p := ⟨gb386, 1, none⟩) (Kd.R_far (p := ⟨gb386, 0, none⟩) (Kd.R_types HO390.out BK386.out (by decide)) (fun _ hk => hk.2) (.slice Ao11 t388.length co11)) (fun _ hk => hk.2) (.slice Ao13 t391.length co13)) (fun _ h_ => h_.1)))); (case side2 => exact (Kd.R_reads' HO390.out).2.1); (case side3 => refine (Kd.R_reads' (e := 52) (base := w.heap.size) (ok := fun k_ => True) (n := t391.length) (c := co13) ?_).2.2; exact (by (with_reducible repeat (first | apply Kd.R_alloc | apply Kd.R_drewN | apply Kd.R_drew)); exact (Kd.R_mono (Kd.R_far (p := ⟨gb386, 1, none⟩) (Kd.R_far (p := ⟨gb386, 0, none⟩) (Kd.R_types HO393.out BK386.out (by decide)) (fun _ hk => hk.2) (.slice Ao11 t388.length co11)) (fun _ hk => hk.2) (.slice Ao13 t391.length co13)) (fun _ h_ => h_.1)))); (case side4 => exact (Kd.R_reads' HO393.out).2.1); rintro e w14 ⟨v395, rfl, ho0, hb⟩; refine ⟨_, rfl, ?_⟩; have n0_ := Aside0.mk (Kd.R_below (by (with_reducible repeat (first | apply Kd.R_alloc | apply Kd.R_drewN | apply Kd.R_drew)); exact (Kd.R_mono (Kd.R_far (p := ⟨gb386, 1, none⟩) (Kd.R_far (p := ⟨gb386, 0, none⟩) (Kd.R_types HO390.out BK386.out (by decide)) (fun _ hk => hk.2) (.slice Ao11 t388.length co11)) (fun _ hk => hk.2) (.slice Ao13 t391.length co13)) (fun _ h_ => h_.1))) hb); have n1_ := Aside0.mk (Kd.R_below (by (with_reducible repeat (first | apply Kd.R_alloc | apply Kd.R_drewN | apply Kd.R_drew)); exact (Kd.R_mono (Kd.R_far (p := ⟨gb386, 1, none⟩) (Kd.R_far (p := ⟨gb386, 0, none⟩) (Kd.R_types HO393.out BK386.out (by decide)) (fun _ hk => hk.2) (.slice Ao11 t388.length co11)) (fun _ hk => hk.2) (.slice Ao13 t391.length co13)) (fun _ h_ => h_.1))) hb); have n2_ := Aside0.mk (Kd.R_lower ho0 (below_size (bs_ HB.out GE386.out))); have n3_ := Aside0.mk (blk_below (g := gb386) (o := .cells #[.slice Ao11 t388.length co11, .slice Ao13 t391.length co13] 25 (0, 0)) (by (with_reducible repeat (first | refine blk_drewN ?_ _ | refine blk_drew ?_ | refine blk_alloc ?_ _)); refine blk_put (cs := #[.slice Ao11 t388.length co11, .slice A0_1 l0_1.length c0_1]) ?_ 1 _ rfl; (with_reducible repeat (first | refine blk_drewN ?_ _ | refine blk_drew ?_ | refine blk_alloc ?_ _)); refine blk_put (cs := #[.slice A0_0 l0_0.length c0_0, .slice A0_1 l0_1.length c0_1]) ?_ 0 _ rfl; exact bk_ BK386.out) hb); have n4_ := Aside0.mk (below_step (bs_ HB.out GE386.out) hb); clear HO390; clear HO393; clear BK386; clear HB; have HO390 := n0_; have HO393 := n1_; have HO396 := n2_; have BK386 := n3_; have HB := n4_; clear n0_ n1_ n2_ n3_ n4_; (try clear hb); (try clear hb2); (try clear hk); (try clear hi); (try clear ho0)))
 (try simp only [Act.put, List.setIfInBounds_toArray, List.set_cons_zero, List.set_cons_succ])
 go_cut [23] (fun v23 wc => ∃ (kq : Nat) (x23_5 : Bool), v23 = .bool x23_5 ∧ Aside0 (topiarylaw15_TreeAround.j0 kq a1 t387 t394 (-1) x23_5 t388 t391 = some r) ∧ Aside0 (kq ≤ k) ∧ Aside0 (Kd.R (Kd.int .i64) 3 wc w.heap.size (fun _ => True) v395 t394) ∧ Aside0 (Kd.R Kd.string 9 wc w.heap.size (fun _ => True) (.slice Ao11 t388.length co11) t388) ∧ Aside0 (Kd.R k52 52 wc w.heap.size (fun _ => True) (.slice Ao13 t391.length co13) t391) ∧ Aside0 (wc.heap[gb386]? = some (.cells #[(.slice Ao11 t388.length co11), (.slice Ao13 t391.length co13)] 25 (0, 0))) ∧ Aside0 (Below w.heap.size w wc))
 case first =>
  have H := HC6.out
  clear HC6
  by_cases c15 : a1 ≥ 0
  ·rw [if_pos c15] at H
   have c15b0 : decide (0 ≤ a1) = true := decide_eq_true c15
   clear c15
   (first | rw [c15b0] | (simp only [i64_w, i32_w]; rw [c15b0]) | skip)
   have H' := Aside0.mk H
   clear H
   have hcz16_0 : w14.cell? ⟨gb386, 0, none⟩ = some (.slice Ao11 t388.length co11) := (blk_cell BK386.out 0).trans rfl
   have hcz16_1 : w14.cell? ⟨gb386, 1, none⟩ = some (.slice Ao13 t391.length co13) := (blk_cell BK386.out 1).trans rfl
   have hfz16_0 := blk_frozen BK386.out 0
   have hfz16_1 := blk_frozen BK386.out 1
   go_wp2
   go_meet
   case rel => exact ⟨_, (decide (a1 < (t391.length : Int))), sm_, H', ⟨by first | omega | exact Nat.le_refl _⟩, ⟨by exact rr_ HO396.out⟩, ⟨by exact rr_ HO390.out⟩, ⟨by exact rr_ HO393.out⟩, ⟨by exact bk_ BK386.out⟩, ⟨by repeat (first | (with_reducible first | exact HB.out | apply below_alloc | apply pw_below_drewN | apply below_drew1 | refine below_set ?_ GE386.out) | exact HB.out)⟩⟩
  ·rw [if_neg c15] at H
   have c15b0 : decide (0 ≤ a1) = false := decide_eq_false c15
   clear c15
   (first | rw [c15b0] | (simp only [i64_w, i32_w]; rw [c15b0]) | skip)
   have H' := Aside0.mk H
   clear H
   go_wp2
   go_meet
   case rel => exact ⟨_, (false), sm_, H', ⟨by first | omega | exact Nat.le_refl _⟩, ⟨by exact rr_ HO396.out⟩, ⟨by exact rr_ HO390.out⟩, ⟨by exact rr_ HO393.out⟩, ⟨by exact bk_ BK386.out⟩, ⟨by repeat (first | (with_reducible first | exact HB.out | apply below_alloc | apply pw_below_drewN | apply below_drew1 | refine below_set ?_ GE386.out) | exact HB.out)⟩⟩
 case rest =>
  clear HC6
  try clear c1
  try clear c2
  try clear p2
  try clear c4
  try clear c9
  try clear c10
  try clear c15
  try clear c15b0
  try clear hcz12_0
  try clear hcz12_1
  try clear hcz16_0
  try clear hcz16_1
  try clear hcz9_0
  try clear hcz9_1
  try clear hfz12_0
  try clear hfz12_1
  try clear hfz16_0
  try clear hfz16_1
  try clear hfz9_0
  try clear hfz9_1
  obtain ⟨kq, x23_5, rfl, HA, HJ5, HO_6, HO_387000, HO_387001, BK386, HB⟩ := hcut
  cases kq with
  | zero => exact absurd HA.out (by simp [topiarylaw15_TreeAround.j0])
  | succ kj5 =>
   have H := HA.out
   clear HA
   simp only [topiarylaw15_TreeAround.j0] at H
   have HC17 := Aside0.mk H
   clear H
   go_upto_if 23 with (fail)
   go_cut [7] (fun v7 wc => ∃ (kq : Nat) (x7_16 : Int), v7 = .int .i64 x7_16 ∧ Aside0 (topiarylaw15_TreeAround.j1 kq a1 t387 t394 x7_16 t388 t391 = some r) ∧ Aside0 (kq ≤ kj5) ∧ Aside0 (Kd.R (Kd.int .i64) 3 wc w.heap.size (fun _ => True) v395 t394) ∧ Aside0 (Kd.R Kd.string 9 wc w.heap.size (fun _ => True) (.slice Ao11 t388.length co11) t388) ∧ Aside0 (Kd.R k52 52 wc w.heap.size (fun _ => True) (.slice Ao13 t391.length co13) t391) ∧ Aside0 (wc.heap[gb386]? = some (.cells #[(.slice Ao11 t388.length co11), (.slice Ao13 t391.length co13)] 25 (0, 0))) ∧ Aside0 (Below w.heap.size w wc))
   case first =>
    have H := HC17.out
    clear HC17
    by_cases c18 : x23_5 = true
    ·subst c18
     have H1 : (topiarylaw15_TreeAround.j1 kj5 a1 t387 t394 (t394.length : Int) t388 t391) = some r := by rw [if_pos rfl] at H; exact H
     clear H
     have H := H1
     clear H1
     have H' := Aside0.mk H
     clear H
     obtain ⟨Ao19, co19, eo19⟩ := Kd.R_slice HO_6.out
     subst eo19
     go_wp2
     go_meet
     case rel => exact ⟨_, ((t394.length : Int)), sm_, H', ⟨by have := HJ5.out; first | omega | exact Nat.le_refl _⟩, ⟨by exact rr_ HO_6.out⟩, ⟨by exact rr_ HO_387000.out⟩, ⟨by exact rr_ HO_387001.out⟩, ⟨by exact bk_ BK386.out⟩, ⟨by repeat (first | (with_reducible first | exact HB.out | apply below_alloc | apply pw_below_drewN | apply below_drew1 | refine below_set ?_ GE386.out) | exact HB.out)⟩⟩
    ·replace c18 := Bool.eq_false_iff.mpr c18
     subst c18
     have H1 : (topiarylaw15_TreeAround.j1 kj5 a1 t387 t394 (-1) t388 t391) = some r := by rw [if_neg (show ¬ (false = true) by decide)] at H; exact H
     clear H
     have H := H1
     clear H1
     have H' := Aside0.mk H
     clear H
     go_wp2
     go_meet
     case rel => exact ⟨_, ((-1)), sm_, H', ⟨by have := HJ5.out; first | omega | exact Nat.le_refl _⟩, ⟨by exact rr_ HO_6.out⟩, ⟨by exact rr_ HO_387000.out⟩, ⟨by exact rr_ HO_387001.out⟩, ⟨by exact bk_ BK386.out⟩, ⟨by repeat (first | (with_reducible first | exact HB.out | apply below_alloc | apply pw_below_drewN | apply below_drew1 | refine below_set ?_ GE386.out) | exact HB.out)⟩⟩
   case rest =>
    clear HC17
    try clear c1
    try clear c2
    try clear p2
    try clear c4
    try clear c9
    try clear c10
    try clear c15
    try clear c15b0
    try clear c18
    try clear hcz12_0
    try clear hcz12_1
    try clear hcz16_0
    try clear hcz16_1
    try clear hcz9_0
    try clear hcz9_1
    try clear hfz12_0
    try clear hfz12_1
    try clear hfz16_0
    try clear hfz16_1
    try clear hfz9_0
    try clear hfz9_1
    try clear p2
    obtain ⟨kq, x7_16, rfl, HA, HJ16, HO_6, HO_387000, HO_387001, BK386, HB⟩ := hcut
    cases kq with
    | zero => exact absurd HA.out (by simp [topiarylaw15_TreeAround.j1])
    | succ kj16 =>
     have H := HA.out
     clear HA
     simp only [topiarylaw15_TreeAround.j1] at H
     replace H := Option.bind_eq_some_iff.mp H
     obtain ⟨t397, A200, H⟩ := H
     replace H : ((topiaryref02_Same.f kj16 t397 t394).bind fun t400 => (if t387 = true then (if t400 = true then ((tree_Depth.f t388 t391 a1).bind fun t401 => (if t401 = x7_16 then ((tree_End.f kj16 t388 t391 a1).bind fun t402 => ((topiaryref15_End.f kj16 t388 t391 a1).bind fun t403 => (some (t402 == t403)))) else (some false))) else (some false)) else (some false))) = some r := H
     have A20 := Aside0.mk A200
     clear A200
     replace H := Option.bind_eq_some_iff.mp H
     obtain ⟨t400, A210, H⟩ := H
     replace H : (if t387 = true then (if t400 = true then ((tree_Depth.f t388 t391 a1).bind fun t401 => (if t401 = x7_16 then ((tree_End.f kj16 t388 t391 a1).bind fun t402 => ((topiaryref15_End.f kj16 t388 t391 a1).bind fun t403 => (some (t402 == t403)))) else (some false))) else (some false)) else (some false)) = some r := H
     have A21 := Aside0.mk A210
     clear A210
     by_cases c22 : t387 = true
     ·subst c22
      have H1 : (if t400 = true then ((tree_Depth.f t388 t391 a1).bind fun t401 => (if t401 = x7_16 then ((tree_End.f kj16 t388 t391 a1).bind fun t402 => ((topiaryref15_End.f kj16 t388 t391 a1).bind fun t403 => (some (t402 == t403)))) else (some false))) else (some false)) = some r := by rw [if_pos rfl] at H; exact H
      clear H
      have H := H1
      clear H1
      by_cases c23 : t400 = true
      ·subst c23
       have H1 : ((tree_Depth.f t388 t391 a1).bind fun t401 => (if t401 = x7_16 then ((tree_End.f kj16 t388 t391 a1).bind fun t402 => ((topiaryref15_End.f kj16 t388 t391 a1).bind fun t403 => (some (t402 == t403)))) else (some false))) = some r := by rw [if_pos rfl] at H; exact H
       clear H
       have H := H1
       clear H1
       replace H := Option.bind_eq_some_iff.mp H
       obtain ⟨t401, A240, H⟩ := H
       replace H : (if t401 = x7_16 then ((tree_End.f kj16 t388 t391 a1).bind fun t402 => ((topiaryref15_End.f kj16 t388 t391 a1).bind fun t403 => (some (t402 == t403)))) else (some false)) = some r := H
       have A24 := Aside0.mk A240
       clear A240
       by_cases c25 : t401 = x7_16
       ·rw [if_pos c25] at H
        have c25b0 : (t401 == x7_16) = true := beq_iff_eq.mpr c25
        have c25b1 : (t401 != x7_16) = false := bne_eq_false_iff_eq.mpr c25
        clear c25
        replace H := Option.bind_eq_some_iff.mp H
        obtain ⟨t402, A260, H⟩ := H
        replace H : ((topiaryref15_End.f kj16 t388 t391 a1).bind fun t403 => (some (t402 == t403))) = some r := H
        have A26 := Aside0.mk A260
        clear A260
        replace H := Option.bind_eq_some_iff.mp H
        obtain ⟨t403, A270, H⟩ := H
        replace H : (some (t402 == t403)) = some r := H
        have A27 := Aside0.mk A270
        clear A270
        obtain rfl := Option.some.inj H
        have hcz28_0 : wc.cell? ⟨gb386, 0, none⟩ = some (.slice Ao11 t388.length co11) := (blk_cell BK386.out 0).trans rfl
        have hcz28_1 : wc.cell? ⟨gb386, 1, none⟩ = some (.slice Ao13 t391.length co13) := (blk_cell BK386.out 1).trans rfl
        have hfz28_0 := blk_frozen BK386.out 0
        have hfz28_1 := blk_frozen BK386.out 1
        try go_wp2_with (first | ((with_reducible refine gate_callee (f := 24) rfl ?_); refine goesL_ (some 28) rfl rfl Try.func24 (by kernel_rfl) rfl #[.agg #[.slice Ao11 t388.length co11, .slice Ao13 t391.length co13], .int .i64 a1] rfl ar_ ?_; (with_reducible refine (tree_Up.calls _ _ t388 _ _ t391 a1 t397 _ ?side1 ?side2 ?side3 ?side4 A20.out).mono ?_); (case side1 => repeat (first | exact (Kd.R_reads' HO_387000.out).2.2 | (with_reducible refine Kd.C_alloc ?_ _) | (with_reducible refine Kd.C_drewN ?_ _) | (with_reducible refine Kd.C_drew ?_))); (case side2 => exact (Kd.R_reads' HO_387000.out).2.1); (case side3 => repeat (first | exact (Kd.R_reads' HO_387001.out).2.2 | (with_reducible refine Kd.C_alloc ?_ _) | (with_reducible refine Kd.C_drewN ?_ _) | (with_reducible refine Kd.C_drew ?_))); (case side4 => exact (Kd.R_reads' HO_387001.out).2.1); rintro e w29 ⟨v398, rfl, ho0, hb⟩; refine ⟨_, rfl, ?_⟩; have n0_ := Aside0.mk (Kd.R_elder' (rr_ HO_6.out) (Kd.R_base ho0) hb); have n1_ := Aside0.mk (Kd.R_below (rr_ HO_387000.out) hb); have n2_ := Aside0.mk (Kd.R_below (rr_ HO_387001.out) hb); have n3_ := Aside0.mk (Kd.R_lower (Kd.R_new' ho0 (Kd.R_lt (rr_ HO_6.out))) (below_size (bs_ HB.out GE386.out))); have n4_ := Aside0.mk (blk_below (g := gb386) (o := .cells #[.slice Ao11 t388.length co11, .slice Ao13 t391.length co13] 25 (0, 0)) (bk_ BK386.out) hb); have n5_ := Aside0.mk (below_step (bs_ HB.out GE386.out) hb); clear HO_6; clear HO_387000; clear HO_387001; clear BK386; clear HB; have HO_6 := n0_; have HO_387000 := n1_; have HO_387001 := n2_; have HO399 := n3_; have BK386 := n4_; have HB := n5_; clear n0_ n1_ n2_ n3_ n4_ n5_; (try clear hb); (try clear hb2); (try clear hk); (try clear hi); (try clear ho0); obtain ⟨Ao30, co30, eo30⟩ := Kd.R_slice HO399.out; subst eo30; obtain ⟨Ao31, co31, eo31⟩ := Kd.R_slice HO_6.out; subst eo31) | ((with_reducible refine gate_callee (f := 13) rfl ?_); refine goesL_ (some 30) rfl rfl Try.func13 (by kernel_rfl) rfl #[.slice Ao30 t397.length co30, .slice Ao31 t394.length co31] rfl ar_ ?_; (with_reducible refine (topiaryref02_Same.calls kj16 _ _ t397 _ _ t394 true _ ?side1 ?side2 ?side3 ?side4 A21.out).mono ?_); (case side1 => repeat (first | exact (Kd.R_reads' HO399.out).2.2 | (with_reducible refine Kd.C_alloc ?_ _) | (with_reducible refine Kd.C_drewN ?_ _) | (with_reducible refine Kd.C_drew ?_))); (case side2 => exact (Kd.R_reads' HO399.out).2.1); (case side3 => repeat (first | exact (Kd.R_reads' HO_6.out).2.2 | (with_reducible refine Kd.C_alloc ?_ _) | (with_reducible refine Kd.C_drewN ?_ _) | (with_reducible refine Kd.C_drew ?_))); (case side4 => exact (Kd.R_reads' HO_6.out).2.1); rintro e w' ⟨rfl, ⟨nd, rfl⟩⟩; refine ⟨_, rfl, ?_⟩))
        (try (rw [drewN_self w29]; generalize hq_ : World.drewN w29 _ = w29; have n0_ : Aside0 (Kd.R (Kd.int .i64) 3 w29 w.heap.size (fun k_ => some k_ ≠ (.slice Ao31 t394.length co31 : Value).ownBlock) (.slice Ao30 t397.length co30) t397) := ⟨by rw [← hq_]; exact (by (with_reducible repeat (first | apply Kd.R_alloc | apply Kd.R_drewN | apply Kd.R_drew)); exact Kd.R_mono HO399.out (fun _ hk => hk.2))⟩; have n1_ : Aside0 (Kd.R Kd.string 9 w29 w.heap.size (fun _ => True) (.slice Ao11 t388.length co11) t388) := ⟨by rw [← hq_]; exact (rr_ HO_387000.out)⟩; have n2_ : Aside0 (Kd.R k52 52 w29 w.heap.size (fun _ => True) (.slice Ao13 t391.length co13) t391) := ⟨by rw [← hq_]; exact (rr_ HO_387001.out)⟩; have n3_ : Aside0 (Kd.R (Kd.int .i64) 3 w29 w.heap.size (fun k_ => some k_ ≠ (.slice Ao30 t397.length co30 : Value).ownBlock) (.slice Ao31 t394.length co31) t394) := ⟨by rw [← hq_]; exact (by (with_reducible repeat (first | apply Kd.R_alloc | apply Kd.R_drewN | apply Kd.R_drew)); exact Kd.R_mono HO_6.out (fun _ hk => hk.2))⟩; have n4_ : Aside0 (w29.heap[gb386]? = some (.cells #[.slice Ao11 t388.length co11, .slice Ao13 t391.length co13] 25 (0, 0))) := ⟨by rw [← hq_]; exact (bk_ BK386.out)⟩; have n5_ : Aside0 (Below w.heap.size w w29) := ⟨by rw [← hq_]; exact (bs_ HB.out GE386.out)⟩; clear HO399 HO_387000 HO_387001 HO_6 BK386 HB hq_; have HO399 := n0_; have HO_387000 := n1_; have HO_387001 := n2_; have HO_6 := n3_; have BK386 := n4_; have HB := n5_; clear n0_ n1_ n2_ n3_ n4_ n5_))
        have n0_ := Aside0.mk (Kd.R_drew HO_6.out)
        have n1_ := Aside0.mk (Kd.R_drew HO_387000.out)
        have n2_ := Aside0.mk (Kd.R_drew HO_387001.out)
        have n3_ := Aside0.mk (Kd.R_drew HO399.out)
        have n4_ := Aside0.mk (blk_drew BK386.out)
        have n5_ := Aside0.mk (below_drew1 HB.out)
        clear HO_6
        clear HO_387000
        clear HO_387001
        clear HO399
        clear BK386
        clear HB
        have HO_6 := n0_
        have HO_387000 := n1_
        have HO_387001 := n2_
        have HO399 := n3_
        have BK386 := n4_
        have HB := n5_
        clear n0_ n1_ n2_ n3_ n4_ n5_
        refine start_ (n := 21) (S := fun w' => w'.cell? ⟨gb386, 0, none⟩ = some (.slice Ao11 t388.length co11) ∧ w'.cell? ⟨gb386, 1, none⟩ = some (.slice Ao13 t391.length co13)) (ds := []) #[false, false, false, false, false, false, false, false, false, false, false, false, false, false, false, false, false, false, false, false, false] (by kernel_rfl) rfl rfl ⟨(blk_cell BK386.out 0).trans rfl, (blk_cell BK386.out 1).trans rfl⟩ (fun hHeld => ?_); refine with_tabW topiarylaw15_TreeAround.tab8 topiarylaw15_TreeAround.bits8 (fun HT_ HW_ => ?_)
        generalize w29.drew = w32 at HO_6 HO_387000 HO_387001 HO399 BK386 HB hHeld ⊢
        refine pure_ (i := 0) (N := some 31) (v := ?_) (a' := ?_) #[true, false, false, false, false, false, false, false, false, false, false, false, false, false, false, false, false, false, false, false, false] rfl rfl (any_of HT_.out (by kernel_rfl)) (fun _ _ _ h => h) (Or.inl ⟨by rfl, ?_⟩) ?_ ?_
        rotate_left
        ·intro w'
         go_simp
         with_reducible rfl
        rotate_left
        ·simp only [Act.put, List.setIfInBounds_toArray, List.set_cons_zero, List.set_cons_succ, i64_w, i32_w]
         rfl
        refine pure_ (i := 1) (N := some 32) (v := ?_) (a' := ?_) #[true, true, false, false, false, false, false, false, false, false, false, false, false, false, false, false, false, false, false, false, false] rfl rfl (any_of HT_.out (by kernel_rfl)) (fun _ _ _ h => h) (Or.inl ⟨by rfl, ?_⟩) ?_ ?_
        rotate_left
        ·intro w'
         go_simp
         with_reducible rfl
        rotate_left
        ·simp only [Act.put, List.setIfInBounds_toArray, List.set_cons_zero, List.set_cons_succ, i64_w, i32_w]
         rfl
        refine pure_ (i := 2) (N := some 33) (v := ?_) (a' := ?_) #[true, true, true, false, false, false, false, false, false, false, false, false, false, false, false, false, false, false, false, false, false] rfl rfl (any_of HT_.out (by kernel_rfl)) (fun _ _ _ h => h) (Or.inl ⟨by rfl, ?_⟩) ?_ ?_
        rotate_left
        ·intro w'
         go_simp
         with_reducible rfl
        rotate_left
        ·simp only [Act.put, List.setIfInBounds_toArray, List.set_cons_zero, List.set_cons_succ, i64_w, i32_w]
         rfl
        refine pure_ (i := 3) (N := some 34) (v := ?_) (a' := ?_) #[true, true, true, true, false, false, false, false, false, false, false, false, false, false, false, false, false, false, false, false, false] rfl rfl (any_of HT_.out (by kernel_rfl)) (fun _ _ _ h => h) (Or.inl ⟨by rfl, ?_⟩) ?_ ?_
        rotate_left
        ·intro w'
         go_simp
         with_reducible rfl
        rotate_left
        ·simp only [Act.put, List.setIfInBounds_toArray, List.set_cons_zero, List.set_cons_succ, i64_w, i32_w]
         rfl
        refine pure_ (i := 4) (N := some 35) (v := ?_) (a' := ?_) #[true, true, true, true, true, false, false, false, false, false, false, false, false, false, false, false, false, false, false, false, false] rfl rfl (any_of HT_.out (by kernel_rfl)) (fun _ _ _ h => h) (Or.inl ⟨by rfl, ?_⟩) ?_ ?_
        rotate_left
        ·intro w'
         go_simp
         with_reducible rfl
        rotate_left
        ·simp only [Act.put, List.setIfInBounds_toArray, List.set_cons_zero, List.set_cons_succ, i64_w, i32_w]
         rfl
        refine pure_ (i := 6) (N := some 37) (v := ?_) (a' := ?_) #[true, true, true, true, true, false, true, false, false, false, false, false, false, false, false, false, false, false, false, false, false] rfl rfl (any_of HT_.out (by kernel_rfl)) (fun _ _ _ h => h) (Or.inl ⟨by rfl, ?_⟩) ?_ ?_
        rotate_left
        ·intro w'
         go_simp
         with_reducible rfl
        rotate_left
        ·simp only [Act.put, List.setIfInBounds_toArray, List.set_cons_zero, List.set_cons_succ, i64_w, i32_w]
         rfl
        refine pure_ (i := 8) (N := some 39) (v := ?_) (a' := ?_) #[true, true, true, true, true, false, true, false, true, false, false, false, false, false, false, false, false, false, false, false, false] rfl rfl (any_of HT_.out (by kernel_rfl)) (fun _ _ _ h => h) (Or.inl ⟨by rfl, ?_⟩) ?_ ?_
        rotate_left
        ·intro w'
         go_simp
         with_reducible rfl
        rotate_left
        ·simp only [Act.put, List.setIfInBounds_toArray, List.set_cons_zero, List.set_cons_succ, i64_w, i32_w]
         rfl
        refine take_ (i := 5) (N := some 36) (v := ?_) (a' := ?_) #[true, true, true, true, true, true, true, false, true, false, false, false, false, false, false, false, false, false, false, false, false] rfl rfl (take_ofW HT_.out HW_.out (by kernel_rfl)) (fun _ _ _ h => h) (Or.inl ⟨by rfl, ?_⟩) hHeld ?_ ?_
        rotate_left
        ·rintro w' ⟨s0, s1⟩
         go_simp
         with_reducible rfl
        rotate_left
        ·simp only [Act.put, List.setIfInBounds_toArray, List.set_cons_zero, List.set_cons_succ, i64_w, i32_w]
         rfl
        refine one_ (i := 7) (N := some 38) #[true, true, true, true, true, true, true, true, true, false, false, false, false, false, false, false, false, false, false, false, false] rfl rfl (one_of HT_.out (by kernel_rfl)) (by decide) (fun K hK => ?_)
        refine goes_ Try.func25 (by kernel_rfl) rfl #[.agg #[.slice Ao11 t388.length co11, .slice Ao13 t391.length co13], .int .i64 a1] (by rfl) rfl rfl ar_ ?_
        with_reducible refine (tree_Depth.calls _ _ t388 _ _ t391 a1 t401 _ ?side1 ?side2 ?side3 ?side4 A24.out).mono ?_
        (case side1 => repeat (first | exact (Kd.R_reads' HO_387000.out).2.2 | (with_reducible refine Kd.C_alloc ?_ _) | (with_reducible refine Kd.C_drewN ?_ _) | (with_reducible refine Kd.C_drew ?_)))
        (case side2 => exact (Kd.R_reads' HO_387000.out).2.1)
        (case side3 => repeat (first | exact (Kd.R_reads' HO_387001.out).2.2 | (with_reducible refine Kd.C_alloc ?_ _) | (with_reducible refine Kd.C_drewN ?_ _) | (with_reducible refine Kd.C_drew ?_)))
        (case side4 => exact (Kd.R_reads' HO_387001.out).2.1)
        rintro e w33 ⟨rfl, hb⟩
        refine ⟨_, rfl, ?_⟩
        have n0_ := Aside0.mk (Kd.R_below (rr_ HO_6.out) hb)
        have n1_ := Aside0.mk (Kd.R_below (rr_ HO_387000.out) hb)
        have n2_ := Aside0.mk (Kd.R_below (rr_ HO_387001.out) hb)
        have n3_ := Aside0.mk (Kd.R_below (rr_ HO399.out) hb)
        have n4_ := Aside0.mk (blk_below (g := gb386) (o := .cells #[.slice Ao11 t388.length co11, .slice Ao13 t391.length co13] 25 (0, 0)) (bk_ BK386.out) hb)
        have n5_ := Aside0.mk (below_step (bs_ HB.out GE386.out) hb)
        clear HO_6
        clear HO_387000
        clear HO_387001
        clear HO399
        clear BK386
        clear HB
        have HO_6 := n0_
        have HO_387000 := n1_
        have HO_387001 := n2_
        have HO399 := n3_
        have BK386 := n4_
        have HB := n5_
        clear n0_ n1_ n2_ n3_ n4_ n5_
        (try clear hb)
        (try clear hb2)
        (try clear hk)
        (try clear hi)
        refine hK.out _ _ ⟨(blk_cell BK386.out 0).trans rfl, (blk_cell BK386.out 1).trans rfl⟩ (fun hHeld => ?_)
        clear hK K
        refine norm_ (a' := ?_) ?_ ?_
        rotate_left
        ·show Act.put _ (some 38) _ = _
         simp only [Act.put, List.setIfInBounds_toArray, List.set_cons_zero, List.set_cons_succ, i64_w, i32_w]
         rfl
        refine pure_ (i := 9) (N := some 40) (v := ?_) (a' := ?_) #[true, true, true, true, true, true, true, true, true, true, false, false, false, false, false, false, false, false, false, false, false] rfl rfl (any_of HT_.out (by kernel_rfl)) (fun _ _ _ h => h) (Or.inl ⟨by rfl, ?_⟩) ?_ ?_
        rotate_left
        ·intro w'
         go_simp
         with_reducible rfl
        rotate_left
        ·simp only [Act.put, List.setIfInBounds_toArray, List.set_cons_zero, List.set_cons_succ, i64_w, i32_w]
         rfl
        refine pure_ (i := 10) (N := some 41) (v := ?_) (a' := ?_) #[true, true, true, true, true, true, true, true, true, true, true, false, false, false, false, false, false, false, false, false, false] rfl rfl (any_of HT_.out (by kernel_rfl)) (fun _ _ _ h => h) (Or.inl ⟨by rfl, ?_⟩) ?_ ?_
        rotate_left
        ·intro w'
         go_simp
         with_reducible rfl
        rotate_left
        ·simp only [Act.put, List.setIfInBounds_toArray, List.set_cons_zero, List.set_cons_succ, i64_w, i32_w]
         rfl
        refine pure_ (i := 11) (N := some 42) (v := ?_) (a' := ?_) #[true, true, true, true, true, true, true, true, true, true, true, true, false, false, false, false, false, false, false, false, false] rfl rfl (any_of HT_.out (by kernel_rfl)) (fun _ _ _ h => h) (Or.inl ⟨by rfl, ?_⟩) ?_ ?_
        rotate_left
        ·intro w'
         go_simp
         with_reducible rfl
        rotate_left
        ·simp only [Act.put, List.setIfInBounds_toArray, List.set_cons_zero, List.set_cons_succ, i64_w, i32_w]
         rfl
        refine pure_ (i := 13) (N := some 44) (v := ?_) (a' := ?_) #[true, true, true, true, true, true, true, true, true, true, true, true, false, true, false, false, false, false, false, false, false] rfl rfl (any_of HT_.out (by kernel_rfl)) (fun _ _ _ h => h) (Or.inl ⟨by rfl, ?_⟩) ?_ ?_
        rotate_left
        ·intro w'
         go_simp
         with_reducible rfl
        rotate_left
        ·simp only [Act.put, List.setIfInBounds_toArray, List.set_cons_zero, List.set_cons_succ, i64_w, i32_w]
         rfl
        refine pure_ (i := 16) (N := some 47) (v := ?_) (a' := ?_) #[true, true, true, true, true, true, true, true, true, true, true, true, false, true, false, false, true, false, false, false, false] rfl rfl (any_of HT_.out (by kernel_rfl)) (fun _ _ _ h => h) (Or.inl ⟨by rfl, ?_⟩) ?_ ?_
        rotate_left
        ·intro w'
         go_simp
         with_reducible rfl
        rotate_left
        ·simp only [Act.put, List.setIfInBounds_toArray, List.set_cons_zero, List.set_cons_succ, i64_w, i32_w]
         rfl
        refine take_ (i := 12) (N := some 43) (v := ?_) (a' := ?_) #[true, true, true, true, true, true, true, true, true, true, true, true, true, true, false, false, true, false, false, false, false] rfl rfl (take_ofW HT_.out HW_.out (by kernel_rfl)) (fun _ _ _ h => h) (Or.inl ⟨by rfl, ?_⟩) hHeld ?_ ?_
        rotate_left
        ·rintro w' ⟨s0, s1⟩
         go_simp
         with_reducible rfl
        rotate_left
        ·simp only [Act.put, List.setIfInBounds_toArray, List.set_cons_zero, List.set_cons_succ, i64_w, i32_w]
         rfl
        refine take_ (i := 15) (N := some 46) (v := ?_) (a' := ?_) #[true, true, true, true, true, true, true, true, true, true, true, true, true, true, false, true, true, false, false, false, false] rfl rfl (take_ofW HT_.out HW_.out (by kernel_rfl)) (fun _ _ _ h => h) (Or.inl ⟨by rfl, ?_⟩) hHeld ?_ ?_
        rotate_left
        ·rintro w' ⟨s0, s1⟩
         go_simp
         with_reducible rfl
        rotate_left
        ·simp only [Act.put, List.setIfInBounds_toArray, List.set_cons_zero, List.set_cons_succ, i64_w, i32_w]
         rfl
        refine one_ (i := 14) (N := some 45) #[true, true, true, true, true, true, true, true, true, true, true, true, true, true, true, true, true, false, false, false, false] rfl rfl (one_of HT_.out (by kernel_rfl)) (by decide) (fun K hK => ?_)
        refine goes_ Try.func26 (by kernel_rfl) rfl #[.agg #[.slice Ao11 t388.length co11, .slice Ao13 t391.length co13], .int .i64 a1] (by rfl) rfl rfl ar_ ?_
        with_reducible refine (tree_End.calls kj16 _ _ t388 _ _ t391 a1 t402 _ ?side1 ?side2 ?side3 ?side4 A26.out).mono ?_
        (case side1 => repeat (first | exact (Kd.R_reads' HO_387000.out).2.2 | (with_reducible refine Kd.C_alloc ?_ _) | (with_reducible refine Kd.C_drewN ?_ _) | (with_reducible refine Kd.C_drew ?_)))
        (case side2 => exact (Kd.R_reads' HO_387000.out).2.1)
        (case side3 => repeat (first | exact (Kd.R_reads' HO_387001.out).2.2 | (with_reducible refine Kd.C_alloc ?_ _) | (with_reducible refine Kd.C_drewN ?_ _) | (with_reducible refine Kd.C_drew ?_)))
        (case side4 => exact (Kd.R_reads' HO_387001.out).2.1)
        rintro e w34 ⟨rfl, hb⟩
        refine ⟨_, rfl, ?_⟩
        have n0_ := Aside0.mk (Kd.R_below (rr_ HO_6.out) hb)
        have n1_ := Aside0.mk (Kd.R_below (rr_ HO_387000.out) hb)
        have n2_ := Aside0.mk (Kd.R_below (rr_ HO_387001.out) hb)
        have n3_ := Aside0.mk (Kd.R_below (rr_ HO399.out) hb)
        have n4_ := Aside0.mk (blk_below (g := gb386) (o := .cells #[.slice Ao11 t388.length co11, .slice Ao13 t391.length co13] 25 (0, 0)) (bk_ BK386.out) hb)
        have n5_ := Aside0.mk (below_step (bs_ HB.out GE386.out) hb)
        clear HO_6
        clear HO_387000
        clear HO_387001
        clear HO399
        clear BK386
        clear HB
        have HO_6 := n0_
        have HO_387000 := n1_
        have HO_387001 := n2_
        have HO399 := n3_
        have BK386 := n4_
        have HB := n5_
        clear n0_ n1_ n2_ n3_ n4_ n5_
        (try clear hb)
        (try clear hb2)
        (try clear hk)
        (try clear hi)
        refine hK.out _ _ ⟨(blk_cell BK386.out 0).trans rfl, (blk_cell BK386.out 1).trans rfl⟩ (fun hHeld => ?_)
        clear hK K
        refine norm_ (a' := ?_) ?_ ?_
        rotate_left
        ·show Act.put _ (some 45) _ = _
         simp only [Act.put, List.setIfInBounds_toArray, List.set_cons_zero, List.set_cons_succ, i64_w, i32_w]
         rfl
        refine one_ (i := 17) (N := some 48) #[true, true, true, true, true, true, true, true, true, true, true, true, true, true, true, true, true, true, false, false, false] rfl rfl (one_of HT_.out (by kernel_rfl)) (by decide) (fun K hK => ?_)
        refine goes_ Try.func27 (by kernel_rfl) rfl #[.agg #[.slice Ao11 t388.length co11, .slice Ao13 t391.length co13], .int .i64 a1] (by rfl) rfl rfl ar_ ?_
        with_reducible refine (topiaryref15_End.calls kj16 _ _ t388 _ _ t391 a1 t403 _ ?side1 ?side2 ?side3 ?side4 A27.out).mono ?_
        (case side1 => repeat (first | exact (Kd.R_reads' HO_387000.out).2.2 | (with_reducible refine Kd.C_alloc ?_ _) | (with_reducible refine Kd.C_drewN ?_ _) | (with_reducible refine Kd.C_drew ?_)))
        (case side2 => exact (Kd.R_reads' HO_387000.out).2.1)
        (case side3 => repeat (first | exact (Kd.R_reads' HO_387001.out).2.2 | (with_reducible refine Kd.C_alloc ?_ _) | (with_reducible refine Kd.C_drewN ?_ _) | (with_reducible refine Kd.C_drew ?_)))
        (case side4 => exact (Kd.R_reads' HO_387001.out).2.1)
        rintro e w35 ⟨rfl, hb⟩
        refine ⟨_, rfl, ?_⟩
        have n0_ := Aside0.mk (Kd.R_below (rr_ HO_6.out) hb)
        have n1_ := Aside0.mk (Kd.R_below (rr_ HO_387000.out) hb)
        have n2_ := Aside0.mk (Kd.R_below (rr_ HO_387001.out) hb)
        have n3_ := Aside0.mk (Kd.R_below (rr_ HO399.out) hb)
        have n4_ := Aside0.mk (blk_below (g := gb386) (o := .cells #[.slice Ao11 t388.length co11, .slice Ao13 t391.length co13] 25 (0, 0)) (bk_ BK386.out) hb)
        have n5_ := Aside0.mk (below_step (bs_ HB.out GE386.out) hb)
        clear HO_6
        clear HO_387000
        clear HO_387001
        clear HO399
        clear BK386
        clear HB
        have HO_6 := n0_
        have HO_387000 := n1_
        have HO_387001 := n2_
        have HO399 := n3_
        have BK386 := n4_
        have HB := n5_
        clear n0_ n1_ n2_ n3_ n4_ n5_
        (try clear hb)
        (try clear hb2)
        (try clear hk)
        (try clear hi)
        refine hK.out _ _ ⟨(blk_cell BK386.out 0).trans rfl, (blk_cell BK386.out 1).trans rfl⟩ (fun hHeld => ?_)
        clear hK K
        refine norm_ (a' := ?_) ?_ ?_
        rotate_left
        ·show Act.put _ (some 48) _ = _
         simp only [Act.put, List.setIfInBounds_toArray, List.set_cons_zero, List.set_cons_succ, i64_w, i32_w]
         rfl
        refine pure_ (i := 18) (N := some 49) (v := ?_) (a' := ?_) #[true, true, true, true, true, true, true, true, true, true, true, true, true, true, true, true, true, true, true, false, false] rfl rfl (any_of HT_.out (by kernel_rfl)) (fun _ _ _ h => h) (Or.inl ⟨by rfl, ?_⟩) ?_ ?_
        rotate_left
        ·intro w'
         go_simp
         with_reducible rfl
        rotate_left
        ·simp only [Act.put, List.setIfInBounds_toArray, List.set_cons_zero, List.set_cons_succ, i64_w, i32_w]
         rfl
        refine pure_ (i := 19) (N := some 50) (v := ?_) (a' := ?_) #[true, true, true, true, true, true, true, true, true, true, true, true, true, true, true, true, true, true, true, true, false] rfl rfl (any_of HT_.out (by kernel_rfl)) (fun _ _ _ h => h) (Or.inl ⟨by rfl, ?_⟩) ?_ ?_
        rotate_left
        ·intro w'
         go_simp
         with_reducible rfl
        rotate_left
        ·simp only [Act.put, List.setIfInBounds_toArray, List.set_cons_zero, List.set_cons_succ, i64_w, i32_w]
         rfl
        refine pure_ (i := 20) (N := some 4) (v := ?_) (a' := ?_) #[true, true, true, true, true, true, true, true, true, true, true, true, true, true, true, true, true, true, true, true, true] rfl rfl (any_of HT_.out (by kernel_rfl)) (fun _ _ _ h => h) (Or.inl ⟨by rfl, ?_⟩) ?_ ?_
        rotate_left
        ·intro w'
         go_simp
         with_reducible rfl
        rotate_left
        ·simp only [Act.put, List.setIfInBounds_toArray, List.set_cons_zero, List.set_cons_succ, i64_w, i32_w]
         rfl
        refine done_ (done_of HT_.out (by kernel_rfl)) ?_
        try go_wp2
        go_ret
        exact ⟨by first | rfl | (simp [errW_none, errW_some] <;> rfl) | (simp [*, errW_none, errW_some] <;> rfl), by repeat (first | (with_reducible first | exact HB.out | apply below_alloc | apply pw_below_drewN | apply below_drew1 | refine below_set ?_ GE386.out) | exact HB.out)⟩
       ·rw [if_neg c25] at H
        have c25b0 : (t401 == x7_16) = false := beq_eq_false_iff_ne.mpr c25
        have c25b1 : (t401 != x7_16) = true := bne_iff_ne.mpr c25
        obtain rfl := Option.some.inj H
        have hcz36_0 : wc.cell? ⟨gb386, 0, none⟩ = some (.slice Ao11 t388.length co11) := (blk_cell BK386.out 0).trans rfl
        have hcz36_1 : wc.cell? ⟨gb386, 1, none⟩ = some (.slice Ao13 t391.length co13) := (blk_cell BK386.out 1).trans rfl
        have hfz36_0 := blk_frozen BK386.out 0
        have hfz36_1 := blk_frozen BK386.out 1
        try go_wp2_with (first | ((with_reducible refine gate_callee (f := 24) rfl ?_); refine goesL_ (some 28) rfl rfl Try.func24 (by kernel_rfl) rfl #[.agg #[.slice Ao11 t388.length co11, .slice Ao13 t391.length co13], .int .i64 a1] rfl ar_ ?_; (with_reducible refine (tree_Up.calls _ _ t388 _ _ t391 a1 t397 _ ?side1 ?side2 ?side3 ?side4 A20.out).mono ?_); (case side1 => repeat (first | exact (Kd.R_reads' HO_387000.out).2.2 | (with_reducible refine Kd.C_alloc ?_ _) | (with_reducible refine Kd.C_drewN ?_ _) | (with_reducible refine Kd.C_drew ?_))); (case side2 => exact (Kd.R_reads' HO_387000.out).2.1); (case side3 => repeat (first | exact (Kd.R_reads' HO_387001.out).2.2 | (with_reducible refine Kd.C_alloc ?_ _) | (with_reducible refine Kd.C_drewN ?_ _) | (with_reducible refine Kd.C_drew ?_))); (case side4 => exact (Kd.R_reads' HO_387001.out).2.1); rintro e w37 ⟨v398, rfl, ho0, hb⟩; refine ⟨_, rfl, ?_⟩; have n0_ := Aside0.mk (Kd.R_elder' (rr_ HO_6.out) (Kd.R_base ho0) hb); have n1_ := Aside0.mk (Kd.R_below (rr_ HO_387000.out) hb); have n2_ := Aside0.mk (Kd.R_below (rr_ HO_387001.out) hb); have n3_ := Aside0.mk (Kd.R_lower (Kd.R_new' ho0 (Kd.R_lt (rr_ HO_6.out))) (below_size (bs_ HB.out GE386.out))); have n4_ := Aside0.mk (blk_below (g := gb386) (o := .cells #[.slice Ao11 t388.length co11, .slice Ao13 t391.length co13] 25 (0, 0)) (bk_ BK386.out) hb); have n5_ := Aside0.mk (below_step (bs_ HB.out GE386.out) hb); clear HO_6; clear HO_387000; clear HO_387001; clear BK386; clear HB; have HO_6 := n0_; have HO_387000 := n1_; have HO_387001 := n2_; have HO399 := n3_; have BK386 := n4_; have HB := n5_; clear n0_ n1_ n2_ n3_ n4_ n5_; (try clear hb); (try clear hb2); (try clear hk); (try clear hi); (try clear ho0); obtain ⟨Ao38, co38, eo38⟩ := Kd.R_slice HO399.out; subst eo38; obtain ⟨Ao39, co39, eo39⟩ := Kd.R_slice HO_6.out; subst eo39) | ((with_reducible refine gate_callee (f := 13) rfl ?_); refine goesL_ (some 30) rfl rfl Try.func13 (by kernel_rfl) rfl #[.slice Ao38 t397.length co38, .slice Ao39 t394.length co39] rfl ar_ ?_; (with_reducible refine (topiaryref02_Same.calls kj16 _ _ t397 _ _ t394 true _ ?side1 ?side2 ?side3 ?side4 A21.out).mono ?_); (case side1 => repeat (first | exact (Kd.R_reads' HO399.out).2.2 | (with_reducible refine Kd.C_alloc ?_ _) | (with_reducible refine Kd.C_drewN ?_ _) | (with_reducible refine Kd.C_drew ?_))); (case side2 => exact (Kd.R_reads' HO399.out).2.1); (case side3 => repeat (first | exact (Kd.R_reads' HO_6.out).2.2 | (with_reducible refine Kd.C_alloc ?_ _) | (with_reducible refine Kd.C_drewN ?_ _) | (with_reducible refine Kd.C_drew ?_))); (case side4 => exact (Kd.R_reads' HO_6.out).2.1); rintro e w' ⟨rfl, ⟨nd, rfl⟩⟩; refine ⟨_, rfl, ?_⟩))
        (try (rw [drewN_self w37]; generalize hq_ : World.drewN w37 _ = w37; have n0_ : Aside0 (Kd.R (Kd.int .i64) 3 w37 w.heap.size (fun k_ => some k_ ≠ (.slice Ao39 t394.length co39 : Value).ownBlock) (.slice Ao38 t397.length co38) t397) := ⟨by rw [← hq_]; exact (by (with_reducible repeat (first | apply Kd.R_alloc | apply Kd.R_drewN | apply Kd.R_drew)); exact Kd.R_mono HO399.out (fun _ hk => hk.2))⟩; have n1_ : Aside0 (Kd.R Kd.string 9 w37 w.heap.size (fun _ => True) (.slice Ao11 t388.length co11) t388) := ⟨by rw [← hq_]; exact (rr_ HO_387000.out)⟩; have n2_ : Aside0 (Kd.R k52 52 w37 w.heap.size (fun _ => True) (.slice Ao13 t391.length co13) t391) := ⟨by rw [← hq_]; exact (rr_ HO_387001.out)⟩; have n3_ : Aside0 (Kd.R (Kd.int .i64) 3 w37 w.heap.size (fun k_ => some k_ ≠ (.slice Ao38 t397.length co38 : Value).ownBlock) (.slice Ao39 t394.length co39) t394) := ⟨by rw [← hq_]; exact (by (with_reducible repeat (first | apply Kd.R_alloc | apply Kd.R_drewN | apply Kd.R_drew)); exact Kd.R_mono HO_6.out (fun _ hk => hk.2))⟩; have n4_ : Aside0 (w37.heap[gb386]? = some (.cells #[.slice Ao11 t388.length co11, .slice Ao13 t391.length co13] 25 (0, 0))) := ⟨by rw [← hq_]; exact (bk_ BK386.out)⟩; have n5_ : Aside0 (Below w.heap.size w w37) := ⟨by rw [← hq_]; exact (bs_ HB.out GE386.out)⟩; clear HO399 HO_387000 HO_387001 HO_6 BK386 HB hq_; have HO399 := n0_; have HO_387000 := n1_; have HO_387001 := n2_; have HO_6 := n3_; have BK386 := n4_; have HB := n5_; clear n0_ n1_ n2_ n3_ n4_ n5_))
        have n0_ := Aside0.mk (Kd.R_drew HO_6.out)
        have n1_ := Aside0.mk (Kd.R_drew HO_387000.out)
        have n2_ := Aside0.mk (Kd.R_drew HO_387001.out)
        have n3_ := Aside0.mk (Kd.R_drew HO399.out)
        have n4_ := Aside0.mk (blk_drew BK386.out)
        have n5_ := Aside0.mk (below_drew1 HB.out)
        clear HO_6
        clear HO_387000
        clear HO_387001
        clear HO399
        clear BK386
        clear HB
        have HO_6 := n0_
        have HO_387000 := n1_
        have HO_387001 := n2_
        have HO399 := n3_
        have BK386 := n4_
        have HB := n5_
        clear n0_ n1_ n2_ n3_ n4_ n5_
        refine start_ (n := 21) (S := fun w' => w'.cell? ⟨gb386, 0, none⟩ = some (.slice Ao11 t388.length co11) ∧ w'.cell? ⟨gb386, 1, none⟩ = some (.slice Ao13 t391.length co13)) (ds := []) #[false, false, false, false, false, false, false, false, false, false, false, false, false, false, false, false, false, false, false, false, false] (by kernel_rfl) rfl rfl ⟨(blk_cell BK386.out 0).trans rfl, (blk_cell BK386.out 1).trans rfl⟩ (fun hHeld => ?_); refine with_tabW topiarylaw15_TreeAround.tab8 topiarylaw15_TreeAround.bits8 (fun HT_ HW_ => ?_)
        generalize w37.drew = w40 at HO_6 HO_387000 HO_387001 HO399 BK386 HB hHeld ⊢
        refine pure_ (i := 0) (N := some 31) (v := ?_) (a' := ?_) #[true, false, false, false, false, false, false, false, false, false, false, false, false, false, false, false, false, false, false, false, false] rfl rfl (any_of HT_.out (by kernel_rfl)) (fun _ _ _ h => h) (Or.inl ⟨by rfl, ?_⟩) ?_ ?_
        rotate_left
        ·intro w'
         go_simp
         with_reducible rfl
        rotate_left
        ·simp only [Act.put, List.setIfInBounds_toArray, List.set_cons_zero, List.set_cons_succ, i64_w, i32_w]
         rfl
        refine pure_ (i := 1) (N := some 32) (v := ?_) (a' := ?_) #[true, true, false, false, false, false, false, false, false, false, false, false, false, false, false, false, false, false, false, false, false] rfl rfl (any_of HT_.out (by kernel_rfl)) (fun _ _ _ h => h) (Or.inl ⟨by rfl, ?_⟩) ?_ ?_
        rotate_left
        ·intro w'
         go_simp
         with_reducible rfl
        rotate_left
        ·simp only [Act.put, List.setIfInBounds_toArray, List.set_cons_zero, List.set_cons_succ, i64_w, i32_w]
         rfl
        refine pure_ (i := 2) (N := some 33) (v := ?_) (a' := ?_) #[true, true, true, false, false, false, false, false, false, false, false, false, false, false, false, false, false, false, false, false, false] rfl rfl (any_of HT_.out (by kernel_rfl)) (fun _ _ _ h => h) (Or.inl ⟨by rfl, ?_⟩) ?_ ?_
        rotate_left
        ·intro w'
         go_simp
         with_reducible rfl
        rotate_left
        ·simp only [Act.put, List.setIfInBounds_toArray, List.set_cons_zero, List.set_cons_succ, i64_w, i32_w]
         rfl
        refine pure_ (i := 3) (N := some 34) (v := ?_) (a' := ?_) #[true, true, true, true, false, false, false, false, false, false, false, false, false, false, false, false, false, false, false, false, false] rfl rfl (any_of HT_.out (by kernel_rfl)) (fun _ _ _ h => h) (Or.inl ⟨by rfl, ?_⟩) ?_ ?_
        rotate_left
        ·intro w'
         go_simp
         with_reducible rfl
        rotate_left
        ·simp only [Act.put, List.setIfInBounds_toArray, List.set_cons_zero, List.set_cons_succ, i64_w, i32_w]
         rfl
        refine pure_ (i := 4) (N := some 35) (v := ?_) (a' := ?_) #[true, true, true, true, true, false, false, false, false, false, false, false, false, false, false, false, false, false, false, false, false] rfl rfl (any_of HT_.out (by kernel_rfl)) (fun _ _ _ h => h) (Or.inl ⟨by rfl, ?_⟩) ?_ ?_
        rotate_left
        ·intro w'
         go_simp
         with_reducible rfl
        rotate_left
        ·simp only [Act.put, List.setIfInBounds_toArray, List.set_cons_zero, List.set_cons_succ, i64_w, i32_w]
         rfl
        refine pure_ (i := 6) (N := some 37) (v := ?_) (a' := ?_) #[true, true, true, true, true, false, true, false, false, false, false, false, false, false, false, false, false, false, false, false, false] rfl rfl (any_of HT_.out (by kernel_rfl)) (fun _ _ _ h => h) (Or.inl ⟨by rfl, ?_⟩) ?_ ?_
        rotate_left
        ·intro w'
         go_simp
         with_reducible rfl
        rotate_left
        ·simp only [Act.put, List.setIfInBounds_toArray, List.set_cons_zero, List.set_cons_succ, i64_w, i32_w]
         rfl
        refine pure_ (i := 8) (N := some 39) (v := ?_) (a' := ?_) #[true, true, true, true, true, false, true, false, true, false, false, false, false, false, false, false, false, false, false, false, false] rfl rfl (any_of HT_.out (by kernel_rfl)) (fun _ _ _ h => h) (Or.inl ⟨by rfl, ?_⟩) ?_ ?_
        rotate_left
        ·intro w'
         go_simp
         with_reducible rfl
        rotate_left
        ·simp only [Act.put, List.setIfInBounds_toArray, List.set_cons_zero, List.set_cons_succ, i64_w, i32_w]
         rfl
        refine take_ (i := 5) (N := some 36) (v := ?_) (a' := ?_) #[true, true, true, true, true, true, true, false, true, false, false, false, false, false, false, false, false, false, false, false, false] rfl rfl (take_ofW HT_.out HW_.out (by kernel_rfl)) (fun _ _ _ h => h) (Or.inl ⟨by rfl, ?_⟩) hHeld ?_ ?_
        rotate_left
        ·rintro w' ⟨s0, s1⟩
         go_simp
         with_reducible rfl
        rotate_left
        ·simp only [Act.put, List.setIfInBounds_toArray, List.set_cons_zero, List.set_cons_succ, i64_w, i32_w]
         rfl
        refine one_ (i := 7) (N := some 38) #[true, true, true, true, true, true, true, true, true, false, false, false, false, false, false, false, false, false, false, false, false] rfl rfl (one_of HT_.out (by kernel_rfl)) (by decide) (fun K hK => ?_)
        refine goes_ Try.func25 (by kernel_rfl) rfl #[.agg #[.slice Ao11 t388.length co11, .slice Ao13 t391.length co13], .int .i64 a1] (by rfl) rfl rfl ar_ ?_
        with_reducible refine (tree_Depth.calls _ _ t388 _ _ t391 a1 t401 _ ?side1 ?side2 ?side3 ?side4 A24.out).mono ?_
        (case side1 => repeat (first | exact (Kd.R_reads' HO_387000.out).2.2 | (with_reducible refine Kd.C_alloc ?_ _) | (with_reducible refine Kd.C_drewN ?_ _) | (with_reducible refine Kd.C_drew ?_)))
        (case side2 => exact (Kd.R_reads' HO_387000.out).2.1)
        (case side3 => repeat (first | exact (Kd.R_reads' HO_387001.out).2.2 | (with_reducible refine Kd.C_alloc ?_ _) | (with_reducible refine Kd.C_drewN ?_ _) | (with_reducible refine Kd.C_drew ?_)))
        (case side4 => exact (Kd.R_reads' HO_387001.out).2.1)
        rintro e w41 ⟨rfl, hb⟩
        refine ⟨_, rfl, ?_⟩
        have n0_ := Aside0.mk (Kd.R_below (rr_ HO_6.out) hb)
        have n1_ := Aside0.mk (Kd.R_below (rr_ HO_387000.out) hb)
        have n2_ := Aside0.mk (Kd.R_below (rr_ HO_387001.out) hb)
        have n3_ := Aside0.mk (Kd.R_below (rr_ HO399.out) hb)
        have n4_ := Aside0.mk (blk_below (g := gb386) (o := .cells #[.slice Ao11 t388.length co11, .slice Ao13 t391.length co13] 25 (0, 0)) (bk_ BK386.out) hb)
        have n5_ := Aside0.mk (below_step (bs_ HB.out GE386.out) hb)
        clear HO_6
        clear HO_387000
        clear HO_387001
        clear HO399
        clear BK386
        clear HB
        have HO_6 := n0_
        have HO_387000 := n1_
        have HO_387001 := n2_
        have HO399 := n3_
        have BK386 := n4_
        have HB := n5_
        clear n0_ n1_ n2_ n3_ n4_ n5_
        (try clear hb)
        (try clear hb2)
        (try clear hk)
        (try clear hi)
        refine hK.out _ _ ⟨(blk_cell BK386.out 0).trans rfl, (blk_cell BK386.out 1).trans rfl⟩ (fun hHeld => ?_)
        clear hK K
        refine norm_ (a' := ?_) ?_ ?_
        rotate_left
        ·show Act.put _ (some 38) _ = _
         simp only [Act.put, List.setIfInBounds_toArray, List.set_cons_zero, List.set_cons_succ, i64_w, i32_w]
         rfl
        refine pure_ (i := 9) (N := some 40) (v := ?_) (a' := ?_) #[true, true, true, true, true, true, true, true, true, true, false, false, false, false, false, false, false, false, false, false, false] rfl rfl (any_of HT_.out (by kernel_rfl)) (fun _ _ _ h => h) (Or.inl ⟨by rfl, ?_⟩) ?_ ?_
        rotate_left
        ·intro w'
         go_simp
         with_reducible rfl
        rotate_left
        ·simp only [Act.put, List.setIfInBounds_toArray, List.set_cons_zero, List.set_cons_succ, i64_w, i32_w]
         rfl
        refine pure_ (i := 10) (N := some 41) (v := ?_) (a' := ?_) #[true, true, true, true, true, true, true, true, true, true, true, false, false, false, false, false, false, false, false, false, false] rfl rfl (any_of HT_.out (by kernel_rfl)) (fun _ _ _ h => h) (Or.inl ⟨by rfl, ?_⟩) ?_ ?_
        rotate_left
        ·intro w'
         go_simp
         with_reducible rfl
        rotate_left
        ·simp only [Act.put, List.setIfInBounds_toArray, List.set_cons_zero, List.set_cons_succ, i64_w, i32_w]
         rfl
        refine pure_ (i := 11) (N := some 42) (v := ?_) (a' := ?_) #[true, true, true, true, true, true, true, true, true, true, true, true, false, false, false, false, false, false, false, false, false] rfl rfl (any_of HT_.out (by kernel_rfl)) (fun _ _ _ h => h) (Or.inl ⟨by rfl, ?_⟩) ?_ ?_
        rotate_left
        ·intro w'
         go_simp
         with_reducible rfl
        rotate_left
        ·simp only [Act.put, List.setIfInBounds_toArray, List.set_cons_zero, List.set_cons_succ, i64_w, i32_w]
         rfl
        refine pure_ (i := 12) (N := some 43) (v := undef) (a' := ?_) #[true, true, true, true, true, true, true, true, true, true, true, true, true, false, false, false, false, false, false, false, false] rfl rfl (any_of HT_.out (by kernel_rfl)) (fun _ _ _ h => h) (Or.inr ⟨by rfl, rfl⟩) ?_ ?_
        rotate_left
        ·simp only [Act.put, List.setIfInBounds_toArray, List.set_cons_zero, List.set_cons_succ, i64_w, i32_w]
         rfl
        refine pure_ (i := 13) (N := some 44) (v := undef) (a' := ?_) #[true, true, true, true, true, true, true, true, true, true, true, true, true, true, false, false, false, false, false, false, false] rfl rfl (any_of HT_.out (by kernel_rfl)) (fun _ _ _ h => h) (Or.inr ⟨by rfl, rfl⟩) ?_ ?_
        rotate_left
        ·simp only [Act.put, List.setIfInBounds_toArray, List.set_cons_zero, List.set_cons_succ, i64_w, i32_w]
         rfl
        refine pure_ (i := 14) (N := some 45) (v := undef) (a' := ?_) #[true, true, true, true, true, true, true, true, true, true, true, true, true, true, true, false, false, false, false, false, false] rfl rfl (any_of HT_.out (by kernel_rfl)) (fun _ _ _ h => h) (Or.inr ⟨by rfl, rfl⟩) ?_ ?_
        rotate_left
        ·simp only [Act.put, List.setIfInBounds_toArray, List.set_cons_zero, List.set_cons_succ, i64_w, i32_w]
         rfl
        refine pure_ (i := 15) (N := some 46) (v := undef) (a' := ?_) #[true, true, true, true, true, true, true, true, true, true, true, true, true, true, true, true, false, false, false, false, false] rfl rfl (any_of HT_.out (by kernel_rfl)) (fun _ _ _ h => h) (Or.inr ⟨by rfl, rfl⟩) ?_ ?_
        rotate_left
        ·simp only [Act.put, List.setIfInBounds_toArray, List.set_cons_zero, List.set_cons_succ, i64_w, i32_w]
         rfl
        refine pure_ (i := 16) (N := some 47) (v := undef) (a' := ?_) #[true, true, true, true, true, true, true, true, true, true, true, true, true, true, true, true, true, false, false, false, false] rfl rfl (any_of HT_.out (by kernel_rfl)) (fun _ _ _ h => h) (Or.inr ⟨by rfl, rfl⟩) ?_ ?_
        rotate_left
        ·simp only [Act.put, List.setIfInBounds_toArray, List.set_cons_zero, List.set_cons_succ, i64_w, i32_w]
         rfl
        refine pure_ (i := 17) (N := some 48) (v := undef) (a' := ?_) #[true, true, true, true, true, true, true, true, true, true, true, true, true, true, true, true, true, true, false, false, false] rfl rfl (any_of HT_.out (by kernel_rfl)) (fun _ _ _ h => h) (Or.inr ⟨by rfl, rfl⟩) ?_ ?_
        rotate_left
        ·simp only [Act.put, List.setIfInBounds_toArray, List.set_cons_zero, List.set_cons_succ, i64_w, i32_w]
         rfl
        refine pure_ (i := 18) (N := some 49) (v := undef) (a' := ?_) #[true, true, true, true, true, true, true, true, true, true, true, true, true, true, true, true, true, true, true, false, false] rfl rfl (any_of HT_.out (by kernel_rfl)) (fun _ _ _ h => h) (Or.inr ⟨by rfl, rfl⟩) ?_ ?_
        rotate_left
        ·simp only [Act.put, List.setIfInBounds_toArray, List.set_cons_zero, List.set_cons_succ, i64_w, i32_w]
         rfl
        refine pure_ (i := 19) (N := some 50) (v := ?_) (a' := ?_) #[true, true, true, true, true, true, true, true, true, true, true, true, true, true, true, true, true, true, true, true, false] rfl rfl (any_of HT_.out (by kernel_rfl)) (fun _ _ _ h => h) (Or.inl ⟨by rfl, ?_⟩) ?_ ?_
        rotate_left
        ·intro w'
         go_simp
         with_reducible rfl
        rotate_left
        ·simp only [Act.put, List.setIfInBounds_toArray, List.set_cons_zero, List.set_cons_succ, i64_w, i32_w]
         rfl
        refine pure_ (i := 20) (N := some 4) (v := ?_) (a' := ?_) #[true, true, true, true, true, true, true, true, true, true, true, true, true, true, true, true, true, true, true, true, true] rfl rfl (any_of HT_.out (by kernel_rfl)) (fun _ _ _ h => h) (Or.inl ⟨by rfl, ?_⟩) ?_ ?_
        rotate_left
        ·intro w'
         go_simp
         with_reducible rfl
        rotate_left
        ·simp only [Act.put, List.setIfInBounds_toArray, List.set_cons_zero, List.set_cons_succ, i64_w, i32_w]
         rfl
        refine done_ (done_of HT_.out (by kernel_rfl)) ?_
        try go_wp2
        go_ret
        exact ⟨by first | rfl | (simp [errW_none, errW_some] <;> rfl) | (simp [*, errW_none, errW_some] <;> rfl), by repeat (first | (with_reducible first | exact HB.out | apply below_alloc | apply pw_below_drewN | apply below_drew1 | refine below_set ?_ GE386.out) | exact HB.out)⟩
      ·replace c23 := Bool.eq_false_iff.mpr c23
       subst c23
       have H1 : (some false) = some r := by rw [if_neg (show ¬ (false = true) by decide)] at H; exact H
       clear H
       have H := H1
       clear H1
       obtain rfl := Option.some.inj H
       have hcz42_0 : wc.cell? ⟨gb386, 0, none⟩ = some (.slice Ao11 t388.length co11) := (blk_cell BK386.out 0).trans rfl
       have hcz42_1 : wc.cell? ⟨gb386, 1, none⟩ = some (.slice Ao13 t391.length co13) := (blk_cell BK386.out 1).trans rfl
       have hfz42_0 := blk_frozen BK386.out 0
       have hfz42_1 := blk_frozen BK386.out 1
       try go_wp2_with (first | ((with_reducible refine gate_callee (f := 24) rfl ?_); refine goesL_ (some 28) rfl rfl Try.func24 (by kernel_rfl) rfl #[.agg #[.slice Ao11 t388.length co11, .slice Ao13 t391.length co13], .int .i64 a1] rfl ar_ ?_; (with_reducible refine (tree_Up.calls _ _ t388 _ _ t391 a1 t397 _ ?side1 ?side2 ?side3 ?side4 A20.out).mono ?_); (case side1 => repeat (first | exact (Kd.R_reads' HO_387000.out).2.2 | (with_reducible refine Kd.C_alloc ?_ _) | (with_reducible refine Kd.C_drewN ?_ _) | (with_reducible refine Kd.C_drew ?_))); (case side2 => exact (Kd.R_reads' HO_387000.out).2.1); (case side3 => repeat (first | exact (Kd.R_reads' HO_387001.out).2.2 | (with_reducible refine Kd.C_alloc ?_ _) | (with_reducible refine Kd.C_drewN ?_ _) | (with_reducible refine Kd.C_drew ?_))); (case side4 => exact (Kd.R_reads' HO_387001.out).2.1); rintro e w43 ⟨v398, rfl, ho0, hb⟩; refine ⟨_, rfl, ?_⟩; have n0_ := Aside0.mk (Kd.R_elder' (rr_ HO_6.out) (Kd.R_base ho0) hb); have n1_ := Aside0.mk (Kd.R_below (rr_ HO_387000.out) hb); have n2_ := Aside0.mk (Kd.R_below (rr_ HO_387001.out) hb); have n3_ := Aside0.mk (Kd.R_lower (Kd.R_new' ho0 (Kd.R_lt (rr_ HO_6.out))) (below_size (bs_ HB.out GE386.out))); have n4_ := Aside0.mk (blk_below (g := gb386) (o := .cells #[.slice Ao11 t388.length co11, .slice Ao13 t391.length co13] 25 (0, 0)) (bk_ BK386.out) hb); have n5_ := Aside0.mk (below_step (bs_ HB.out GE386.out) hb); clear HO_6; clear HO_387000; clear HO_387001; clear BK386; clear HB; have HO_6 := n0_; have HO_387000 := n1_; have HO_387001 := n2_; have HO399 := n3_; have BK386 := n4_; have HB := n5_; clear n0_ n1_ n2_ n3_ n4_ n5_; (try clear hb); (try clear hb2); (try clear hk); (try clear hi); (try clear ho0); obtain ⟨Ao44, co44, eo44⟩ := Kd.R_slice HO399.out; subst eo44; obtain ⟨Ao45, co45, eo45⟩ := Kd.R_slice HO_6.out; subst eo45) | ((with_reducible refine gate_callee (f := 13) rfl ?_); refine goesL_ (some 30) rfl rfl Try.func13 (by kernel_rfl) rfl #[.slice Ao44 t397.length co44, .slice Ao45 t394.length co45] rfl ar_ ?_; (with_reducible refine (topiaryref02_Same.calls kj16 _ _ t397 _ _ t394 false _ ?side1 ?side2 ?side3 ?side4 A21.out).mono ?_); (case side1 => repeat (first | exact (Kd.R_reads' HO399.out).2.2 | (with_reducible refine Kd.C_alloc ?_ _) | (with_reducible refine Kd.C_drewN ?_ _) | (with_reducible refine Kd.C_drew ?_))); (case side2 => exact (Kd.R_reads' HO399.out).2.1); (case side3 => repeat (first | exact (Kd.R_reads' HO_6.out).2.2 | (with_reducible refine Kd.C_alloc ?_ _) | (with_reducible refine Kd.C_drewN ?_ _) | (with_reducible refine Kd.C_drew ?_))); (case side4 => exact (Kd.R_reads' HO_6.out).2.1); rintro e w' ⟨rfl, ⟨nd, rfl⟩⟩; refine ⟨_, rfl, ?_⟩))
       (try (rw [drewN_self w43]; generalize hq_ : World.drewN w43 _ = w43; have n0_ : Aside0 (Kd.R (Kd.int .i64) 3 w43 w.heap.size (fun k_ => some k_ ≠ (.slice Ao45 t394.length co45 : Value).ownBlock) (.slice Ao44 t397.length co44) t397) := ⟨by rw [← hq_]; exact (by (with_reducible repeat (first | apply Kd.R_alloc | apply Kd.R_drewN | apply Kd.R_drew)); exact Kd.R_mono HO399.out (fun _ hk => hk.2))⟩; have n1_ : Aside0 (Kd.R Kd.string 9 w43 w.heap.size (fun _ => True) (.slice Ao11 t388.length co11) t388) := ⟨by rw [← hq_]; exact (rr_ HO_387000.out)⟩; have n2_ : Aside0 (Kd.R k52 52 w43 w.heap.size (fun _ => True) (.slice Ao13 t391.length co13) t391) := ⟨by rw [← hq_]; exact (rr_ HO_387001.out)⟩; have n3_ : Aside0 (Kd.R (Kd.int .i64) 3 w43 w.heap.size (fun k_ => some k_ ≠ (.slice Ao44 t397.length co44 : Value).ownBlock) (.slice Ao45 t394.length co45) t394) := ⟨by rw [← hq_]; exact (by (with_reducible repeat (first | apply Kd.R_alloc | apply Kd.R_drewN | apply Kd.R_drew)); exact Kd.R_mono HO_6.out (fun _ hk => hk.2))⟩; have n4_ : Aside0 (w43.heap[gb386]? = some (.cells #[.slice Ao11 t388.length co11, .slice Ao13 t391.length co13] 25 (0, 0))) := ⟨by rw [← hq_]; exact (bk_ BK386.out)⟩; have n5_ : Aside0 (Below w.heap.size w w43) := ⟨by rw [← hq_]; exact (bs_ HB.out GE386.out)⟩; clear HO399 HO_387000 HO_387001 HO_6 BK386 HB hq_; have HO399 := n0_; have HO_387000 := n1_; have HO_387001 := n2_; have HO_6 := n3_; have BK386 := n4_; have HB := n5_; clear n0_ n1_ n2_ n3_ n4_ n5_))
       have n0_ := Aside0.mk (Kd.R_drew HO_6.out)
       have n1_ := Aside0.mk (Kd.R_drew HO_387000.out)
       have n2_ := Aside0.mk (Kd.R_drew HO_387001.out)
       have n3_ := Aside0.mk (Kd.R_drew HO399.out)
       have n4_ := Aside0.mk (blk_drew BK386.out)
       have n5_ := Aside0.mk (below_drew1 HB.out)
       clear HO_6
       clear HO_387000
       clear HO_387001
       clear HO399
       clear BK386
       clear HB
       have HO_6 := n0_
       have HO_387000 := n1_
       have HO_387001 := n2_
       have HO399 := n3_
       have BK386 := n4_
       have HB := n5_
       clear n0_ n1_ n2_ n3_ n4_ n5_
       refine start_ (n := 21) (S := fun w' => True) (ds := []) #[false, false, false, false, false, false, false, false, false, false, false, false, false, false, false, false, false, false, false, false, false] (by kernel_rfl) rfl rfl trivial (fun hHeld => ?_); refine with_tabW topiarylaw15_TreeAround.tab8 topiarylaw15_TreeAround.bits8 (fun HT_ HW_ => ?_)
       generalize w43.drew = w46 at HO_6 HO_387000 HO_387001 HO399 BK386 HB hHeld ⊢
       refine pure_ (i := 0) (N := some 31) (v := ?_) (a' := ?_) #[true, false, false, false, false, false, false, false, false, false, false, false, false, false, false, false, false, false, false, false, false] rfl rfl (any_of HT_.out (by kernel_rfl)) (fun _ _ _ h => h) (Or.inl ⟨by rfl, ?_⟩) ?_ ?_
       rotate_left
       ·intro w'
        go_simp
        with_reducible rfl
       rotate_left
       ·simp only [Act.put, List.setIfInBounds_toArray, List.set_cons_zero, List.set_cons_succ, i64_w, i32_w]
        rfl
       refine pure_ (i := 1) (N := some 32) (v := ?_) (a' := ?_) #[true, true, false, false, false, false, false, false, false, false, false, false, false, false, false, false, false, false, false, false, false] rfl rfl (any_of HT_.out (by kernel_rfl)) (fun _ _ _ h => h) (Or.inl ⟨by rfl, ?_⟩) ?_ ?_
       rotate_left
       ·intro w'
        go_simp
        with_reducible rfl
       rotate_left
       ·simp only [Act.put, List.setIfInBounds_toArray, List.set_cons_zero, List.set_cons_succ, i64_w, i32_w]
        rfl
       refine pure_ (i := 2) (N := some 33) (v := ?_) (a' := ?_) #[true, true, true, false, false, false, false, false, false, false, false, false, false, false, false, false, false, false, false, false, false] rfl rfl (any_of HT_.out (by kernel_rfl)) (fun _ _ _ h => h) (Or.inl ⟨by rfl, ?_⟩) ?_ ?_
       rotate_left
       ·intro w'
        go_simp
        with_reducible rfl
       rotate_left
       ·simp only [Act.put, List.setIfInBounds_toArray, List.set_cons_zero, List.set_cons_succ, i64_w, i32_w]
        rfl
       refine pure_ (i := 3) (N := some 34) (v := ?_) (a' := ?_) #[true, true, true, true, false, false, false, false, false, false, false, false, false, false, false, false, false, false, false, false, false] rfl rfl (any_of HT_.out (by kernel_rfl)) (fun _ _ _ h => h) (Or.inl ⟨by rfl, ?_⟩) ?_ ?_
       rotate_left
       ·intro w'
        go_simp
        with_reducible rfl
       rotate_left
       ·simp only [Act.put, List.setIfInBounds_toArray, List.set_cons_zero, List.set_cons_succ, i64_w, i32_w]
        rfl
       refine pure_ (i := 4) (N := some 35) (v := ?_) (a' := ?_) #[true, true, true, true, true, false, false, false, false, false, false, false, false, false, false, false, false, false, false, false, false] rfl rfl (any_of HT_.out (by kernel_rfl)) (fun _ _ _ h => h) (Or.inl ⟨by rfl, ?_⟩) ?_ ?_
       rotate_left
       ·intro w'
        go_simp
        with_reducible rfl
       rotate_left
       ·simp only [Act.put, List.setIfInBounds_toArray, List.set_cons_zero, List.set_cons_succ, i64_w, i32_w]
        rfl
       refine pure_ (i := 5) (N := some 36) (v := undef) (a' := ?_) #[true, true, true, true, true, true, false, false, false, false, false, false, false, false, false, false, false, false, false, false, false] rfl rfl (any_of HT_.out (by kernel_rfl)) (fun _ _ _ h => h) (Or.inr ⟨by rfl, rfl⟩) ?_ ?_
       rotate_left
       ·simp only [Act.put, List.setIfInBounds_toArray, List.set_cons_zero, List.set_cons_succ, i64_w, i32_w]
        rfl
       refine pure_ (i := 6) (N := some 37) (v := undef) (a' := ?_) #[true, true, true, true, true, true, true, false, false, false, false, false, false, false, false, false, false, false, false, false, false] rfl rfl (any_of HT_.out (by kernel_rfl)) (fun _ _ _ h => h) (Or.inr ⟨by rfl, rfl⟩) ?_ ?_
       rotate_left
       ·simp only [Act.put, List.setIfInBounds_toArray, List.set_cons_zero, List.set_cons_succ, i64_w, i32_w]
        rfl
       refine pure_ (i := 7) (N := some 38) (v := undef) (a' := ?_) #[true, true, true, true, true, true, true, true, false, false, false, false, false, false, false, false, false, false, false, false, false] rfl rfl (any_of HT_.out (by kernel_rfl)) (fun _ _ _ h => h) (Or.inr ⟨by rfl, rfl⟩) ?_ ?_
       rotate_left
       ·simp only [Act.put, List.setIfInBounds_toArray, List.set_cons_zero, List.set_cons_succ, i64_w, i32_w]
        rfl
       refine pure_ (i := 8) (N := some 39) (v := undef) (a' := ?_) #[true, true, true, true, true, true, true, true, true, false, false, false, false, false, false, false, false, false, false, false, false] rfl rfl (any_of HT_.out (by kernel_rfl)) (fun _ _ _ h => h) (Or.inr ⟨by rfl, rfl⟩) ?_ ?_
       rotate_left
       ·simp only [Act.put, List.setIfInBounds_toArray, List.set_cons_zero, List.set_cons_succ, i64_w, i32_w]
        rfl
       refine pure_ (i := 9) (N := some 40) (v := undef) (a' := ?_) #[true, true, true, true, true, true, true, true, true, true, false, false, false, false, false, false, false, false, false, false, false] rfl rfl (any_of HT_.out (by kernel_rfl)) (fun _ _ _ h => h) (Or.inr ⟨by rfl, rfl⟩) ?_ ?_
       rotate_left
       ·simp only [Act.put, List.setIfInBounds_toArray, List.set_cons_zero, List.set_cons_succ, i64_w, i32_w]
        rfl
       refine pure_ (i := 10) (N := some 41) (v := ?_) (a' := ?_) #[true, true, true, true, true, true, true, true, true, true, true, false, false, false, false, false, false, false, false, false, false] rfl rfl (any_of HT_.out (by kernel_rfl)) (fun _ _ _ h => h) (Or.inl ⟨by rfl, ?_⟩) ?_ ?_
       rotate_left
       ·intro w'
        go_simp
        with_reducible rfl
       rotate_left
       ·simp only [Act.put, List.setIfInBounds_toArray, List.set_cons_zero, List.set_cons_succ, i64_w, i32_w]
        rfl
       refine pure_ (i := 11) (N := some 42) (v := ?_) (a' := ?_) #[true, true, true, true, true, true, true, true, true, true, true, true, false, false, false, false, false, false, false, false, false] rfl rfl (any_of HT_.out (by kernel_rfl)) (fun _ _ _ h => h) (Or.inl ⟨by rfl, ?_⟩) ?_ ?_
       rotate_left
       ·intro w'
        go_simp
        with_reducible rfl
       rotate_left
       ·simp only [Act.put, List.setIfInBounds_toArray, List.set_cons_zero, List.set_cons_succ, i64_w, i32_w]
        rfl
       refine pure_ (i := 12) (N := some 43) (v := undef) (a' := ?_) #[true, true, true, true, true, true, true, true, true, true, true, true, true, false, false, false, false, false, false, false, false] rfl rfl (any_of HT_.out (by kernel_rfl)) (fun _ _ _ h => h) (Or.inr ⟨by rfl, rfl⟩) ?_ ?_
       rotate_left
       ·simp only [Act.put, List.setIfInBounds_toArray, List.set_cons_zero, List.set_cons_succ, i64_w, i32_w]
        rfl
       refine pure_ (i := 13) (N := some 44) (v := undef) (a' := ?_) #[true, true, true, true, true, true, true, true, true, true, true, true, true, true, false, false, false, false, false, false, false] rfl rfl (any_of HT_.out (by kernel_rfl)) (fun _ _ _ h => h) (Or.inr ⟨by rfl, rfl⟩) ?_ ?_
       rotate_left
       ·simp only [Act.put, List.setIfInBounds_toArray, List.set_cons_zero, List.set_cons_succ, i64_w, i32_w]
        rfl
       refine pure_ (i := 14) (N := some 45) (v := undef) (a' := ?_) #[true, true, true, true, true, true, true, true, true, true, true, true, true, true, true, false, false, false, false, false, false] rfl rfl (any_of HT_.out (by kernel_rfl)) (fun _ _ _ h => h) (Or.inr ⟨by rfl, rfl⟩) ?_ ?_
       rotate_left
       ·simp only [Act.put, List.setIfInBounds_toArray, List.set_cons_zero, List.set_cons_succ, i64_w, i32_w]
        rfl
       refine pure_ (i := 15) (N := some 46) (v := undef) (a' := ?_) #[true, true, true, true, true, true, true, true, true, true, true, true, true, true, true, true, false, false, false, false, false] rfl rfl (any_of HT_.out (by kernel_rfl)) (fun _ _ _ h => h) (Or.inr ⟨by rfl, rfl⟩) ?_ ?_
       rotate_left
       ·simp only [Act.put, List.setIfInBounds_toArray, List.set_cons_zero, List.set_cons_succ, i64_w, i32_w]
        rfl
       refine pure_ (i := 16) (N := some 47) (v := undef) (a' := ?_) #[true, true, true, true, true, true, true, true, true, true, true, true, true, true, true, true, true, false, false, false, false] rfl rfl (any_of HT_.out (by kernel_rfl)) (fun _ _ _ h => h) (Or.inr ⟨by rfl, rfl⟩) ?_ ?_
       rotate_left
       ·simp only [Act.put, List.setIfInBounds_toArray, List.set_cons_zero, List.set_cons_succ, i64_w, i32_w]
        rfl
       refine pure_ (i := 17) (N := some 48) (v := undef) (a' := ?_) #[true, true, true, true, true, true, true, true, true, true, true, true, true, true, true, true, true, true, false, false, false] rfl rfl (any_of HT_.out (by kernel_rfl)) (fun _ _ _ h => h) (Or.inr ⟨by rfl, rfl⟩) ?_ ?_
       rotate_left
       ·simp only [Act.put, List.setIfInBounds_toArray, List.set_cons_zero, List.set_cons_succ, i64_w, i32_w]
        rfl
       refine pure_ (i := 18) (N := some 49) (v := undef) (a' := ?_) #[true, true, true, true, true, true, true, true, true, true, true, true, true, true, true, true, true, true, true, false, false] rfl rfl (any_of HT_.out (by kernel_rfl)) (fun _ _ _ h => h) (Or.inr ⟨by rfl, rfl⟩) ?_ ?_
       rotate_left
       ·simp only [Act.put, List.setIfInBounds_toArray, List.set_cons_zero, List.set_cons_succ, i64_w, i32_w]
        rfl
       refine pure_ (i := 19) (N := some 50) (v := ?_) (a' := ?_) #[true, true, true, true, true, true, true, true, true, true, true, true, true, true, true, true, true, true, true, true, false] rfl rfl (any_of HT_.out (by kernel_rfl)) (fun _ _ _ h => h) (Or.inl ⟨by rfl, ?_⟩) ?_ ?_
       rotate_left
       ·intro w'
        go_simp
        with_reducible rfl
       rotate_left
       ·simp only [Act.put, List.setIfInBounds_toArray, List.set_cons_zero, List.set_cons_succ, i64_w, i32_w]
        rfl
       refine pure_ (i := 20) (N := some 4) (v := ?_) (a' := ?_) #[true, true, true, true, true, true, true, true, true, true, true, true, true, true, true, true, true, true, true, true, true] rfl rfl (any_of HT_.out (by kernel_rfl)) (fun _ _ _ h => h) (Or.inl ⟨by rfl, ?_⟩) ?_ ?_
       rotate_left
       ·intro w'
        go_simp
        with_reducible rfl
       rotate_left
       ·simp only [Act.put, List.setIfInBounds_toArray, List.set_cons_zero, List.set_cons_succ, i64_w, i32_w]
        rfl
       refine done_ (done_of HT_.out (by kernel_rfl)) ?_
       try go_wp2
       go_ret
       exact ⟨by first | rfl | (simp [errW_none, errW_some] <;> rfl) | (simp [*, errW_none, errW_some] <;> rfl), by repeat (first | (with_reducible first | exact HB.out | apply below_alloc | apply pw_below_drewN | apply below_drew1 | refine below_set ?_ GE386.out) | exact HB.out)⟩
     ·replace c22 := Bool.eq_false_iff.mpr c22
      subst c22
      have H1 : (some false) = some r := by rw [if_neg (show ¬ (false = true) by decide)] at H; exact H
      clear H
      have H := H1
      clear H1
      obtain rfl := Option.some.inj H
      have hcz47_0 : wc.cell? ⟨gb386, 0, none⟩ = some (.slice Ao11 t388.length co11) := (blk_cell BK386.out 0).trans rfl
      have hcz47_1 : wc.cell? ⟨gb386, 1, none⟩ = some (.slice Ao13 t391.length co13) := (blk_cell BK386.out 1).trans rfl
      have hfz47_0 := blk_frozen BK386.out 0
      have hfz47_1 := blk_frozen BK386.out 1
      try go_wp2_with (first | ((with_reducible refine gate_callee (f := 24) rfl ?_); refine goesL_ (some 28) rfl rfl Try.func24 (by kernel_rfl) rfl #[.agg #[.slice Ao11 t388.length co11, .slice Ao13 t391.length co13], .int .i64 a1] rfl ar_ ?_; (with_reducible refine (tree_Up.calls _ _ t388 _ _ t391 a1 t397 _ ?side1 ?side2 ?side3 ?side4 A20.out).mono ?_); (case side1 => repeat (first | exact (Kd.R_reads' HO_387000.out).2.2 | (with_reducible refine Kd.C_alloc ?_ _) | (with_reducible refine Kd.C_drewN ?_ _) | (with_reducible refine Kd.C_drew ?_))); (case side2 => exact (Kd.R_reads' HO_387000.out).2.1); (case side3 => repeat (first | exact (Kd.R_reads' HO_387001.out).2.2 | (with_reducible refine Kd.C_alloc ?_ _) | (with_reducible refine Kd.C_drewN ?_ _) | (with_reducible refine Kd.C_drew ?_))); (case side4 => exact (Kd.R_reads' HO_387001.out).2.1); rintro e w48 ⟨v398, rfl, ho0, hb⟩; refine ⟨_, rfl, ?_⟩; have n0_ := Aside0.mk (Kd.R_elder' (rr_ HO_6.out) (Kd.R_base ho0) hb); have n1_ := Aside0.mk (Kd.R_below (rr_ HO_387000.out) hb); have n2_ := Aside0.mk (Kd.R_below (rr_ HO_387001.out) hb); have n3_ := Aside0.mk (Kd.R_lower (Kd.R_new' ho0 (Kd.R_lt (rr_ HO_6.out))) (below_size (bs_ HB.out GE386.out))); have n4_ := Aside0.mk (blk_below (g := gb386) (o := .cells #[.slice Ao11 t388.length co11, .slice Ao13 t391.length co13] 25 (0, 0)) (bk_ BK386.out) hb); have n5_ := Aside0.mk (below_step (bs_ HB.out GE386.out) hb); clear HO_6; clear HO_387000; clear HO_387001; clear BK386; clear HB; have HO_6 := n0_; have HO_387000 := n1_; have HO_387001 := n2_; have HO399 := n3_; have BK386 := n4_; have HB := n5_; clear n0_ n1_ n2_ n3_ n4_ n5_; (try clear hb); (try clear hb2); (try clear hk); (try clear hi); (try clear ho0); obtain ⟨Ao49, co49, eo49⟩ := Kd.R_slice HO399.out; subst eo49; obtain ⟨Ao50, co50, eo50⟩ := Kd.R_slice HO_6.out; subst eo50) | ((with_reducible refine gate_callee (f := 13) rfl ?_); refine goesL_ (some 30) rfl rfl Try.func13 (by kernel_rfl) rfl #[.slice Ao49 t397.length co49, .slice Ao50 t394.length co50] rfl ar_ ?_; (with_reducible refine (topiaryref02_Same.calls kj16 _ _ t397 _ _ t394 t400 _ ?side1 ?side2 ?side3 ?side4 A21.out).mono ?_); (case side1 => repeat (first | exact (Kd.R_reads' HO399.out).2.2 | (with_reducible refine Kd.C_alloc ?_ _) | (with_reducible refine Kd.C_drewN ?_ _) | (with_reducible refine Kd.C_drew ?_))); (case side2 => exact (Kd.R_reads' HO399.out).2.1); (case side3 => repeat (first | exact (Kd.R_reads' HO_6.out).2.2 | (with_reducible refine Kd.C_alloc ?_ _) | (with_reducible refine Kd.C_drewN ?_ _) | (with_reducible refine Kd.C_drew ?_))); (case side4 => exact (Kd.R_reads' HO_6.out).2.1); rintro e w' ⟨rfl, ⟨nd, rfl⟩⟩; refine ⟨_, rfl, ?_⟩))
      (try (rw [drewN_self w48]; generalize hq_ : World.drewN w48 _ = w48; have n0_ : Aside0 (Kd.R (Kd.int .i64) 3 w48 w.heap.size (fun k_ => some k_ ≠ (.slice Ao50 t394.length co50 : Value).ownBlock) (.slice Ao49 t397.length co49) t397) := ⟨by rw [← hq_]; exact (by (with_reducible repeat (first | apply Kd.R_alloc | apply Kd.R_drewN | apply Kd.R_drew)); exact Kd.R_mono HO399.out (fun _ hk => hk.2))⟩; have n1_ : Aside0 (Kd.R Kd.string 9 w48 w.heap.size (fun _ => True) (.slice Ao11 t388.length co11) t388) := ⟨by rw [← hq_]; exact (rr_ HO_387000.out)⟩; have n2_ : Aside0 (Kd.R k52 52 w48 w.heap.size (fun _ => True) (.slice Ao13 t391.length co13) t391) := ⟨by rw [← hq_]; exact (rr_ HO_387001.out)⟩; have n3_ : Aside0 (Kd.R (Kd.int .i64) 3 w48 w.heap.size (fun k_ => some k_ ≠ (.slice Ao49 t397.length co49 : Value).ownBlock) (.slice Ao50 t394.length co50) t394) := ⟨by rw [← hq_]; exact (by (with_reducible repeat (first | apply Kd.R_alloc | apply Kd.R_drewN | apply Kd.R_drew)); exact Kd.R_mono HO_6.out (fun _ hk => hk.2))⟩; have n4_ : Aside0 (w48.heap[gb386]? = some (.cells #[.slice Ao11 t388.length co11, .slice Ao13 t391.length co13] 25 (0, 0))) := ⟨by rw [← hq_]; exact (bk_ BK386.out)⟩; have n5_ : Aside0 (Below w.heap.size w w48) := ⟨by rw [← hq_]; exact (bs_ HB.out GE386.out)⟩; clear HO399 HO_387000 HO_387001 HO_6 BK386 HB hq_; have HO399 := n0_; have HO_387000 := n1_; have HO_387001 := n2_; have HO_6 := n3_; have BK386 := n4_; have HB := n5_; clear n0_ n1_ n2_ n3_ n4_ n5_))
      have n0_ := Aside0.mk (Kd.R_drew HO_6.out)
      have n1_ := Aside0.mk (Kd.R_drew HO_387000.out)
      have n2_ := Aside0.mk (Kd.R_drew HO_387001.out)
      have n3_ := Aside0.mk (Kd.R_drew HO399.out)
      have n4_ := Aside0.mk (blk_drew BK386.out)
      have n5_ := Aside0.mk (below_drew1 HB.out)
      clear HO_6
      clear HO_387000
      clear HO_387001
      clear HO399
      clear BK386
      clear HB
      have HO_6 := n0_
      have HO_387000 := n1_
      have HO_387001 := n2_
      have HO399 := n3_
      have BK386 := n4_
      have HB := n5_
      clear n0_ n1_ n2_ n3_ n4_ n5_
      refine start_ (n := 21) (S := fun w' => True) (ds := []) #[false, false, false, false, false, false, false, false, false, false, false, false, false, false, false, false, false, false, false, false, false] (by kernel_rfl) rfl rfl trivial (fun hHeld => ?_); refine with_tabW topiarylaw15_TreeAround.tab8 topiarylaw15_TreeAround.bits8 (fun HT_ HW_ => ?_)
      generalize w48.drew = w51 at HO_6 HO_387000 HO_387001 HO399 BK386 HB hHeld ⊢
      refine pure_ (i := 0) (N := some 31) (v := ?_) (a' := ?_) #[true, false, false, false, false, false, false, false, false, false, false, false, false, false, false, false, false, false, false, false, false] rfl rfl (any_of HT_.out (by kernel_rfl)) (fun _ _ _ h => h) (Or.inl ⟨by rfl, ?_⟩) ?_ ?_
      rotate_left
      ·intro w'
       go_simp
       with_reducible rfl
      rotate_left
      ·simp only [Act.put, List.setIfInBounds_toArray, List.set_cons_zero, List.set_cons_succ, i64_w, i32_w]
       rfl
      refine pure_ (i := 1) (N := some 32) (v := ?_) (a' := ?_) #[true, true, false, false, false, false, false, false, false, false, false, false, false, false, false, false, false, false, false, false, false] rfl rfl (any_of HT_.out (by kernel_rfl)) (fun _ _ _ h => h) (Or.inl ⟨by rfl, ?_⟩) ?_ ?_
      rotate_left
      ·intro w'
       go_simp
       with_reducible rfl
      rotate_left
      ·simp only [Act.put, List.setIfInBounds_toArray, List.set_cons_zero, List.set_cons_succ, i64_w, i32_w]
       rfl
      refine pure_ (i := 2) (N := some 33) (v := undef) (a' := ?_) #[true, true, true, false, false, false, false, false, false, false, false, false, false, false, false, false, false, false, false, false, false] rfl rfl (any_of HT_.out (by kernel_rfl)) (fun _ _ _ h => h) (Or.inr ⟨by rfl, rfl⟩) ?_ ?_
      rotate_left
      ·simp only [Act.put, List.setIfInBounds_toArray, List.set_cons_zero, List.set_cons_succ, i64_w, i32_w]
       rfl
      refine pure_ (i := 3) (N := some 34) (v := ?_) (a' := ?_) #[true, true, true, true, false, false, false, false, false, false, false, false, false, false, false, false, false, false, false, false, false] rfl rfl (any_of HT_.out (by kernel_rfl)) (fun _ _ _ h => h) (Or.inl ⟨by rfl, ?_⟩) ?_ ?_
      rotate_left
      ·intro w'
       go_simp
       with_reducible rfl
      rotate_left
      ·simp only [Act.put, List.setIfInBounds_toArray, List.set_cons_zero, List.set_cons_succ, i64_w, i32_w]
       rfl
      refine pure_ (i := 4) (N := some 35) (v := ?_) (a' := ?_) #[true, true, true, true, true, false, false, false, false, false, false, false, false, false, false, false, false, false, false, false, false] rfl rfl (any_of HT_.out (by kernel_rfl)) (fun _ _ _ h => h) (Or.inl ⟨by rfl, ?_⟩) ?_ ?_
      rotate_left
      ·intro w'
       go_simp
       with_reducible rfl
      rotate_left
      ·simp only [Act.put, List.setIfInBounds_toArray, List.set_cons_zero, List.set_cons_succ, i64_w, i32_w]
       rfl
      refine pure_ (i := 5) (N := some 36) (v := undef) (a' := ?_) #[true, true, true, true, true, true, false, false, false, false, false, false, false, false, false, false, false, false, false, false, false] rfl rfl (any_of HT_.out (by kernel_rfl)) (fun _ _ _ h => h) (Or.inr ⟨by rfl, rfl⟩) ?_ ?_
      rotate_left
      ·simp only [Act.put, List.setIfInBounds_toArray, List.set_cons_zero, List.set_cons_succ, i64_w, i32_w]
       rfl
      refine pure_ (i := 6) (N := some 37) (v := undef) (a' := ?_) #[true, true, true, true, true, true, true, false, false, false, false, false, false, false, false, false, false, false, false, false, false] rfl rfl (any_of HT_.out (by kernel_rfl)) (fun _ _ _ h => h) (Or.inr ⟨by rfl, rfl⟩) ?_ ?_
      rotate_left
      ·simp only [Act.put, List.setIfInBounds_toArray, List.set_cons_zero, List.set_cons_succ, i64_w, i32_w]
       rfl
      refine pure_ (i := 7) (N := some 38) (v := undef) (a' := ?_) #[true, true, true, true, true, true, true, true, false, false, false, false, false, false, false, false, false, false, false, false, false] rfl rfl (any_of HT_.out (by kernel_rfl)) (fun _ _ _ h => h) (Or.inr ⟨by rfl, rfl⟩) ?_ ?_
      rotate_left
      ·simp only [Act.put, List.setIfInBounds_toArray, List.set_cons_zero, List.set_cons_succ, i64_w, i32_w]
       rfl
      refine pure_ (i := 8) (N := some 39) (v := undef) (a' := ?_) #[true, true, true, true, true, true, true, true, true, false, false, false, false, false, false, false, false, false, false, false, false] rfl rfl (any_of HT_.out (by kernel_rfl)) (fun _ _ _ h => h) (Or.inr ⟨by rfl, rfl⟩) ?_ ?_
      rotate_left
      ·simp only [Act.put, List.setIfInBounds_toArray, List.set_cons_zero, List.set_cons_succ, i64_w, i32_w]
       rfl
      refine pure_ (i := 9) (N := some 40) (v := undef) (a' := ?_) #[true, true, true, true, true, true, true, true, true, true, false, false, false, false, false, false, false, false, false, false, false] rfl rfl (any_of HT_.out (by kernel_rfl)) (fun _ _ _ h => h) (Or.inr ⟨by rfl, rfl⟩) ?_ ?_
      rotate_left
      ·simp only [Act.put, List.setIfInBounds_toArray, List.set_cons_zero, List.set_cons_succ, i64_w, i32_w]
       rfl
      refine pure_ (i := 10) (N := some 41) (v := ?_) (a' := ?_) #[true, true, true, true, true, true, true, true, true, true, true, false, false, false, false, false, false, false, false, false, false] rfl rfl (any_of HT_.out (by kernel_rfl)) (fun _ _ _ h => h) (Or.inl ⟨by rfl, ?_⟩) ?_ ?_
      rotate_left
      ·intro w'
       go_simp
       with_reducible rfl
      rotate_left
      ·simp only [Act.put, List.setIfInBounds_toArray, List.set_cons_zero, List.set_cons_succ, i64_w, i32_w]
       rfl
      refine pure_ (i := 11) (N := some 42) (v := ?_) (a' := ?_) #[true, true, true, true, true, true, true, true, true, true, true, true, false, false, false, false, false, false, false, false, false] rfl rfl (any_of HT_.out (by kernel_rfl)) (fun _ _ _ h => h) (Or.inl ⟨by rfl, ?_⟩) ?_ ?_
      rotate_left
      ·intro w'
       go_simp
       with_reducible rfl
      rotate_left
      ·simp only [Act.put, List.setIfInBounds_toArray, List.set_cons_zero, List.set_cons_succ, i64_w, i32_w]
       rfl
      refine pure_ (i := 12) (N := some 43) (v := undef) (a' := ?_) #[true, true, true, true, true, true, true, true, true, true, true, true, true, false, false, false, false, false, false, false, false] rfl rfl (any_of HT_.out (by kernel_rfl)) (fun _ _ _ h => h) (Or.inr ⟨by rfl, rfl⟩) ?_ ?_
      rotate_left
      ·simp only [Act.put, List.setIfInBounds_toArray, List.set_cons_zero, List.set_cons_succ, i64_w, i32_w]
       rfl
      refine pure_ (i := 13) (N := some 44) (v := undef) (a' := ?_) #[true, true, true, true, true, true, true, true, true, true, true, true, true, true, false, false, false, false, false, false, false] rfl rfl (any_of HT_.out (by kernel_rfl)) (fun _ _ _ h => h) (Or.inr ⟨by rfl, rfl⟩) ?_ ?_
      rotate_left
      ·simp only [Act.put, List.setIfInBounds_toArray, List.set_cons_zero, List.set_cons_succ, i64_w, i32_w]
       rfl
      refine pure_ (i := 14) (N := some 45) (v := undef) (a' := ?_) #[true, true, true, true, true, true, true, true, true, true, true, true, true, true, true, false, false, false, false, false, false] rfl rfl (any_of HT_.out (by kernel_rfl)) (fun _ _ _ h => h) (Or.inr ⟨by rfl, rfl⟩) ?_ ?_
      rotate_left
      ·simp only [Act.put, List.setIfInBounds_toArray, List.set_cons_zero, List.set_cons_succ, i64_w, i32_w]
       rfl
      refine pure_ (i := 15) (N := some 46) (v := undef) (a' := ?_) #[true, true, true, true, true, true, true, true, true, true, true, true, true, true, true, true, false, false, false, false, false] rfl rfl (any_of HT_.out (by kernel_rfl)) (fun _ _ _ h => h) (Or.inr ⟨by rfl, rfl⟩) ?_ ?_
      rotate_left
      ·simp only [Act.put, List.setIfInBounds_toArray, List.set_cons_zero, List.set_cons_succ, i64_w, i32_w]
       rfl
      refine pure_ (i := 16) (N := some 47) (v := undef) (a' := ?_) #[true, true, true, true, true, true, true, true, true, true, true, true, true, true, true, true, true, false, false, false, false] rfl rfl (any_of HT_.out (by kernel_rfl)) (fun _ _ _ h => h) (Or.inr ⟨by rfl, rfl⟩) ?_ ?_
      rotate_left
      ·simp only [Act.put, List.setIfInBounds_toArray, List.set_cons_zero, List.set_cons_succ, i64_w, i32_w]
       rfl
      refine pure_ (i := 17) (N := some 48) (v := undef) (a' := ?_) #[true, true, true, true, true, true, true, true, true, true, true, true, true, true, true, true, true, true, false, false, false] rfl rfl (any_of HT_.out (by kernel_rfl)) (fun _ _ _ h => h) (Or.inr ⟨by rfl, rfl⟩) ?_ ?_
      rotate_left
      ·simp only [Act.put, List.setIfInBounds_toArray, List.set_cons_zero, List.set_cons_succ, i64_w, i32_w]
       rfl
      refine pure_ (i := 18) (N := some 49) (v := undef) (a' := ?_) #[true, true, true, true, true, true, true, true, true, true, true, true, true, true, true, true, true, true, true, false, false] rfl rfl (any_of HT_.out (by kernel_rfl)) (fun _ _ _ h => h) (Or.inr ⟨by rfl, rfl⟩) ?_ ?_
      rotate_left
      ·simp only [Act.put, List.setIfInBounds_toArray, List.set_cons_zero, List.set_cons_succ, i64_w, i32_w]
       rfl
      refine pure_ (i := 19) (N := some 50) (v := ?_) (a' := ?_) #[true, true, true, true, true, true, true, true, true, true, true, true, true, true, true, true, true, true, true, true, false] rfl rfl (any_of HT_.out (by kernel_rfl)) (fun _ _ _ h => h) (Or.inl ⟨by rfl, ?_⟩) ?_ ?_
      rotate_left
      ·intro w'
       go_simp
       with_reducible rfl
      rotate_left
      ·simp only [Act.put, List.setIfInBounds_toArray, List.set_cons_zero, List.set_cons_succ, i64_w, i32_w]
       rfl
      refine pure_ (i := 20) (N := some 4) (v := ?_) (a' := ?_) #[true, true, true, true, true, true, true, true, true, true, true, true, true, true, true, true, true, true, true, true, true] rfl rfl (any_of HT_.out (by kernel_rfl)) (fun _ _ _ h => h) (Or.inl ⟨by rfl, ?_⟩) ?_ ?_
      rotate_left
      ·intro w'
       go_simp
       with_reducible rfl
      rotate_left
      ·simp only [Act.put, List.setIfInBounds_toArray, List.set_cons_zero, List.set_cons_succ, i64_w, i32_w]
       rfl
      refine done_ (done_of HT_.out (by kernel_rfl)) ?_
      try go_wp2
      go_ret
      exact ⟨by first | rfl | (simp [errW_none, errW_some] <;> rfl) | (simp [*, errW_none, errW_some] <;> rfl), by repeat (first | (with_reducible first | exact HB.out | apply below_alloc | apply pw_below_drewN | apply below_drew1 | refine below_set ?_ GE386.out) | exact HB.out)⟩
end Go.Proofs.Ytoanmoddppmffaa.T
