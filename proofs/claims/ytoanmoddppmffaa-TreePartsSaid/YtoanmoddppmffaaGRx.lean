/- What each function of the program comes to, and its walk: laid by a program. -/
import Derived.Test.YtoanmoddppmffaaGTx0
import Derived.Test.YtoanmoddppmffaaGTx1
import Derived.Test.YtoanmoddppmffaaGTx2
import Derived.Test.YtoanmoddppmffaaGTx3
import Derived.Test.YtoanmoddppmffaaGTx4
import Derived.Test.YtoanmoddppmffaaGTx5
import Derived.Test.YtoanmoddppmffaaGTx6
import Derived.Test.YtoanmoddppmffaaGTx7
import Derived.Test.YtoanmoddppmffaaGTx8
import Derived.Test.YtoanmoddppmffaaGTx9
import Derived.Test.YtoanmoddppmffaaGTx10
import Derived.Test.YtoanmoddppmffaaGTx11
import Derived.Test.YtoanmoddppmffaaGTx12
import Derived.Test.YtoanmoddppmffaaGTx13
import Derived.Test.YtoanmoddppmffaaGTx14
import Derived.Test.YtoanmoddppmffaaGTx15
import Derived.Test.YtoanmoddppmffaaGTx16
import Derived.Test.YtoanmoddppmffaaGTx17
import Derived.Test.YtoanmoddppmffaaGTx18
import Derived.Test.YtoanmoddppmffaaGTx19
import Derived.Test.YtoanmoddppmffaaGTx20
import Derived.Test.YtoanmoddppmffaaGTx21
namespace Go.Proofs.Ytoanmoddppmffaa.T
open Go.RowKit Go.Proofs.YtoanmoddppmffaaW.PrintWords Go.Proofs.YtoanmoddppmffaaW.PrintLast Go.Proofs.YtoanmoddppmffaaW.PrintMore
set_option linter.unusedVariables false
set_option linter.unusedSimpArgs false
mutual
def topiarylaw15_TreeParts.l0 : Nat → List Int → Bool → Int → Int → List ByteArray → List (S52) → Option (Bool)
 | 0, _, _, _, _, _, _ => none
 | k + 1, x1, x5, x8, x9, x374000, x374001 => (tree_Symbols.f x374000 x374001).bind fun t374 => (if x9 < t374 then ((tree_Paths.f k x374000 x374001 (([x9] : List Int))).bind fun t378 => (topiarylaw15_TreeParts.l0 k x1 x5 (wrap64 (x8 + (t378.length : Int))) (wrap64 (x9 + 1)) x374000 x374001)) else (if (x1.length : Int) > 4 then (if 4 ≤ (x1.length : Int) then (topiarylaw15_TreeParts.j1 k (x1.take 4) x5 x8 x374000 x374001) else (none)) else (topiarylaw15_TreeParts.j1 k x1 x5 x8 x374000 x374001)))
def topiarylaw15_TreeParts.j1 : Nat → List Int → Bool → Int → List ByteArray → List (S52) → Option (Bool)
 | 0, _, _, _, _, _ => none
 | k + 1, x1, x5, x8, x374000, x374001 => if (x1.length : Int) = 0 then (if x5 = true then (some (x8 == (x374001.length : Int))) else (some false)) else ((tree_Paths.f k x374000 x374001 x1).bind fun t386 => (if 1 ≤ (x1.length : Int) then ((tree_Paths.f k x374000 x374001 (x1.drop 1)).bind fun t394 => (topiarylaw15_TreeParts.l1 k x5 x8 t386 t394 0 0 x374000 x374001)) else (none)))
def topiarylaw15_TreeParts.l1 : Nat → Bool → Int → List Int → List Int → Int → Int → List ByteArray → List (S52) → Option (Bool)
 | 0, _, _, _, _, _, _, _, _ => none
 | k + 1, x5, x8, x10, x11, x12, x13, x374000, x374001 => if x13 < (x10.length : Int) then (topiarylaw15_TreeParts.l2 k x5 x8 x10 x11 x12 x13 x374000 x374001) else (if x5 = true then (some (x8 == (x374001.length : Int))) else (some false))
def topiarylaw15_TreeParts.l2 : Nat → Bool → Int → List Int → List Int → Int → Int → List ByteArray → List (S52) → Option (Bool)
 | 0, _, _, _, _, _, _, _, _ => none
 | k + 1, x5, x8, x10, x11, x12, x13, x374000, x374001 => if x12 < (x11.length : Int) then (if 0 ≤ x12 then (if 0 ≤ x13 then (if x13 < (x10.length : Int) then (if (rd x11 x12) = (rd x10 x13) then (if x12 = (x11.length : Int) then (some false) else (topiarylaw15_TreeParts.l1 k x5 x8 x10 x11 x12 (wrap64 (x13 + 1)) x374000 x374001)) else (topiarylaw15_TreeParts.l2 k x5 x8 x10 x11 (wrap64 (x12 + 1)) x13 x374000 x374001)) else (none)) else (none)) else (none)) else (if x12 = (x11.length : Int) then (some false) else (topiarylaw15_TreeParts.l1 k x5 x8 x10 x11 x12 (wrap64 (x13 + 1)) x374000 x374001))
end
def topiarylaw15_TreeParts.f (k : Nat) (a0 : ByteArray) (l1 : List Int) : Option (Bool) := (topiarylaw15_awake.f k).bind fun t364 => ((topiarylaw15_short.f a0 200).bind fun t365 => ((topiaryref13_Parse.f k t365).bind fun bt366 => (if bt366.2.2 = 0 then (topiarylaw15_TreeParts.l0 k l1 t364 0 0 bt366.1 bt366.2.1) else (some t364))))
def topiarylaw15_TreeParts.T20 : Bool × List (List Nat × List Nat) := (true, [([], []), ([], []), ([1], [1]), ([0, 2], [0, 2]), ([3], [3]), ([4], [4]), ([4], [4]), ([5, 6, 4], [4, 5, 6]), ([7, 4], [4, 7]), ([4], [4]), ([4], [4]), ([9, 10, 4], [4, 9, 10]), ([11, 4], [4, 11]), ([8, 12, 4], [4, 8, 12]), ([4, 13], [4, 13])])
def topiarylaw15_TreeParts.B20 : List Nat := [0, 0, 2, 7, 15, 31, 31, 127, 255, 31, 31, 1567, 3615, 8191, 16383]
theorem topiarylaw15_TreeParts.tab20 : rtab .any (opsOf Try.f7 20) = topiarylaw15_TreeParts.T20 := by kernel_rfl
theorem topiarylaw15_TreeParts.bits20 : waitsOk topiarylaw15_TreeParts.T20.2 topiarylaw15_TreeParts.B20 = true := by kernel_rfl
set_option maxHeartbeats 8000000 in
set_option maxRecDepth 100000 in
theorem topiarylaw15_TreeParts.calls (k : Nat) (a0 : ByteArray) (P1_ : Nat → Prop) (A1 : Option Addr) (c1 : Nat) (l1 : List Int) (r : Bool) (w : World) (hs1 : Kd.V (Kd.int .i64) 3 w w.heap.size (fun k_ => P1_ k_) (.slice A1 l1.length c1) l1) (h : topiarylaw15_TreeParts.f k a0 l1 = some r) (hrt : r = true) :
  Calls Try.prog 7 #[.string a0, .slice A1 l1.length c1] w fun e w' => e = .returned (.bool r) ∧ Below w.heap.size w w' := by
 have HRT := Aside0.mk hrt
 clear hrt
 have hu25 := Try.underlying25
 have HO1 := Aside0.mk (show Kd.V (Kd.int .i64) 3 w w.heap.size (fun k_ => (P1_ k_ ∨ w.heap.size ≤ k_)) (.slice A1 l1.length c1) l1 from Kd.V_mono hs1 (fun k_ hk => .inl hk))
 have HB := Aside0.mk (Below.refl w.heap.size w)
 have H : ((topiarylaw15_awake.f k).bind fun t364 => ((topiarylaw15_short.f a0 200).bind fun t365 => ((topiaryref13_Parse.f k t365).bind fun bt366 => (if bt366.2.2 = 0 then (topiarylaw15_TreeParts.l0 k l1 t364 0 0 bt366.1 bt366.2.1) else (some t364))))) = some r := h
 clear h
 replace H := Option.bind_eq_some_iff.mp H
 obtain ⟨t364, A30, H⟩ := H
 replace H : ((topiarylaw15_short.f a0 200).bind fun t365 => ((topiaryref13_Parse.f k t365).bind fun bt366 => (if bt366.2.2 = 0 then (topiarylaw15_TreeParts.l0 k l1 t364 0 0 bt366.1 bt366.2.1) else (some t364)))) = some r := H
 have A3 := Aside0.mk A30
 clear A30
 replace H := Option.bind_eq_some_iff.mp H
 obtain ⟨t365, A40, H⟩ := H
 replace H : ((topiaryref13_Parse.f k t365).bind fun bt366 => (if bt366.2.2 = 0 then (topiarylaw15_TreeParts.l0 k l1 t364 0 0 bt366.1 bt366.2.1) else (some t364))) = some r := H
 have A4 := Aside0.mk A40
 clear A40
 replace H := Option.bind_eq_some_iff.mp H
 obtain ⟨⟨t366, t369, t372⟩, A50, H⟩ := H
 replace H : (if t372 = 0 then (topiarylaw15_TreeParts.l0 k l1 t364 0 0 t366 t369) else (some t364)) = some r := H
 have A5 := Aside0.mk A50
 clear A50
 by_cases c6 : t372 = 0
 ·rw [if_pos c6] at H
  have c6b0 : (t372 == 0) = true := beq_iff_eq.mpr c6
  have c6b1 : (t372 != 0) = false := bne_eq_false_iff_eq.mpr c6
  clear c6
  have H' := Aside0.mk H
  clear H
  go_enter Try.func7, Try.ntmps7
  go_wp2_with (first | ((with_reducible refine gate_callee (f := 9) rfl ?_); refine goesL_ (some 14) rfl rfl Try.func9 (by kernel_rfl) rfl #[] rfl ar_ ?_; (with_reducible refine (topiarylaw15_awake.calls k  t364 _ A3.out).mono ?_); rintro e w7 ⟨rfl, hb⟩; refine ⟨_, rfl, ?_⟩; have n0_ := Aside0.mk (Kd.V_below (by (with_reducible repeat (first | apply Kd.V_alloc | apply Kd.V_drewN | apply Kd.V_drew)); exact HO1.out) hb); have n1_ := Aside0.mk (below_step (bb_ HB.out) hb); clear HO1; clear HB; have HO1 := n0_; have HB := n1_; clear n0_ n1_; (try clear hb); (try clear hb2); (try clear hk); (try clear hi)) | ((with_reducible refine gate_callee (f := 29) rfl ?_); refine goesL_ (some 17) rfl rfl Try.func29 (by kernel_rfl) rfl #[.string a0, .int .i64 200] rfl ar_ ?_; (with_reducible refine (topiarylaw15_short.calls a0 200 t365 _ A4.out).mono ?_); rintro e w' ⟨rfl, ⟨nd, rfl⟩⟩; refine ⟨_, rfl, ?_⟩; (try (rw [drewN_self w7]; generalize hq_ : World.drewN w7 _ = w7; have n0_ : Aside0 (Kd.V (Kd.int .i64) 3 w7 w.heap.size (fun k_ => (P1_ k_ ∨ w.heap.size ≤ k_)) (.slice A1 l1.length c1) l1) := ⟨by rw [← hq_]; exact (by (with_reducible repeat (first | apply Kd.V_alloc | apply Kd.V_drewN | apply Kd.V_drew)); exact HO1.out)⟩; have n1_ : Aside0 (Below w.heap.size w w7) := ⟨by rw [← hq_]; exact (bb_ HB.out)⟩; clear HO1 HB hq_; have HO1 := n0_; have HB := n1_; clear n0_ n1_))) | ((with_reducible refine gate_callee (f := 28) rfl ?_); refine goesL_ (some 18) rfl rfl Try.func28 (by kernel_rfl) rfl #[.string t365] rfl ar_ ?_; (with_reducible refine (topiaryref13_Parse.calls k t365 t366 t369 t372 _ A5.out).mono ?_); rintro e w8 ⟨v367, v370, rfl, ho0, ho1, hb⟩; refine ⟨_, rfl, ?_⟩; have n0_ := Aside0.mk (Kd.V_mono (Kd.V_told (Kd.V_told (Kd.V_old (by (with_reducible repeat (first | apply Kd.V_alloc | apply Kd.V_drewN | apply Kd.V_drew)); exact HO1.out) hb) (Kd.R_base ho0)) (Kd.R_base ho1)) (fun _ h_ => h_.1)); have n1_ := Aside0.mk (Kd.R_lower (Kd.R_newM (M := fun k_ => (w.heap.size ≤ k_)) ho0 (below_size (bb_ HB.out)) (fun k_ h_ => h_)) (below_size (bb_ HB.out))); have n2_ := Aside0.mk (Kd.R_lower (Kd.R_newM (M := fun k_ => (w.heap.size ≤ k_)) ho1 (below_size (bb_ HB.out)) (fun k_ h_ => h_)) (below_size (bb_ HB.out))); have n3_ := Aside0.mk (below_step (bb_ HB.out) hb); clear HO1; clear HB; have HO1 := n0_; have HO368 := n1_; have HO371 := n2_; have HB := n3_; clear n0_ n1_ n2_ n3_; (try clear hb); (try clear hb2); (try clear hk); (try clear hi); (try clear ho0); (try clear ho1)) | ((with_reducible refine gate_dst (N := 6) rfl ?_); (try (refine gate_guard (by rfl) ?_; dsimp only)); refine box_event ?hg (N := 6) ?hd (cs := #[.slice none 0 0, .slice none 0 0]) (t := 25) ?hr ?_; (case hd => rfl); (case hg => rfl); (case hr => first | (go_simp; done) | (go_simp; rfl)); intro gb373 hg w9 hbox hb; have n0_ := Aside0.mk (Kd.V_below (Kd.V_elderB (by (with_reducible repeat (first | apply Kd.V_alloc | apply Kd.V_drewN | apply Kd.V_drew)); exact HO1.out) gb373 (Nat.le_of_eq hg.symm)) hb); have n1_ := Aside0.mk (Kd.R_below (rr_ HO368.out) hb); have n2_ := Aside0.mk (Kd.R_below (rr_ HO371.out) hb); have n3_ := Aside0.mk (below_step (bb_ HB.out) hb); have n4_ := Aside0.mk (hbox); have n5_ := Aside0.mk ((by rw [hg]; exact (below_size (bb_ HB.out)) : w.heap.size ≤ gb373)); have n6_ := Aside0.mk ((by rw [hg]; exact (below_size (bb_ HB.out)) : w.heap.size ≤ gb373)); clear HO1; clear HO368; clear HO371; clear HB; have HO1 := n0_; have HO368 := n1_; have HO371 := n2_; have HB := n3_; have BK373 := n4_; have GW373 := n5_; have GE373 := n6_; clear n0_ n1_ n2_ n3_ n4_ n5_ n6_; clear hb hbox hg; obtain ⟨Ao10, co10, eo10⟩ := Kd.R_slice HO368.out; subst eo10; have hcz11_0 : w9.cell? ⟨gb373, 0, none⟩ = some (.slice none 0 0) := (blk_cell BK373.out 0).trans rfl; have hcz11_1 : w9.cell? ⟨gb373, 1, none⟩ = some (.slice none 0 0) := (blk_cell BK373.out 1).trans rfl; have hfz11_0 := blk_frozen BK373.out 0; have hfz11_1 := blk_frozen BK373.out 1; obtain ⟨Ao12, co12, eo12⟩ := Kd.R_slice HO371.out; subst eo12))
  go_loopg [8, 9] k (fun kq v8 v9 w' => ∃ (x8_1 : Int) (x9_1 : Int), v8 = .int .i64 x8_1 ∧ v9 = .int .i64 x9_1 ∧ Aside0 (topiarylaw15_TreeParts.l0 kq l1 t364 x8_1 x9_1 t366 t369 = some r) ∧ Aside0 (kq ≤ k) ∧ Aside0 (Kd.V (Kd.int .i64) 3 w' w.heap.size (fun k_ => (P1_ k_ ∨ w.heap.size ≤ k_) ∧ some k_ ≠ ((.slice Ao10 t366.length co10) : Value).ownBlock ∧ some k_ ≠ ((.slice Ao12 t369.length co12) : Value).ownBlock ∧ k_ ≠ gb373) (.slice A1 l1.length c1) l1) ∧ Aside0 (Kd.R Kd.string 9 w' w.heap.size (fun k_ => (w.heap.size ≤ k_)) (.slice Ao10 t366.length co10) t366) ∧ Aside0 (Kd.R k52 52 w' w.heap.size (fun k_ => (w.heap.size ≤ k_)) (.slice Ao12 t369.length co12) t369) ∧ Aside0 (w'.heap[gb373]? = some (.cells #[(.slice Ao10 t366.length co10), (.slice Ao12 t369.length co12)] 25 (0, 0))) ∧ Aside0 (Below w.heap.size w w'))
  case atStart => exact ⟨(0), (0), sm_, sm_, H', ⟨Nat.le_refl _⟩, ⟨by (with_reducible repeat (first | apply Kd.V_alloc | apply Kd.V_drewN | apply Kd.V_drew)); exact Kd.V_mono (Kd.V_far (p := ⟨gb373, 1, none⟩) (Kd.V_far (p := ⟨gb373, 0, none⟩) (Kd.V_mono HO1.out (fun k_ hk => (⟨hk, hk.2⟩ : _ ∧ k_ ≠ gb373))) (fun _ hk => hk.2) (.slice Ao10 t366.length co10)) (fun _ hk => hk.2) (.slice Ao12 t369.length co12)) (fun _ hk => ⟨hk.1.1.1.1, ⟨hk.1.1.1.2, ⟨hk.1.1.2, hk.1.2⟩⟩⟩)⟩, ⟨by (with_reducible repeat (first | apply Kd.R_alloc | apply Kd.R_drewN | apply Kd.R_drew)); exact Kd.R_mono (Kd.R_far (p := ⟨gb373, 1, none⟩) (Kd.R_far (p := ⟨gb373, 0, none⟩) (Kd.R_types HO368.out BK373.out (by decide)) (fun _ hk => hk.2) (.slice Ao10 t366.length co10)) (fun _ hk => hk.2) (.slice Ao12 t369.length co12)) (fun _ hk => hk.1.1)⟩, ⟨by (with_reducible repeat (first | apply Kd.R_alloc | apply Kd.R_drewN | apply Kd.R_drew)); exact Kd.R_mono (Kd.R_far (p := ⟨gb373, 1, none⟩) (Kd.R_far (p := ⟨gb373, 0, none⟩) (Kd.R_types HO371.out BK373.out (by decide)) (fun _ hk => hk.2) (.slice Ao10 t366.length co10)) (fun _ hk => hk.2) (.slice Ao12 t369.length co12)) (fun _ hk => hk.1.1)⟩, ⟨by (with_reducible repeat (first | refine blk_drewN ?_ _ | refine blk_drew ?_ | refine blk_alloc ?_ _)); refine blk_put (cs := #[.slice Ao10 t366.length co10, .slice none 0 0]) ?_ 1 _ rfl; (with_reducible repeat (first | refine blk_drewN ?_ _ | refine blk_drew ?_ | refine blk_alloc ?_ _)); refine blk_put (cs := #[.slice none 0 0, .slice none 0 0]) ?_ 0 _ rfl; exact bk_ BK373.out⟩, ⟨by repeat (first | (with_reducible first | exact HB.out | apply below_alloc | apply pw_below_drewN | apply below_drew1 | refine below_set ?_ GE373.out) | exact HB.out)⟩⟩
  case round =>
   clear H'
   try clear c1
   try clear c2
   try clear p2
   try clear c6
   try clear c6b0
   try clear c6b1
   try clear c7
   try clear c9
   try clear hcz11_0
   try clear hcz11_1
   try clear hfz11_0
   try clear hfz11_1
   obtain ⟨x8_1, x9_1, rfl, rfl, HA, HK1, HO_1, HO_374000, HO_374001, BK373, HB⟩ := hrel
   cases gk with
   | zero => exact absurd HA.out (by simp [topiarylaw15_TreeParts.l0])
   | succ k1 =>
    have H := HA.out
    clear HA
    simp only [topiarylaw15_TreeParts.l0] at H
    replace H := Option.bind_eq_some_iff.mp H
    obtain ⟨t374, A130, H⟩ := H
    replace H : (if x9_1 < t374 then ((tree_Paths.f k1 t366 t369 (([x9_1] : List Int))).bind fun t378 => (topiarylaw15_TreeParts.l0 k1 l1 t364 (wrap64 (x8_1 + (t378.length : Int))) (wrap64 (x9_1 + 1)) t366 t369)) else (if (l1.length : Int) > 4 then (if 4 ≤ (l1.length : Int) then (topiarylaw15_TreeParts.j1 k1 (l1.take 4) t364 x8_1 t366 t369) else (none)) else (topiarylaw15_TreeParts.j1 k1 l1 t364 x8_1 t366 t369))) = some r := H
    have A13 := Aside0.mk A130
    clear A130
    by_cases c14 : x9_1 < t374
    ·rw [if_pos c14] at H
     have c14b0 : decide (x9_1 < t374) = true := decide_eq_true c14
     clear c14
     obtain ⟨y375, hy375⟩ : ∃ y_ : List Int, y_ = (([x9_1] : List Int)) := ⟨_, rfl⟩
     replace H : ((tree_Paths.f k1 t366 t369 y375).bind fun t378 => (topiarylaw15_TreeParts.l0 k1 l1 t364 (wrap64 (x8_1 + (t378.length : Int))) (wrap64 (x9_1 + 1)) t366 t369)) = some r := by first | (rw [hy375]; with_reducible exact H) | (have H2_ := (Option.bind_some _ _).symm.trans H; rw [hy375]; with_reducible exact H2_) | (have H2_ := (Option.bind_some _ _).symm.trans H; with_reducible exact H2_) | with_reducible exact H | (rw [hy375]; exact H) | exact H
     have Ny375 := Aside0.mk hy375
     clear hy375
     replace H := Option.bind_eq_some_iff.mp H
     obtain ⟨t378, A150, H⟩ := H
     replace H : (topiarylaw15_TreeParts.l0 k1 l1 t364 (wrap64 (x8_1 + (t378.length : Int))) (wrap64 (x9_1 + 1)) t366 t369) = some r := H
     have A15 := Aside0.mk A150
     clear A150
     have H' := Aside0.mk H
     clear H
     have hcz16_0 : wr.cell? ⟨gb373, 0, none⟩ = some (.slice Ao10 t366.length co10) := (blk_cell BK373.out 0).trans rfl
     have hcz16_1 : wr.cell? ⟨gb373, 1, none⟩ = some (.slice Ao12 t369.length co12) := (blk_cell BK373.out 1).trans rfl
     have hfz16_0 := blk_frozen BK373.out 0
     have hfz16_1 := blk_frozen BK373.out 1
     go_wp2_with (first | ((with_reducible refine gate_callee (f := 15) rfl ?_); refine goesL_ (some 26) rfl rfl Try.func15 (by kernel_rfl) rfl #[.agg #[.slice Ao10 t366.length co10, .slice Ao12 t369.length co12]] rfl ar_ ?_; (with_reducible refine (tree_Symbols.calls _ _ t366 _ _ t369 t374 _ ?side1 ?side2 ?side3 ?side4 A13.out).mono ?_); (case side1 => repeat (first | exact (Kd.R_reads' HO_374000.out).2.2 | (with_reducible refine Kd.C_alloc ?_ _) | (with_reducible refine Kd.C_drewN ?_ _) | (with_reducible refine Kd.C_drew ?_))); (case side2 => exact (Kd.R_reads' HO_374000.out).2.1); (case side3 => repeat (first | exact (Kd.R_reads' HO_374001.out).2.2 | (with_reducible refine Kd.C_alloc ?_ _) | (with_reducible refine Kd.C_drewN ?_ _) | (with_reducible refine Kd.C_drew ?_))); (case side4 => exact (Kd.R_reads' HO_374001.out).2.1); rintro e w17 ⟨rfl, hb⟩; refine ⟨_, rfl, ?_⟩; have n0_ := Aside0.mk (Kd.V_below (by (with_reducible repeat (first | apply Kd.V_alloc | apply Kd.V_drewN | apply Kd.V_drew)); exact HO_1.out) hb); have n1_ := Aside0.mk (Kd.R_below (rr_ HO_374000.out) hb); have n2_ := Aside0.mk (Kd.R_below (rr_ HO_374001.out) hb); have n3_ := Aside0.mk (blk_below (g := gb373) (o := .cells #[.slice Ao10 t366.length co10, .slice Ao12 t369.length co12] 25 (0, 0)) (bk_ BK373.out) hb); have n4_ := Aside0.mk (below_step (bs_ HB.out GE373.out) hb); clear HO_1; clear HO_374000; clear HO_374001; clear BK373; clear HB; have HO_1 := n0_; have HO_374000 := n1_; have HO_374001 := n2_; have BK373 := n3_; have HB := n4_; clear n0_ n1_ n2_ n3_ n4_; (try clear hb); (try clear hb2); (try clear hk); (try clear hi); have hcz18_0 : w17.cell? ⟨gb373, 0, none⟩ = some (.slice Ao10 t366.length co10) := (blk_cell BK373.out 0).trans rfl; have hcz18_1 : w17.cell? ⟨gb373, 1, none⟩ = some (.slice Ao12 t369.length co12) := (blk_cell BK373.out 1).trans rfl; have hfz18_0 := blk_frozen BK373.out 0; have hfz18_1 := blk_frozen BK373.out 1) | ((with_reducible refine gate_dst (N := 33) rfl ?_); (try (refine gate_guard (by rfl) ?_; dsimp only)); refine Kd.R_lit (Kd.int .i64) _ 3 ?hg (N := 33) ?hd (xs := ([x9_1] : List Int)) (inner := [.int .i64 x9_1]) (ok := fun _ => True) (okp := fun _ => True) ?hr ?hp (fun _ hk => hk) trivial (Below.refl _ _) (Nat.le_refl _) (by simp) ?_; (case hd => rfl); (case hg => rfl); (case hr => first | (go_simp; done) | (go_simp; rfl)); (case hp => exact (Reps.one (show Kd.M (Kd.int .i64) _ _ _ x9_1 [.int .i64 x9_1] from rfl) (Reps.none _ _))); intro v376 w19 ho20 hb hg_ hnew_; clear hg_ hnew_; (first | rw [← Ny375.out] at ho20 | (simp only [Int.reduceToNat] at ho20; rw [← Ny375.out] at ho20)); have n0_ := Aside0.mk (Kd.V_elder' (by (with_reducible repeat (first | apply Kd.V_alloc | apply Kd.V_drewN | apply Kd.V_drew)); exact HO_1.out) (Kd.R_base ho20) hb); have n1_ := Aside0.mk (Kd.R_below (rr_ HO_374000.out) hb); have n2_ := Aside0.mk (Kd.R_below (rr_ HO_374001.out) hb); have n3_ := Aside0.mk (Kd.R_lower (Kd.R_newM (M := fun k_ => (w.heap.size ≤ k_)) ho20 (below_size (bs_ HB.out GE373.out)) (fun k_ h_ => h_)) (below_size (bs_ HB.out GE373.out))); have n4_ := Aside0.mk (blk_below (g := gb373) (o := .cells #[.slice Ao10 t366.length co10, .slice Ao12 t369.length co12] 25 (0, 0)) (bk_ BK373.out) hb); have n5_ := Aside0.mk (below_step (bs_ HB.out GE373.out) hb); clear HO_1; clear HO_374000; clear HO_374001; clear BK373; clear HB; have HO_1 := n0_; have HO_374000 := n1_; have HO_374001 := n2_; have HO377 := n3_; have BK373 := n4_; have HB := n5_; clear n0_ n1_ n2_ n3_ n4_ n5_; clear hb ho20; obtain ⟨Ao21, co21, eo21⟩ := Kd.R_slice HO377.out; subst eo21) | ((with_reducible refine gate_callee (f := 30) rfl ?_); refine goesL_ (some 34) rfl rfl Try.func30 (by kernel_rfl) rfl #[.agg #[.slice Ao10 t366.length co10, .slice Ao12 t369.length co12], .slice Ao21 y375.length co21] rfl ar_ ?_; (with_reducible refine (tree_Paths.calls k1 _ _ t366 _ _ t369 (fun k_ => some k_ = (.slice Ao21 y375.length co21 : Value).ownBlock) _ _ y375 t378 _ ?side1 ?side2 ?side3 ?side4 ?side5 A15.out).mono ?_); (case side1 => repeat (first | exact (Kd.R_reads' HO_374000.out).2.2 | (with_reducible refine Kd.C_alloc ?_ _) | (with_reducible refine Kd.C_drewN ?_ _) | (with_reducible refine Kd.C_drew ?_))); (case side2 => exact (Kd.R_reads' HO_374000.out).2.1); (case side3 => repeat (first | exact (Kd.R_reads' HO_374001.out).2.2 | (with_reducible refine Kd.C_alloc ?_ _) | (with_reducible refine Kd.C_drewN ?_ _) | (with_reducible refine Kd.C_drew ?_))); (case side4 => exact (Kd.R_reads' HO_374001.out).2.1); (case side5 => exact Kd.R_V (Kd.R_tight rfl (Kd.R_types (Kd.R_apart' (Kd.R_apart' (HO377.out) (Kd.R_typed HO_374000.out) (by decide)) (Kd.R_typed HO_374001.out) (by decide)) BK373.out (by decide)))); rintro e w22 ⟨v379, rfl, ho0, hb⟩; refine ⟨_, rfl, ?_⟩; have n0_ := Aside0.mk (Kd.V_elder' (by (with_reducible repeat (first | apply Kd.V_alloc | apply Kd.V_drewN | apply Kd.V_drew)); exact HO_1.out) (Kd.R_base ho0) hb); have n1_ := Aside0.mk (Kd.R_below (rr_ HO_374000.out) hb); have n2_ := Aside0.mk (Kd.R_below (rr_ HO_374001.out) hb); have n3_ := Aside0.mk (Kd.R_elder' (rr_ HO377.out) (Kd.R_base ho0) hb); have n4_ := Aside0.mk (Kd.R_lower (Kd.R_new' (Kd.R_newM (M := fun k_ => (w.heap.size ≤ k_)) (Kd.R_mono (ok' := fun k_ => True) ho0 (fun _ hk_ => trivial)) (below_size (bs_ HB.out GE373.out)) (fun k_ h_ => h_)) (Kd.R_lt (rr_ HO377.out))) (below_size (bs_ HB.out GE373.out))); have n5_ := Aside0.mk (blk_below (g := gb373) (o := .cells #[.slice Ao10 t366.length co10, .slice Ao12 t369.length co12] 25 (0, 0)) (bk_ BK373.out) hb); have n6_ := Aside0.mk (below_step (bs_ HB.out GE373.out) hb); clear HO_1; clear HO_374000; clear HO_374001; clear HO377; clear BK373; clear HB; have HO_1 := n0_; have HO_374000 := n1_; have HO_374001 := n2_; have HO377 := n3_; have HO380 := n4_; have BK373 := n5_; have HB := n6_; clear n0_ n1_ n2_ n3_ n4_ n5_ n6_; (try clear hb); (try clear hb2); (try clear hk); (try clear hi); (try clear ho0); obtain ⟨Ao23, co23, eo23⟩ := Kd.R_slice HO380.out; subst eo23))
     go_roundg k1
     case measure => have := HK1.out; omega
     case rel => exact ⟨(wrap64 (x8_1 + (t378.length : Int))), (wrap64 (x9_1 + 1)), sm_, sm_, H', ⟨by have := HK1.out; omega⟩, ⟨by (with_reducible repeat (first | apply Kd.V_alloc | apply Kd.V_drewN | apply Kd.V_drew)); exact Kd.V_mono HO_1.out (fun _ hk => ⟨hk.1.1.1, ⟨hk.1.1.2.1, ⟨hk.1.1.2.2.1, hk.1.1.2.2.2⟩⟩⟩)⟩, ⟨by exact rr_ HO_374000.out⟩, ⟨by exact rr_ HO_374001.out⟩, ⟨by exact bk_ BK373.out⟩, ⟨by repeat (first | (with_reducible first | exact HB.out | apply below_alloc | apply pw_below_drewN | apply below_drew1 | refine below_set ?_ GE373.out) | exact HB.out)⟩⟩
    ·rw [if_neg c14] at H
     have c14b0 : decide (x9_1 < t374) = false := decide_eq_false c14
     clear c14
     have HC24 := Aside0.mk H
     clear H
     have hcz25_0 : wr.cell? ⟨gb373, 0, none⟩ = some (.slice Ao10 t366.length co10) := (blk_cell BK373.out 0).trans rfl
     have hcz25_1 : wr.cell? ⟨gb373, 1, none⟩ = some (.slice Ao12 t369.length co12) := (blk_cell BK373.out 1).trans rfl
     have hfz25_0 := blk_frozen BK373.out 0
     have hfz25_1 := blk_frozen BK373.out 1
     go_upto_if 39 with (first | ((with_reducible refine gate_callee (f := 15) rfl ?_); refine goesL_ (some 26) rfl rfl Try.func15 (by kernel_rfl) rfl #[.agg #[.slice Ao10 t366.length co10, .slice Ao12 t369.length co12]] rfl ar_ ?_; (with_reducible refine (tree_Symbols.calls _ _ t366 _ _ t369 t374 _ ?side1 ?side2 ?side3 ?side4 A13.out).mono ?_); (case side1 => repeat (first | exact (Kd.R_reads' HO_374000.out).2.2 | (with_reducible refine Kd.C_alloc ?_ _) | (with_reducible refine Kd.C_drewN ?_ _) | (with_reducible refine Kd.C_drew ?_))); (case side2 => exact (Kd.R_reads' HO_374000.out).2.1); (case side3 => repeat (first | exact (Kd.R_reads' HO_374001.out).2.2 | (with_reducible refine Kd.C_alloc ?_ _) | (with_reducible refine Kd.C_drewN ?_ _) | (with_reducible refine Kd.C_drew ?_))); (case side4 => exact (Kd.R_reads' HO_374001.out).2.1); rintro e w26 ⟨rfl, hb⟩; refine ⟨_, rfl, ?_⟩; have n0_ := Aside0.mk (Kd.V_below (by (with_reducible repeat (first | apply Kd.V_alloc | apply Kd.V_drewN | apply Kd.V_drew)); exact HO_1.out) hb); have n1_ := Aside0.mk (Kd.R_below (rr_ HO_374000.out) hb); have n2_ := Aside0.mk (Kd.R_below (rr_ HO_374001.out) hb); have n3_ := Aside0.mk (blk_below (g := gb373) (o := .cells #[.slice Ao10 t366.length co10, .slice Ao12 t369.length co12] 25 (0, 0)) (bk_ BK373.out) hb); have n4_ := Aside0.mk (below_step (bs_ HB.out GE373.out) hb); clear HO_1; clear HO_374000; clear HO_374001; clear BK373; clear HB; have HO_1 := n0_; have HO_374000 := n1_; have HO_374001 := n2_; have BK373 := n3_; have HB := n4_; clear n0_ n1_ n2_ n3_ n4_; (try clear hb); (try clear hb2); (try clear hk); (try clear hi)))
     (try simp only [Act.put, List.setIfInBounds_toArray, List.set_cons_zero, List.set_cons_succ])
     go_cut [1] (fun v1 wc => ∃ (kq : Nat) (x1_23 : List Int), Aside0 (topiarylaw15_TreeParts.j1 kq x1_23 t364 x8_1 t366 t369 = some r) ∧ Aside0 (kq ≤ k1) ∧ Aside0 (Kd.V (Kd.int .i64) 3 wc w.heap.size (fun k_ => (P1_ k_ ∨ w.heap.size ≤ k_) ∧ some k_ ≠ ((.slice Ao10 t366.length co10) : Value).ownBlock ∧ some k_ ≠ ((.slice Ao12 t369.length co12) : Value).ownBlock ∧ k_ ≠ gb373) v1 x1_23) ∧ Aside0 (Kd.R Kd.string 9 wc w.heap.size (fun k_ => (w.heap.size ≤ k_)) (.slice Ao10 t366.length co10) t366) ∧ Aside0 (Kd.R k52 52 wc w.heap.size (fun k_ => (w.heap.size ≤ k_)) (.slice Ao12 t369.length co12) t369) ∧ Aside0 (wc.heap[gb373]? = some (.cells #[(.slice Ao10 t366.length co10), (.slice Ao12 t369.length co12)] 25 (0, 0))) ∧ Aside0 (Below w.heap.size w wc))
     case first =>
      have H := HC24.out
      clear HC24
      by_cases c27 : (l1.length : Int) > 4
      ·rw [if_pos c27] at H
       have c27b0 : decide (4 < (l1.length : Int)) = true := decide_eq_true c27
       have c27b1 : decide (4 < l1.length) = true := decide_eq_true (by omega)
       clear c27
       (first | rw [c27b0] | (simp only [i64_w, i32_w]; rw [c27b0]) | skip)
       by_cases c28 : 4 ≤ (l1.length : Int)
       ·rw [if_pos c28] at H
        have c28b0 := eq_true c28
        have c28b1 : decide (4 ≤ (l1.length : Int)) = true := decide_eq_true c28
        clear c28
        obtain ⟨y381, hy381⟩ : ∃ y_ : List Int, y_ = (l1.take 4) := ⟨_, rfl⟩
        replace H : (topiarylaw15_TreeParts.j1 k1 y381 t364 x8_1 t366 t369) = some r := by first | (rw [hy381]; with_reducible exact H) | (have H2_ := (Option.bind_some _ _).symm.trans H; rw [hy381]; with_reducible exact H2_) | (have H2_ := (Option.bind_some _ _).symm.trans H; with_reducible exact H2_) | with_reducible exact H | (rw [hy381]; exact H) | exact H
        have Ny381 := Aside0.mk hy381
        clear hy381
        have H' := Aside0.mk H
        clear H
        have q29 : (4 : Int) ≤ ((l1.length : Int) : Int) := of_decide_eq_true as_
        obtain ⟨i029, hi029, _, hsz29, _⟩ := info_parts info3
        have hroom29 : l1.length ≤ c1 := (Kd.V_reads' HO_1.out).2.1
        have hC29 : Kd.F (Kd.int .i64) _ _ A1 l1.length l1 := (Kd.V_at (base := w.heap.size) HO_1.out).2.2
        have hcut29 := cut_to (P := Try.prog) 29 3 .i64 Try.underlying29 hi029 A1 l1.length c1 4 (by omega) q29 hroom29
        have hr29 := Kd.F_take (m := 4) hC29 (by omega)
        have hy29 : y381.length = (4 : Int).toNat := (by rw [Ny381.out, List.length_take]; omega)
        rw [← Ny381.out] at hr29
        rw [← hy29] at hcut29
        have HO385 := Aside0.mk (show Kd.V (Kd.int .i64) 3 _ w.heap.size _ (.slice A1 y381.length c1) y381 from Kd.V_mk (by omega) hr29)
        have HC385 := Aside0.mk (show y381.length ≤ c1 from by omega)
        clear hr29 hC29 hroom29 hi029 hsz29
        have KY29 := Aside0.mk hy29
        clear hy29
        replace q29 := eq_true q29
        go_wp2
        go_meet
        case rel => exact ⟨_, (y381), H', ⟨by have := HK1.out; first | omega | exact Nat.le_refl _⟩, ⟨by (with_reducible repeat (first | apply Kd.V_alloc | apply Kd.V_drewN | apply Kd.V_drew)); exact HO385.out⟩, ⟨by exact rr_ HO_374000.out⟩, ⟨by exact rr_ HO_374001.out⟩, ⟨by exact bk_ BK373.out⟩, ⟨by repeat (first | (with_reducible first | exact HB.out | apply below_alloc | apply pw_below_drewN | apply below_drew1 | refine below_set ?_ GE373.out) | exact HB.out)⟩⟩
       ·rw [if_neg c28] at H
        exact absurd H (by simp)
      ·rw [if_neg c27] at H
       have c27b0 : decide (4 < (l1.length : Int)) = false := decide_eq_false c27
       have c27b1 : decide (4 < l1.length) = false := decide_eq_false (by omega)
       clear c27
       (first | rw [c27b0] | (simp only [i64_w, i32_w]; rw [c27b0]) | skip)
       have H' := Aside0.mk H
       clear H
       go_wp2
       go_meet
       case rel => exact ⟨_, (l1), H', ⟨by have := HK1.out; first | omega | exact Nat.le_refl _⟩, ⟨by (with_reducible repeat (first | apply Kd.V_alloc | apply Kd.V_drewN | apply Kd.V_drew)); exact HO_1.out⟩, ⟨by exact rr_ HO_374000.out⟩, ⟨by exact rr_ HO_374001.out⟩, ⟨by exact bk_ BK373.out⟩, ⟨by repeat (first | (with_reducible first | exact HB.out | apply below_alloc | apply pw_below_drewN | apply below_drew1 | refine below_set ?_ GE373.out) | exact HB.out)⟩⟩
     case rest =>
      clear HC24
      try clear c1
      try clear c2
      try clear p2
      try clear q2
      try clear c3
      try clear c6
      try clear c6b0
      try clear c6b1
      try clear p6
      try clear c7
      try clear c9
      try clear c14
      try clear c14b0
      try clear c15
      try clear c27
      try clear c27b0
      try clear c27b1
      try clear c28
      try clear c28b0
      try clear c28b1
      try clear c29
      try clear q29
      try clear hcz11_0
      try clear hcz11_1
      try clear hcz16_0
      try clear hcz16_1
      try clear hcz18_0
      try clear hcz18_1
      try clear hcz25_0
      try clear hcz25_1
      try clear hfz11_0
      try clear hfz11_1
      try clear hfz16_0
      try clear hfz16_1
      try clear hfz18_0
      try clear hfz18_1
      try clear hfz25_0
      try clear hfz25_1
      try clear p2
      try clear q29
      obtain ⟨kq, x1_23, HA, HJ23, HO_1, HO_374000, HO_374001, BK373, HB⟩ := hcut
      cases kq with
      | zero => exact absurd HA.out (by simp [topiarylaw15_TreeParts.j1])
      | succ kj23 =>
       have H := HA.out
       clear HA
       simp only [topiarylaw15_TreeParts.j1] at H
       by_cases c30 : (x1_23.length : Int) = 0
       ·rw [if_pos c30] at H
        have c30b0 : ((x1_23.length : Int) == 0) = true := beq_iff_eq.mpr c30
        have c30b1 : ((x1_23.length : Int) != 0) = false := bne_eq_false_iff_eq.mpr c30
        clear c30
        by_cases c31 : t364 = true
        ·subst c31
         have H1 : (some (x8_1 == (t369.length : Int))) = some r := by rw [if_pos rfl] at H; exact H
         clear H
         have H := H1
         clear H1
         obtain rfl := Option.some.inj H
         obtain ⟨Ao32, co32, eo32⟩ := Kd.V_slice HO_1.out
         subst eo32
         have hcz33_0 : wc.cell? ⟨gb373, 0, none⟩ = some (.slice Ao10 t366.length co10) := (blk_cell BK373.out 0).trans rfl
         have hcz33_1 : wc.cell? ⟨gb373, 1, none⟩ = some (.slice Ao12 t369.length co12) := (blk_cell BK373.out 1).trans rfl
         have hfz33_0 := blk_frozen BK373.out 0
         have hfz33_1 := blk_frozen BK373.out 1
         go_wp2
         go_ret
         exact ⟨by first | rfl | (simp [errW_none, errW_some] <;> rfl) | (simp [*, errW_none, errW_some] <;> rfl), by repeat (first | (with_reducible first | exact HB.out | apply below_alloc | apply pw_below_drewN | apply below_drew1 | refine below_set ?_ GE373.out) | exact HB.out)⟩
        ·replace c31 := Bool.eq_false_iff.mpr c31
         subst c31
         have H1 : (some false) = some r := by rw [if_neg (show ¬ (false = true) by decide)] at H; exact H
         clear H
         have H := H1
         clear H1
         exact absurd ((Option.some.inj H).trans HRT.out) (by decide)
       ·rw [if_neg c30] at H
        have c30b0 : ((x1_23.length : Int) == 0) = false := beq_eq_false_iff_ne.mpr c30
        have c30b1 : ((x1_23.length : Int) != 0) = true := bne_iff_ne.mpr c30
        have c30b2 : ¬ (x1_23 = []) := fun h_ => c30 (by rw [h_]; rfl)
        replace H := Option.bind_eq_some_iff.mp H
        obtain ⟨t386, A350, H⟩ := H
        replace H : (if 1 ≤ (x1_23.length : Int) then ((tree_Paths.f kj23 t366 t369 (x1_23.drop 1)).bind fun t394 => (topiarylaw15_TreeParts.l1 kj23 t364 x8_1 t386 t394 0 0 t366 t369)) else (none)) = some r := H
        have A35 := Aside0.mk A350
        clear A350
        by_cases c36 : 1 ≤ (x1_23.length : Int)
        ·rw [if_pos c36] at H
         have c36b0 := eq_true c36
         have c36b1 : decide (1 ≤ (x1_23.length : Int)) = true := decide_eq_true c36
         clear c36
         obtain ⟨y389, hy389⟩ : ∃ y_ : List Int, y_ = (x1_23.drop 1) := ⟨_, rfl⟩
         replace H : ((tree_Paths.f kj23 t366 t369 y389).bind fun t394 => (topiarylaw15_TreeParts.l1 kj23 t364 x8_1 t386 t394 0 0 t366 t369)) = some r := by first | (rw [hy389]; with_reducible exact H) | (have H2_ := (Option.bind_some _ _).symm.trans H; rw [hy389]; with_reducible exact H2_) | (have H2_ := (Option.bind_some _ _).symm.trans H; with_reducible exact H2_) | with_reducible exact H | (rw [hy389]; exact H) | exact H
         have Ny389 := Aside0.mk hy389
         clear hy389
         replace H := Option.bind_eq_some_iff.mp H
         obtain ⟨t394, A370, H⟩ := H
         replace H : (topiarylaw15_TreeParts.l1 kj23 t364 x8_1 t386 t394 0 0 t366 t369) = some r := H
         have A37 := Aside0.mk A370
         clear A370
         have H' := Aside0.mk H
         clear H
         obtain ⟨Ao38, co38, eo38⟩ := Kd.V_slice HO_1.out
         subst eo38
         have hcz39_0 : wc.cell? ⟨gb373, 0, none⟩ = some (.slice Ao10 t366.length co10) := (blk_cell BK373.out 0).trans rfl
         have hcz39_1 : wc.cell? ⟨gb373, 1, none⟩ = some (.slice Ao12 t369.length co12) := (blk_cell BK373.out 1).trans rfl
         have hfz39_0 := blk_frozen BK373.out 0
         have hfz39_1 := blk_frozen BK373.out 1
         try go_wp2_with (first | ((with_reducible refine gate_callee (f := 30) rfl ?_); refine goesL_ (some 55) rfl rfl Try.func30 (by kernel_rfl) rfl #[.agg #[.slice Ao10 t366.length co10, .slice Ao12 t369.length co12], .slice Ao38 x1_23.length co38] rfl ar_ ?_; (with_reducible refine (tree_Paths.calls kj23 _ _ t366 _ _ t369 (fun k_ => ((P1_ k_ ∨ w.heap.size ≤ k_) ∧ (some k_ ≠ (.slice Ao10 t366.length co10 : Value).ownBlock ∧ (some k_ ≠ (.slice Ao12 t369.length co12 : Value).ownBlock ∧ k_ ≠ gb373)))) _ _ x1_23 t386 _ ?side1 ?side2 ?side3 ?side4 ?side5 A35.out).mono ?_); (case side1 => repeat (first | exact (Kd.R_reads' HO_374000.out).2.2 | (with_reducible refine Kd.C_alloc ?_ _) | (with_reducible refine Kd.C_drewN ?_ _) | (with_reducible refine Kd.C_drew ?_))); (case side2 => exact (Kd.R_reads' HO_374000.out).2.1); (case side3 => repeat (first | exact (Kd.R_reads' HO_374001.out).2.2 | (with_reducible refine Kd.C_alloc ?_ _) | (with_reducible refine Kd.C_drewN ?_ _) | (with_reducible refine Kd.C_drew ?_))); (case side4 => exact (Kd.R_reads' HO_374001.out).2.1); (case side5 => exact HO_1.out); rintro e w40 ⟨v387, rfl, ho0, hb⟩; refine ⟨_, rfl, ?_⟩; have n0_ := Aside0.mk (Kd.V_elder' (by (with_reducible repeat (first | apply Kd.V_alloc | apply Kd.V_drewN | apply Kd.V_drew)); exact HO_1.out) (Kd.R_base ho0) hb); have n1_ := Aside0.mk (Kd.R_below (rr_ HO_374000.out) hb); have n2_ := Aside0.mk (Kd.R_below (rr_ HO_374001.out) hb); have n3_ := Aside0.mk (Kd.R_lower (Kd.R_newM (M := fun k_ => (w.heap.size ≤ k_)) (Kd.R_mono (ok' := fun k_ => True) ho0 (fun _ hk_ => trivial)) (below_size (bs_ HB.out GE373.out)) (fun k_ h_ => h_)) (below_size (bs_ HB.out GE373.out))); have n4_ := Aside0.mk (blk_below (g := gb373) (o := .cells #[.slice Ao10 t366.length co10, .slice Ao12 t369.length co12] 25 (0, 0)) (bk_ BK373.out) hb); have n5_ := Aside0.mk (below_step (bs_ HB.out GE373.out) hb); clear HO_1; clear HO_374000; clear HO_374001; clear BK373; clear HB; have HO_1 := n0_; have HO_374000 := n1_; have HO_374001 := n2_; have HO388 := n3_; have BK373 := n4_; have HB := n5_; clear n0_ n1_ n2_ n3_ n4_ n5_; (try clear hb); (try clear hb2); (try clear hk); (try clear hi); (try clear ho0)))
         have n0_ := Aside0.mk (Kd.V_drew HO_1.out)
         have n1_ := Aside0.mk (Kd.R_drew HO_374000.out)
         have n2_ := Aside0.mk (Kd.R_drew HO_374001.out)
         have n3_ := Aside0.mk (Kd.R_drew HO388.out)
         have n4_ := Aside0.mk (blk_drew BK373.out)
         have n5_ := Aside0.mk (below_drew1 HB.out)
         clear HO_1
         clear HO_374000
         clear HO_374001
         clear HO388
         clear BK373
         clear HB
         have HO_1 := n0_
         have HO_374000 := n1_
         have HO_374001 := n2_
         have HO388 := n3_
         have BK373 := n4_
         have HB := n5_
         clear n0_ n1_ n2_ n3_ n4_ n5_
         have q42 : (1 : Int) ≤ ((x1_23.length : Int) : Int) := of_decide_eq_true as_
         obtain ⟨i042, hi042, _, hsz42, _⟩ := info_parts info3
         have hroom42 : x1_23.length ≤ co38 := (Kd.V_reads' HO_1.out).2.1
         have hC42 : Kd.F (Kd.int .i64) _ _ Ao38 x1_23.length x1_23 := (Kd.V_at (base := w.heap.size) HO_1.out).2.2
         have hcut42 := cut_from (P := Try.prog) 29 3 .i64 Try.underlying29 hi042 1 hsz42 Ao38 x1_23.length co38 1 (by omega) q42
         have hr42 := Kd.F_cut (m := (1 : Int).toNat) (c := co38) hC42 (by omega) hroom42
         obtain ⟨A42, hA42⟩ : ∃ A1, A1 = (if co38 = (1 : Int).toNat then Ao38 else (Ao38 : Option Addr).map (·.add ((1 : Int).toNat * 1))) := ⟨_, rfl⟩
         obtain ⟨c42, hc42⟩ : ∃ c1, c1 = co38 - (1 : Int).toNat := ⟨_, rfl⟩
         have hy42 : y389.length = x1_23.length - (1 : Int).toNat := (by rw [Ny389.out, List.length_drop] <;> omega)
         rw [show (x1_23).drop (1 : Int).toNat = y389 from Ny389.out.symm] at hr42
         replace hr42 : Kd.F (Kd.int .i64) _ _ A42 y389.length y389 := (by rw [hA42]; exact hr42)
         rw [← hy42, ← hA42, ← hc42] at hcut42
         have HO393 := Aside0.mk (show Kd.V (Kd.int .i64) 3 _ w.heap.size _ (.slice A42 y389.length c42) y389 from Kd.V_mk (by rw [hy42, hc42]; exact Nat.sub_le_sub_right hroom42 _) hr42)
         have HC393 := Aside0.mk (show y389.length ≤ c42 from by rw [hy42, hc42]; exact Nat.sub_le_sub_right hroom42 _)
         clear hr42 hC42 hroom42 hi042 hsz42 hc42
         have KY42 := Aside0.mk hy42
         have KA42 := Aside0.mk hA42
         clear hy42 hA42
         replace q42 := eq_true q42
         refine start_ (n := 5) (S := fun w' => w'.cell? ⟨gb373, 0, none⟩ = some (.slice Ao10 t366.length co10) ∧ w'.cell? ⟨gb373, 1, none⟩ = some (.slice Ao12 t369.length co12)) (ds := []) #[false, false, false, false, false] (by kernel_rfl) rfl rfl ⟨(blk_cell BK373.out 0).trans rfl, (blk_cell BK373.out 1).trans rfl⟩ (fun hHeld => ?_)
         generalize w40.drew = w41 at HO_1 HO_374000 HO_374001 HO388 BK373 HB HO393 hHeld ⊢
         refine pure_ (i := 1) (N := some 57) (v := ?_) (a' := ?_) #[false, true, false, false, false] rfl rfl (by kernel_rfl) (fun _ _ _ h => h) (Or.inl ⟨by rfl, ?_⟩) ?_ ?_
         rotate_left
         ·intro w'
          go_simp
          with_reducible rfl
         rotate_left
         ·simp only [Act.put, List.setIfInBounds_toArray, List.set_cons_zero, List.set_cons_succ, i64_w, i32_w]
          rfl
         refine pure_ (i := 2) (N := some 58) (v := ?_) (a' := ?_) #[false, true, true, false, false] rfl rfl (by kernel_rfl) (fun _ _ _ h => h) (Or.inl ⟨by rfl, ?_⟩) ?_ ?_
         rotate_left
         ·intro w'
          go_simp
          with_reducible rfl
         rotate_left
         ·simp only [Act.put, List.setIfInBounds_toArray, List.set_cons_zero, List.set_cons_succ, i64_w, i32_w]
          rfl
         refine take_ (i := 0) (N := some 56) (v := ?_) (a' := ?_) #[true, true, true, false, false] rfl rfl (by kernel_rfl) (fun _ _ _ h => h) (Or.inl ⟨by rfl, ?_⟩) hHeld ?_ ?_
         rotate_left
         ·rintro w' ⟨s0, s1⟩
          go_simp
          with_reducible rfl
         rotate_left
         ·simp only [Act.put, List.setIfInBounds_toArray, List.set_cons_zero, List.set_cons_succ, i64_w, i32_w]
          rfl
         refine one_ (i := 3) (N := some 59) #[true, true, true, true, false] rfl rfl (by kernel_rfl) (by decide) (fun K hK => ?_)
         refine goes_ Try.func30 (by kernel_rfl) rfl #[.agg #[.slice Ao10 t366.length co10, .slice Ao12 t369.length co12], .slice A42 y389.length c42] (by rfl) rfl rfl ar_ ?_
         with_reducible refine (tree_Paths.calls kj23 _ _ t366 _ _ t369 (fun k_ => (((P1_ k_ ∨ w.heap.size ≤ k_) ∧ (some k_ ≠ (.slice Ao10 t366.length co10 : Value).ownBlock ∧ (some k_ ≠ (.slice Ao12 t369.length co12 : Value).ownBlock ∧ k_ ≠ gb373))) ∧ some k_ ≠ (v387 : Value).ownBlock)) _ _ y389 t394 _ ?side1 ?side2 ?side3 ?side4 ?side5 A37.out).mono ?_
         (case side1 => repeat (first | exact (Kd.R_reads' HO_374000.out).2.2 | (with_reducible refine Kd.C_alloc ?_ _) | (with_reducible refine Kd.C_drewN ?_ _) | (with_reducible refine Kd.C_drew ?_)))
         (case side2 => exact (Kd.R_reads' HO_374000.out).2.1)
         (case side3 => repeat (first | exact (Kd.R_reads' HO_374001.out).2.2 | (with_reducible refine Kd.C_alloc ?_ _) | (with_reducible refine Kd.C_drewN ?_ _) | (with_reducible refine Kd.C_drew ?_)))
         (case side4 => exact (Kd.R_reads' HO_374001.out).2.1)
         (case side5 => exact HO393.out)
         rintro e w43 ⟨v395, rfl, ho0, hb⟩
         refine ⟨_, rfl, ?_⟩
         have n0_ := Aside0.mk (Kd.V_elder' (by (with_reducible repeat (first | apply Kd.V_alloc | apply Kd.V_drewN | apply Kd.V_drew)); exact HO_1.out) (Kd.R_base ho0) hb)
         have n1_ := Aside0.mk (Kd.R_below (rr_ HO_374000.out) hb)
         have n2_ := Aside0.mk (Kd.R_below (rr_ HO_374001.out) hb)
         have n3_ := Aside0.mk (Kd.R_elder' (rr_ HO388.out) (Kd.R_base ho0) hb)
         have n4_ := Aside0.mk (Kd.V_elder' (by (with_reducible repeat (first | apply Kd.V_alloc | apply Kd.V_drewN | apply Kd.V_drew)); exact HO393.out) (Kd.R_base ho0) hb)
         have n5_ := Aside0.mk (Kd.R_lower (Kd.R_new' (Kd.R_newM (M := fun k_ => (w.heap.size ≤ k_)) (Kd.R_mono (ok' := fun k_ => True) ho0 (fun _ hk_ => trivial)) (below_size (bs_ HB.out GE373.out)) (fun k_ h_ => h_)) (Kd.R_lt (rr_ HO388.out))) (below_size (bs_ HB.out GE373.out)))
         have n6_ := Aside0.mk (blk_below (g := gb373) (o := .cells #[.slice Ao10 t366.length co10, .slice Ao12 t369.length co12] 25 (0, 0)) (bk_ BK373.out) hb)
         have n7_ := Aside0.mk (below_step (bs_ HB.out GE373.out) hb)
         clear HO_1
         clear HO_374000
         clear HO_374001
         clear HO388
         clear HO393
         clear BK373
         clear HB
         have HO_1 := n0_
         have HO_374000 := n1_
         have HO_374001 := n2_
         have HO388 := n3_
         have HO393 := n4_
         have HO396 := n5_
         have BK373 := n6_
         have HB := n7_
         clear n0_ n1_ n2_ n3_ n4_ n5_ n6_ n7_
         (try clear hb)
         (try clear hb2)
         (try clear hk)
         (try clear hi)
         (try clear ho0)
         refine hK.out _ _ ⟨(blk_cell BK373.out 0).trans rfl, (blk_cell BK373.out 1).trans rfl⟩ (fun hHeld => ?_)
         clear hK K
         refine norm_ (a' := ?_) ?_ ?_
         rotate_left
         ·show Act.put _ (some 59) _ = _
          simp only [Act.put, List.setIfInBounds_toArray, List.set_cons_zero, List.set_cons_succ, i64_w, i32_w]
          rfl
         refine pure_ (i := 4) (N := some 11) (v := ?_) (a' := ?_) #[true, true, true, true, true] rfl rfl (by kernel_rfl) (fun _ _ _ h => h) (Or.inl ⟨by rfl, ?_⟩) ?_ ?_
         rotate_left
         ·intro w'
          go_simp
          with_reducible rfl
         rotate_left
         ·simp only [Act.put, List.setIfInBounds_toArray, List.set_cons_zero, List.set_cons_succ, i64_w, i32_w]
          rfl
         refine done_ (by kernel_rfl) ?_
         try go_wp2
         go_loopg [12, 13] kj23 (fun kq v12 v13 w' => ∃ (x12_3 : Int) (x13_3 : Int), v12 = .int .i64 x12_3 ∧ v13 = .int .i64 x13_3 ∧ Aside0 (topiarylaw15_TreeParts.l1 kq t364 x8_1 t386 t394 x12_3 x13_3 t366 t369 = some r) ∧ Aside0 (kq ≤ kj23) ∧ Aside0 (Kd.R (Kd.int .i64) 3 w' w.heap.size (fun k_ => (w.heap.size ≤ k_) ∧ some k_ ≠ (v395 : Value).ownBlock) v387 t386) ∧ Aside0 (Kd.R (Kd.int .i64) 3 w' w.heap.size (fun k_ => (w.heap.size ≤ k_) ∧ some k_ ≠ (v387 : Value).ownBlock) v395 t394) ∧ Aside0 (Kd.R Kd.string 9 w' w.heap.size (fun k_ => (w.heap.size ≤ k_)) (.slice Ao10 t366.length co10) t366) ∧ Aside0 (Kd.R k52 52 w' w.heap.size (fun k_ => (w.heap.size ≤ k_)) (.slice Ao12 t369.length co12) t369) ∧ Aside0 (w'.heap[gb373]? = some (.cells #[(.slice Ao10 t366.length co10), (.slice Ao12 t369.length co12)] 25 (0, 0))) ∧ Aside0 (Below w.heap.size w w'))
         case atStart => exact ⟨(0), (0), sm_, sm_, H', ⟨Nat.le_refl _⟩, ⟨by (with_reducible repeat (first | apply Kd.R_alloc | apply Kd.R_drewN | apply Kd.R_drew)); exact Kd.R_mono HO388.out (fun _ hk => ⟨hk.1.1, hk.2⟩)⟩, ⟨by (with_reducible repeat (first | apply Kd.R_alloc | apply Kd.R_drewN | apply Kd.R_drew)); exact Kd.R_mono HO396.out (fun _ hk => ⟨hk.1.1, hk.2⟩)⟩, ⟨by exact rr_ HO_374000.out⟩, ⟨by exact rr_ HO_374001.out⟩, ⟨by exact bk_ BK373.out⟩, ⟨by repeat (first | (with_reducible first | exact HB.out | apply below_alloc | apply pw_below_drewN | apply below_drew1 | refine below_set ?_ GE373.out) | exact HB.out)⟩⟩
         case round =>
          clear H'
          try clear c1
          try clear c2
          try clear p2
          try clear q2
          try clear c3
          try clear c4
          try clear q4
          try clear c6
          try clear c6b0
          try clear c6b1
          try clear p6
          try clear c7
          try clear c9
          try clear c14
          try clear c14b0
          try clear c15
          try clear c27
          try clear c27b0
          try clear c27b1
          try clear c28
          try clear c28b0
          try clear c28b1
          try clear c29
          try clear q29
          try clear c30
          try clear c30b0
          try clear c30b1
          try clear c30b2
          try clear c31
          try clear c36
          try clear c36b0
          try clear c36b1
          try clear c42
          try clear q42
          try clear hcz11_0
          try clear hcz11_1
          try clear hcz16_0
          try clear hcz16_1
          try clear hcz18_0
          try clear hcz18_1
          try clear hcz25_0
          try clear hcz25_1
          try clear hcz33_0
          try clear hcz33_1
          try clear hcz39_0
          try clear hcz39_1
          try clear hfz11_0
          try clear hfz11_1
          try clear hfz16_0
          try clear hfz16_1
          try clear hfz18_0
          try clear hfz18_1
          try clear hfz25_0
          try clear hfz25_1
          try clear hfz33_0
          try clear hfz33_1
          try clear hfz39_0
          try clear hfz39_1
          try clear p2
          try clear p6
          try clear q2
          try clear q29
          try clear q42
          obtain ⟨x12_3, x13_3, rfl, rfl, HA, HK3, HO_10, HO_11, HO_374000, HO_374001, BK373, HB⟩ := hrel
          cases gk with
          | zero => exact absurd HA.out (by simp [topiarylaw15_TreeParts.l1])
          | succ k3 =>
           have H := HA.out
           clear HA
           simp only [topiarylaw15_TreeParts.l1] at H
           by_cases c44 : x13_3 < (t386.length : Int)
           ·rw [if_pos c44] at H
            have c44b0 : decide (x13_3 < (t386.length : Int)) = true := decide_eq_true c44
            clear c44
            have H' := Aside0.mk H
            clear H
            obtain ⟨Ao45, co45, eo45⟩ := Kd.R_slice HO_10.out
            subst eo45
            go_wp2
            go_loopg [12] k3 (fun kq v12 w' => ∃ (x12_4 : Int), v12 = .int .i64 x12_4 ∧ Aside0 (topiarylaw15_TreeParts.l2 kq t364 x8_1 t386 t394 x12_4 x13_3 t366 t369 = some r) ∧ Aside0 (kq ≤ k3) ∧ Aside0 (Kd.R (Kd.int .i64) 3 w' w.heap.size (fun k_ => (w.heap.size ≤ k_) ∧ some k_ ≠ (v395 : Value).ownBlock) (.slice Ao45 t386.length co45) t386) ∧ Aside0 (Kd.R (Kd.int .i64) 3 w' w.heap.size (fun k_ => (w.heap.size ≤ k_) ∧ some k_ ≠ ((.slice Ao45 t386.length co45) : Value).ownBlock) v395 t394) ∧ Aside0 (Kd.R Kd.string 9 w' w.heap.size (fun k_ => (w.heap.size ≤ k_)) (.slice Ao10 t366.length co10) t366) ∧ Aside0 (Kd.R k52 52 w' w.heap.size (fun k_ => (w.heap.size ≤ k_)) (.slice Ao12 t369.length co12) t369) ∧ Aside0 (w'.heap[gb373]? = some (.cells #[(.slice Ao10 t366.length co10), (.slice Ao12 t369.length co12)] 25 (0, 0))) ∧ Aside0 (Below w.heap.size w w'))
            case atStart => exact ⟨(x12_3), sm_, H', ⟨Nat.le_refl _⟩, ⟨by exact rr_ HO_10.out⟩, ⟨by exact rr_ HO_11.out⟩, ⟨by exact rr_ HO_374000.out⟩, ⟨by exact rr_ HO_374001.out⟩, ⟨by exact bk_ BK373.out⟩, ⟨by repeat (first | (with_reducible first | exact HB.out | apply below_alloc | apply pw_below_drewN | apply below_drew1 | refine below_set ?_ GE373.out) | exact HB.out)⟩⟩
            case round =>
             clear H'
             try clear c1
             try clear c2
             try clear p2
             try clear q2
             try clear c3
             try clear c4
             try clear q4
             try clear c6
             try clear c6b0
             try clear c6b1
             try clear p6
             try clear c7
             try clear c9
             try clear c14
             try clear c14b0
             try clear c15
             try clear c27
             try clear c27b0
             try clear c27b1
             try clear c28
             try clear c28b0
             try clear c28b1
             try clear c29
             try clear q29
             try clear c30
             try clear c30b0
             try clear c30b1
             try clear c30b2
             try clear c31
             try clear c36
             try clear c36b0
             try clear c36b1
             try clear c42
             try clear q42
             try clear c44
             try clear c44b0
             try clear hcz11_0
             try clear hcz11_1
             try clear hcz16_0
             try clear hcz16_1
             try clear hcz18_0
             try clear hcz18_1
             try clear hcz25_0
             try clear hcz25_1
             try clear hcz33_0
             try clear hcz33_1
             try clear hcz39_0
             try clear hcz39_1
             try clear hfz11_0
             try clear hfz11_1
             try clear hfz16_0
             try clear hfz16_1
             try clear hfz18_0
             try clear hfz18_1
             try clear hfz25_0
             try clear hfz25_1
             try clear hfz33_0
             try clear hfz33_1
             try clear hfz39_0
             try clear hfz39_1
             try clear p2
             try clear p6
             try clear q2
             try clear q29
             try clear q4
             try clear q42
             obtain ⟨x12_4, rfl, HA, HK4, HO_10, HO_11, HO_374000, HO_374001, BK373, HB⟩ := hrel
             cases gk with
             | zero => exact absurd HA.out (by simp [topiarylaw15_TreeParts.l2])
             | succ k4 =>
              have H := HA.out
              clear HA
              simp only [topiarylaw15_TreeParts.l2] at H
              by_cases c46 : x12_4 < (t394.length : Int)
              ·rw [if_pos c46] at H
               have c46b0 : decide (x12_4 < (t394.length : Int)) = true := decide_eq_true c46
               clear c46
               by_cases c47 : 0 ≤ x12_4
               ·rw [if_pos c47] at H
                have c47b0 : decide (0 ≤ x12_4) = true := decide_eq_true c47
                clear c47
                by_cases c48 : 0 ≤ x13_3
                ·rw [if_pos c48] at H
                 have c48b0 : decide (0 ≤ x13_3) = true := decide_eq_true c48
                 clear c48
                 by_cases c49 : x13_3 < (t386.length : Int)
                 ·rw [if_pos c49] at H
                  have c49b0 : decide (x13_3 < (t386.length : Int)) = true := decide_eq_true c49
                  clear c49
                  by_cases c50 : (rd t394 x12_4) = (rd t386 x13_3)
                  ·rw [if_pos c50] at H
                   have c50b0 : ((rd t394 x12_4) == (rd t386 x13_3)) = true := beq_iff_eq.mpr c50
                   have c50b1 : ((rd t394 x12_4) != (rd t386 x13_3)) = false := bne_eq_false_iff_eq.mpr c50
                   clear c50
                   by_cases c51 : x12_4 = (t394.length : Int)
                   ·rw [if_pos c51] at H
                    have c51b0 : (x12_4 == (t394.length : Int)) = true := beq_iff_eq.mpr c51
                    have c51b1 : (x12_4 != (t394.length : Int)) = false := bne_eq_false_iff_eq.mpr c51
                    clear c51
                    obtain rfl := Option.some.inj H
                    try go_wp2
                    have n0_ := Aside0.mk (Kd.R_drew HO_10.out)
                    have n1_ := Aside0.mk (Kd.R_drew HO_11.out)
                    have n2_ := Aside0.mk (Kd.R_drew HO_374000.out)
                    have n3_ := Aside0.mk (Kd.R_drew HO_374001.out)
                    have n4_ := Aside0.mk (blk_drew BK373.out)
                    have n5_ := Aside0.mk (below_drew1 HB.out)
                    clear HO_10
                    clear HO_11
                    clear HO_374000
                    clear HO_374001
                    clear BK373
                    clear HB
                    have HO_10 := n0_
                    have HO_11 := n1_
                    have HO_374000 := n2_
                    have HO_374001 := n3_
                    have BK373 := n4_
                    have HB := n5_
                    clear n0_ n1_ n2_ n3_ n4_ n5_
                    obtain ⟨Ao53, co53, eo53⟩ := Kd.R_slice HO_11.out
                    (first | subst eo53 | (injection eo53 with f1_ f2_ f3_; have f4_ := f1_.symm; have f5_ := f3_.symm; clear f1_ f2_ f3_; subst f4_; subst f5_))
                    have p397 : 0 ≤ (x12_4 : Int) := of_decide_eq_true as_
                    have q397 : x12_4 < (t394.length : Int) := of_decide_eq_true as_
                    obtain ⟨ad397, e397, hx397_0⟩ := Kd.at_int (Kd.R_reads' HO_11.out).2.2 x12_4 p397 q397
                    cases e397
                    replace p397 := eq_true p397
                    replace q397 := eq_true q397
                    have p398 : 0 ≤ (x13_3 : Int) := of_decide_eq_true as_
                    have q398 : x13_3 < (t386.length : Int) := of_decide_eq_true as_
                    obtain ⟨ad398, e398, hx398_0⟩ := Kd.at_int (Kd.R_reads' HO_10.out).2.2 x13_3 p398 q398
                    cases e398
                    replace p398 := eq_true p398
                    replace q398 := eq_true q398
                    refine start_ (n := 15) (S := fun w' => w'.cell? (ad397.add (x12_4).toNat) = some (.int .i64 (rd t394 x12_4)) ∧ w'.cell? (ad398.add (x13_3).toNat) = some (.int .i64 (rd t386 x13_3))) (ds := []) #[false, false, false, false, false, false, false, false, false, false, false, false, false, false, false] (by kernel_rfl) rfl rfl ⟨hx397_0, hx398_0⟩ (fun hHeld => ?_); refine with_tabW topiarylaw15_TreeParts.tab20 topiarylaw15_TreeParts.bits20 (fun HT_ HW_ => ?_)
                    generalize wr.drew = w52 at HO_10 HO_11 HO_374000 HO_374001 BK373 HB hx397_0 hx398_0 hHeld ⊢
                    refine pure_ (i := 0) (N := some 66) (v := ?_) (a' := ?_) #[true, false, false, false, false, false, false, false, false, false, false, false, false, false, false] rfl rfl (any_of HT_.out (by kernel_rfl)) (fun _ _ _ h => h) (Or.inl ⟨by rfl, ?_⟩) ?_ ?_
                    rotate_left
                    ·intro w'
                     go_simp
                     with_reducible rfl
                    rotate_left
                    ·simp only [Act.put, List.setIfInBounds_toArray, List.set_cons_zero, List.set_cons_succ, i64_w, i32_w]
                     rfl
                    refine pure_ (i := 1) (N := some 67) (v := ?_) (a' := ?_) #[true, true, false, false, false, false, false, false, false, false, false, false, false, false, false] rfl rfl (any_of HT_.out (by kernel_rfl)) (fun _ _ _ h => h) (Or.inl ⟨by rfl, ?_⟩) ?_ ?_
                    rotate_left
                    ·intro w'
                     go_simp
                     with_reducible rfl
                    rotate_left
                    ·simp only [Act.put, List.setIfInBounds_toArray, List.set_cons_zero, List.set_cons_succ, i64_w, i32_w]
                     rfl
                    refine pure_ (i := 2) (N := some 68) (v := ?_) (a' := ?_) #[true, true, true, false, false, false, false, false, false, false, false, false, false, false, false] rfl rfl (any_of HT_.out (by kernel_rfl)) (fun _ _ _ h => h) (Or.inl ⟨by rfl, ?_⟩) ?_ ?_
                    rotate_left
                    ·intro w'
                     go_simp
                     with_reducible rfl
                    rotate_left
                    ·simp only [Act.put, List.setIfInBounds_toArray, List.set_cons_zero, List.set_cons_succ, i64_w, i32_w]
                     rfl
                    refine pure_ (i := 3) (N := some 69) (v := ?_) (a' := ?_) #[true, true, true, true, false, false, false, false, false, false, false, false, false, false, false] rfl rfl (any_of HT_.out (by kernel_rfl)) (fun _ _ _ h => h) (Or.inl ⟨by rfl, ?_⟩) ?_ ?_
                    rotate_left
                    ·intro w'
                     go_simp
                     with_reducible rfl
                    rotate_left
                    ·simp only [Act.put, List.setIfInBounds_toArray, List.set_cons_zero, List.set_cons_succ, i64_w, i32_w]
                     rfl
                    refine pure_ (i := 4) (N := some 70) (v := ?_) (a' := ?_) #[true, true, true, true, true, false, false, false, false, false, false, false, false, false, false] rfl rfl (any_of HT_.out (by kernel_rfl)) (fun _ _ _ h => h) (Or.inl ⟨by rfl, ?_⟩) ?_ ?_
                    rotate_left
                    ·intro w'
                     go_simp
                     with_reducible rfl
                    rotate_left
                    ·simp only [Act.put, List.setIfInBounds_toArray, List.set_cons_zero, List.set_cons_succ, i64_w, i32_w]
                     rfl
                    refine pure_ (i := 5) (N := some 71) (v := ?_) (a' := ?_) #[true, true, true, true, true, true, false, false, false, false, false, false, false, false, false] rfl rfl (any_of HT_.out (by kernel_rfl)) (fun _ _ _ h => h) (Or.inl ⟨by rfl, ?_⟩) ?_ ?_
                    rotate_left
                    ·intro w'
                     go_simp
                     with_reducible rfl
                    rotate_left
                    ·simp only [Act.put, List.setIfInBounds_toArray, List.set_cons_zero, List.set_cons_succ, i64_w, i32_w]
                     rfl
                    refine pure_ (i := 6) (N := some 72) (v := ?_) (a' := ?_) #[true, true, true, true, true, true, true, false, false, false, false, false, false, false, false] rfl rfl (any_of HT_.out (by kernel_rfl)) (fun _ _ _ h => h) (Or.inl ⟨by rfl, ?_⟩) ?_ ?_
                    rotate_left
                    ·intro w'
                     go_simp
                     with_reducible rfl
                    rotate_left
                    ·simp only [Act.put, List.setIfInBounds_toArray, List.set_cons_zero, List.set_cons_succ, i64_w, i32_w]
                     rfl
                    refine pure_ (i := 7) (N := some 73) (v := ?_) (a' := ?_) #[true, true, true, true, true, true, true, true, false, false, false, false, false, false, false] rfl rfl (any_of HT_.out (by kernel_rfl)) (fun _ _ _ h => h) (Or.inl ⟨by rfl, ?_⟩) ?_ ?_
                    rotate_left
                    ·intro w'
                     go_simp
                     with_reducible rfl
                    rotate_left
                    ·simp only [Act.put, List.setIfInBounds_toArray, List.set_cons_zero, List.set_cons_succ, i64_w, i32_w]
                     rfl
                    refine pure_ (i := 9) (N := some 75) (v := ?_) (a' := ?_) #[true, true, true, true, true, true, true, true, false, true, false, false, false, false, false] rfl rfl (any_of HT_.out (by kernel_rfl)) (fun _ _ _ h => h) (Or.inl ⟨by rfl, ?_⟩) ?_ ?_
                    rotate_left
                    ·intro w'
                     go_simp
                     with_reducible rfl
                    rotate_left
                    ·simp only [Act.put, List.setIfInBounds_toArray, List.set_cons_zero, List.set_cons_succ, i64_w, i32_w]
                     rfl
                    refine pure_ (i := 10) (N := some 76) (v := ?_) (a' := ?_) #[true, true, true, true, true, true, true, true, false, true, true, false, false, false, false] rfl rfl (any_of HT_.out (by kernel_rfl)) (fun _ _ _ h => h) (Or.inl ⟨by rfl, ?_⟩) ?_ ?_
                    rotate_left
                    ·intro w'
                     go_simp
                     with_reducible rfl
                    rotate_left
                    ·simp only [Act.put, List.setIfInBounds_toArray, List.set_cons_zero, List.set_cons_succ, i64_w, i32_w]
                     rfl
                    refine pure_ (i := 11) (N := some 77) (v := ?_) (a' := ?_) #[true, true, true, true, true, true, true, true, false, true, true, true, false, false, false] rfl rfl (any_of HT_.out (by kernel_rfl)) (fun _ _ _ h => h) (Or.inl ⟨by rfl, ?_⟩) ?_ ?_
                    rotate_left
                    ·intro w'
                     go_simp
                     with_reducible rfl
                    rotate_left
                    ·simp only [Act.put, List.setIfInBounds_toArray, List.set_cons_zero, List.set_cons_succ, i64_w, i32_w]
                     rfl
                    refine take_ (i := 8) (N := some 74) (v := ?_) (a' := ?_) #[true, true, true, true, true, true, true, true, true, true, true, true, false, false, false] rfl rfl (take_ofW HT_.out HW_.out (by kernel_rfl)) (fun _ _ _ h => h) (Or.inl ⟨by rfl, ?_⟩) hHeld ?_ ?_
                    rotate_left
                    ·rintro w' ⟨s0, s1⟩
                     go_simp
                     with_reducible rfl
                    rotate_left
                    ·simp only [Act.put, List.setIfInBounds_toArray, List.set_cons_zero, List.set_cons_succ, i64_w, i32_w]
                     rfl
                    refine take_ (i := 12) (N := some 78) (v := ?_) (a' := ?_) #[true, true, true, true, true, true, true, true, true, true, true, true, true, false, false] rfl rfl (take_ofW HT_.out HW_.out (by kernel_rfl)) (fun _ _ _ h => h) (Or.inl ⟨by rfl, ?_⟩) hHeld ?_ ?_
                    rotate_left
                    ·rintro w' ⟨s0, s1⟩
                     go_simp
                     with_reducible rfl
                    rotate_left
                    ·simp only [Act.put, List.setIfInBounds_toArray, List.set_cons_zero, List.set_cons_succ, i64_w, i32_w]
                     rfl
                    refine pure_ (i := 13) (N := some 79) (v := ?_) (a' := ?_) #[true, true, true, true, true, true, true, true, true, true, true, true, true, true, false] rfl rfl (any_of HT_.out (by kernel_rfl)) (fun _ _ _ h => h) (Or.inl ⟨by rfl, ?_⟩) ?_ ?_
                    rotate_left
                    ·intro w'
                     go_simp
                     with_reducible rfl
                    rotate_left
                    ·simp only [Act.put, List.setIfInBounds_toArray, List.set_cons_zero, List.set_cons_succ, i64_w, i32_w]
                     rfl
                    refine pure_ (i := 14) (N := some 80) (v := ?_) (a' := ?_) #[true, true, true, true, true, true, true, true, true, true, true, true, true, true, true] rfl rfl (any_of HT_.out (by kernel_rfl)) (fun _ _ _ h => h) (Or.inl ⟨by rfl, ?_⟩) ?_ ?_
                    rotate_left
                    ·intro w'
                     go_simp
                     with_reducible rfl
                    rotate_left
                    ·simp only [Act.put, List.setIfInBounds_toArray, List.set_cons_zero, List.set_cons_succ, i64_w, i32_w]
                     rfl
                    refine done_ (done_of HT_.out (by kernel_rfl)) ?_
                    try go_wp2
                    go_ret
                    exact ⟨by first | rfl | (simp [errW_none, errW_some] <;> rfl) | (simp [*, errW_none, errW_some] <;> rfl), by repeat (first | (with_reducible first | exact HB.out | apply below_alloc | apply pw_below_drewN | apply below_drew1 | refine below_set ?_ GE373.out) | exact HB.out)⟩
                   ·rw [if_neg c51] at H
                    have c51b0 : (x12_4 == (t394.length : Int)) = false := beq_eq_false_iff_ne.mpr c51
                    have c51b1 : (x12_4 != (t394.length : Int)) = true := bne_iff_ne.mpr c51
                    have H' := Aside0.mk H
                    clear H
                    try go_wp2
                    have n0_ := Aside0.mk (Kd.R_drew HO_10.out)
                    have n1_ := Aside0.mk (Kd.R_drew HO_11.out)
                    have n2_ := Aside0.mk (Kd.R_drew HO_374000.out)
                    have n3_ := Aside0.mk (Kd.R_drew HO_374001.out)
                    have n4_ := Aside0.mk (blk_drew BK373.out)
                    have n5_ := Aside0.mk (below_drew1 HB.out)
                    clear HO_10
                    clear HO_11
                    clear HO_374000
                    clear HO_374001
                    clear BK373
                    clear HB
                    have HO_10 := n0_
                    have HO_11 := n1_
                    have HO_374000 := n2_
                    have HO_374001 := n3_
                    have BK373 := n4_
                    have HB := n5_
                    clear n0_ n1_ n2_ n3_ n4_ n5_
                    obtain ⟨Ao55, co55, eo55⟩ := Kd.R_slice HO_11.out
                    (first | subst eo55 | (injection eo55 with f1_ f2_ f3_; have f4_ := f1_.symm; have f5_ := f3_.symm; clear f1_ f2_ f3_; subst f4_; subst f5_))
                    have p397 : 0 ≤ (x12_4 : Int) := of_decide_eq_true as_
                    have q397 : x12_4 < (t394.length : Int) := of_decide_eq_true as_
                    obtain ⟨ad397, e397, hx397_0⟩ := Kd.at_int (Kd.R_reads' HO_11.out).2.2 x12_4 p397 q397
                    cases e397
                    replace p397 := eq_true p397
                    replace q397 := eq_true q397
                    have p398 : 0 ≤ (x13_3 : Int) := of_decide_eq_true as_
                    have q398 : x13_3 < (t386.length : Int) := of_decide_eq_true as_
                    obtain ⟨ad398, e398, hx398_0⟩ := Kd.at_int (Kd.R_reads' HO_10.out).2.2 x13_3 p398 q398
                    cases e398
                    replace p398 := eq_true p398
                    replace q398 := eq_true q398
                    refine start_ (n := 15) (S := fun w' => w'.cell? (ad397.add (x12_4).toNat) = some (.int .i64 (rd t394 x12_4)) ∧ w'.cell? (ad398.add (x13_3).toNat) = some (.int .i64 (rd t386 x13_3))) (ds := []) #[false, false, false, false, false, false, false, false, false, false, false, false, false, false, false] (by kernel_rfl) rfl rfl ⟨hx397_0, hx398_0⟩ (fun hHeld => ?_); refine with_tabW topiarylaw15_TreeParts.tab20 topiarylaw15_TreeParts.bits20 (fun HT_ HW_ => ?_)
                    generalize wr.drew = w54 at HO_10 HO_11 HO_374000 HO_374001 BK373 HB hx397_0 hx398_0 hHeld ⊢
                    refine pure_ (i := 0) (N := some 66) (v := ?_) (a' := ?_) #[true, false, false, false, false, false, false, false, false, false, false, false, false, false, false] rfl rfl (any_of HT_.out (by kernel_rfl)) (fun _ _ _ h => h) (Or.inl ⟨by rfl, ?_⟩) ?_ ?_
                    rotate_left
                    ·intro w'
                     go_simp
                     with_reducible rfl
                    rotate_left
                    ·simp only [Act.put, List.setIfInBounds_toArray, List.set_cons_zero, List.set_cons_succ, i64_w, i32_w]
                     rfl
                    refine pure_ (i := 1) (N := some 67) (v := ?_) (a' := ?_) #[true, true, false, false, false, false, false, false, false, false, false, false, false, false, false] rfl rfl (any_of HT_.out (by kernel_rfl)) (fun _ _ _ h => h) (Or.inl ⟨by rfl, ?_⟩) ?_ ?_
                    rotate_left
                    ·intro w'
                     go_simp
                     with_reducible rfl
                    rotate_left
                    ·simp only [Act.put, List.setIfInBounds_toArray, List.set_cons_zero, List.set_cons_succ, i64_w, i32_w]
                     rfl
                    refine pure_ (i := 2) (N := some 68) (v := ?_) (a' := ?_) #[true, true, true, false, false, false, false, false, false, false, false, false, false, false, false] rfl rfl (any_of HT_.out (by kernel_rfl)) (fun _ _ _ h => h) (Or.inl ⟨by rfl, ?_⟩) ?_ ?_
                    rotate_left
                    ·intro w'
                     go_simp
                     with_reducible rfl
                    rotate_left
                    ·simp only [Act.put, List.setIfInBounds_toArray, List.set_cons_zero, List.set_cons_succ, i64_w, i32_w]
                     rfl
                    refine pure_ (i := 3) (N := some 69) (v := ?_) (a' := ?_) #[true, true, true, true, false, false, false, false, false, false, false, false, false, false, false] rfl rfl (any_of HT_.out (by kernel_rfl)) (fun _ _ _ h => h) (Or.inl ⟨by rfl, ?_⟩) ?_ ?_
                    rotate_left
                    ·intro w'
                     go_simp
                     with_reducible rfl
                    rotate_left
                    ·simp only [Act.put, List.setIfInBounds_toArray, List.set_cons_zero, List.set_cons_succ, i64_w, i32_w]
                     rfl
                    refine pure_ (i := 4) (N := some 70) (v := ?_) (a' := ?_) #[true, true, true, true, true, false, false, false, false, false, false, false, false, false, false] rfl rfl (any_of HT_.out (by kernel_rfl)) (fun _ _ _ h => h) (Or.inl ⟨by rfl, ?_⟩) ?_ ?_
                    rotate_left
                    ·intro w'
                     go_simp
                     with_reducible rfl
                    rotate_left
                    ·simp only [Act.put, List.setIfInBounds_toArray, List.set_cons_zero, List.set_cons_succ, i64_w, i32_w]
                     rfl
                    refine pure_ (i := 5) (N := some 71) (v := ?_) (a' := ?_) #[true, true, true, true, true, true, false, false, false, false, false, false, false, false, false] rfl rfl (any_of HT_.out (by kernel_rfl)) (fun _ _ _ h => h) (Or.inl ⟨by rfl, ?_⟩) ?_ ?_
                    rotate_left
                    ·intro w'
                     go_simp
                     with_reducible rfl
                    rotate_left
                    ·simp only [Act.put, List.setIfInBounds_toArray, List.set_cons_zero, List.set_cons_succ, i64_w, i32_w]
                     rfl
                    refine pure_ (i := 6) (N := some 72) (v := ?_) (a' := ?_) #[true, true, true, true, true, true, true, false, false, false, false, false, false, false, false] rfl rfl (any_of HT_.out (by kernel_rfl)) (fun _ _ _ h => h) (Or.inl ⟨by rfl, ?_⟩) ?_ ?_
                    rotate_left
                    ·intro w'
                     go_simp
                     with_reducible rfl
                    rotate_left
                    ·simp only [Act.put, List.setIfInBounds_toArray, List.set_cons_zero, List.set_cons_succ, i64_w, i32_w]
                     rfl
                    refine pure_ (i := 7) (N := some 73) (v := ?_) (a' := ?_) #[true, true, true, true, true, true, true, true, false, false, false, false, false, false, false] rfl rfl (any_of HT_.out (by kernel_rfl)) (fun _ _ _ h => h) (Or.inl ⟨by rfl, ?_⟩) ?_ ?_
                    rotate_left
                    ·intro w'
                     go_simp
                     with_reducible rfl
                    rotate_left
                    ·simp only [Act.put, List.setIfInBounds_toArray, List.set_cons_zero, List.set_cons_succ, i64_w, i32_w]
                     rfl
                    refine pure_ (i := 9) (N := some 75) (v := ?_) (a' := ?_) #[true, true, true, true, true, true, true, true, false, true, false, false, false, false, false] rfl rfl (any_of HT_.out (by kernel_rfl)) (fun _ _ _ h => h) (Or.inl ⟨by rfl, ?_⟩) ?_ ?_
                    rotate_left
                    ·intro w'
                     go_simp
                     with_reducible rfl
                    rotate_left
                    ·simp only [Act.put, List.setIfInBounds_toArray, List.set_cons_zero, List.set_cons_succ, i64_w, i32_w]
                     rfl
                    refine pure_ (i := 10) (N := some 76) (v := ?_) (a' := ?_) #[true, true, true, true, true, true, true, true, false, true, true, false, false, false, false] rfl rfl (any_of HT_.out (by kernel_rfl)) (fun _ _ _ h => h) (Or.inl ⟨by rfl, ?_⟩) ?_ ?_
                    rotate_left
                    ·intro w'
                     go_simp
                     with_reducible rfl
                    rotate_left
                    ·simp only [Act.put, List.setIfInBounds_toArray, List.set_cons_zero, List.set_cons_succ, i64_w, i32_w]
                     rfl
                    refine pure_ (i := 11) (N := some 77) (v := ?_) (a' := ?_) #[true, true, true, true, true, true, true, true, false, true, true, true, false, false, false] rfl rfl (any_of HT_.out (by kernel_rfl)) (fun _ _ _ h => h) (Or.inl ⟨by rfl, ?_⟩) ?_ ?_
                    rotate_left
                    ·intro w'
                     go_simp
                     with_reducible rfl
                    rotate_left
                    ·simp only [Act.put, List.setIfInBounds_toArray, List.set_cons_zero, List.set_cons_succ, i64_w, i32_w]
                     rfl
                    refine take_ (i := 8) (N := some 74) (v := ?_) (a' := ?_) #[true, true, true, true, true, true, true, true, true, true, true, true, false, false, false] rfl rfl (take_ofW HT_.out HW_.out (by kernel_rfl)) (fun _ _ _ h => h) (Or.inl ⟨by rfl, ?_⟩) hHeld ?_ ?_
                    rotate_left
                    ·rintro w' ⟨s0, s1⟩
                     go_simp
                     with_reducible rfl
                    rotate_left
                    ·simp only [Act.put, List.setIfInBounds_toArray, List.set_cons_zero, List.set_cons_succ, i64_w, i32_w]
                     rfl
                    refine take_ (i := 12) (N := some 78) (v := ?_) (a' := ?_) #[true, true, true, true, true, true, true, true, true, true, true, true, true, false, false] rfl rfl (take_ofW HT_.out HW_.out (by kernel_rfl)) (fun _ _ _ h => h) (Or.inl ⟨by rfl, ?_⟩) hHeld ?_ ?_
                    rotate_left
                    ·rintro w' ⟨s0, s1⟩
                     go_simp
                     with_reducible rfl
                    rotate_left
                    ·simp only [Act.put, List.setIfInBounds_toArray, List.set_cons_zero, List.set_cons_succ, i64_w, i32_w]
                     rfl
                    refine pure_ (i := 13) (N := some 79) (v := ?_) (a' := ?_) #[true, true, true, true, true, true, true, true, true, true, true, true, true, true, false] rfl rfl (any_of HT_.out (by kernel_rfl)) (fun _ _ _ h => h) (Or.inl ⟨by rfl, ?_⟩) ?_ ?_
                    rotate_left
                    ·intro w'
                     go_simp
                     with_reducible rfl
                    rotate_left
                    ·simp only [Act.put, List.setIfInBounds_toArray, List.set_cons_zero, List.set_cons_succ, i64_w, i32_w]
                     rfl
                    refine pure_ (i := 14) (N := some 80) (v := ?_) (a' := ?_) #[true, true, true, true, true, true, true, true, true, true, true, true, true, true, true] rfl rfl (any_of HT_.out (by kernel_rfl)) (fun _ _ _ h => h) (Or.inl ⟨by rfl, ?_⟩) ?_ ?_
                    rotate_left
                    ·intro w'
                     go_simp
                     with_reducible rfl
                    rotate_left
                    ·simp only [Act.put, List.setIfInBounds_toArray, List.set_cons_zero, List.set_cons_succ, i64_w, i32_w]
                     rfl
                    refine done_ (done_of HT_.out (by kernel_rfl)) ?_
                    try go_wp2
                    go_roundg k4
                    case measure => have := HK1.out; have := HJ23.out; have := HK3.out; have := HK4.out; omega
                    case rel => exact ⟨(x12_4), (wrap64 (x13_3 + 1)), sm_, sm_, H', ⟨by have := HK1.out; have := HJ23.out; have := HK3.out; have := HK4.out; omega⟩, ⟨by exact rr_ HO_10.out⟩, ⟨by exact rr_ HO_11.out⟩, ⟨by exact rr_ HO_374000.out⟩, ⟨by exact rr_ HO_374001.out⟩, ⟨by exact bk_ BK373.out⟩, ⟨by repeat (first | (with_reducible first | exact HB.out | apply below_alloc | apply pw_below_drewN | apply below_drew1 | refine below_set ?_ GE373.out) | exact HB.out)⟩⟩
                  ·rw [if_neg c50] at H
                   have c50b0 : ((rd t394 x12_4) == (rd t386 x13_3)) = false := beq_eq_false_iff_ne.mpr c50
                   have c50b1 : ((rd t394 x12_4) != (rd t386 x13_3)) = true := bne_iff_ne.mpr c50
                   have H' := Aside0.mk H
                   clear H
                   try go_wp2
                   have n0_ := Aside0.mk (Kd.R_drew HO_10.out)
                   have n1_ := Aside0.mk (Kd.R_drew HO_11.out)
                   have n2_ := Aside0.mk (Kd.R_drew HO_374000.out)
                   have n3_ := Aside0.mk (Kd.R_drew HO_374001.out)
                   have n4_ := Aside0.mk (blk_drew BK373.out)
                   have n5_ := Aside0.mk (below_drew1 HB.out)
                   clear HO_10
                   clear HO_11
                   clear HO_374000
                   clear HO_374001
                   clear BK373
                   clear HB
                   have HO_10 := n0_
                   have HO_11 := n1_
                   have HO_374000 := n2_
                   have HO_374001 := n3_
                   have BK373 := n4_
                   have HB := n5_
                   clear n0_ n1_ n2_ n3_ n4_ n5_
                   obtain ⟨Ao57, co57, eo57⟩ := Kd.R_slice HO_11.out
                   (first | subst eo57 | (injection eo57 with f1_ f2_ f3_; have f4_ := f1_.symm; have f5_ := f3_.symm; clear f1_ f2_ f3_; subst f4_; subst f5_))
                   have p397 : 0 ≤ (x12_4 : Int) := of_decide_eq_true as_
                   have q397 : x12_4 < (t394.length : Int) := of_decide_eq_true as_
                   obtain ⟨ad397, e397, hx397_0⟩ := Kd.at_int (Kd.R_reads' HO_11.out).2.2 x12_4 p397 q397
                   cases e397
                   replace p397 := eq_true p397
                   replace q397 := eq_true q397
                   have p398 : 0 ≤ (x13_3 : Int) := of_decide_eq_true as_
                   have q398 : x13_3 < (t386.length : Int) := of_decide_eq_true as_
                   obtain ⟨ad398, e398, hx398_0⟩ := Kd.at_int (Kd.R_reads' HO_10.out).2.2 x13_3 p398 q398
                   cases e398
                   replace p398 := eq_true p398
                   replace q398 := eq_true q398
                   refine start_ (n := 15) (S := fun w' => w'.cell? (ad397.add (x12_4).toNat) = some (.int .i64 (rd t394 x12_4)) ∧ w'.cell? (ad398.add (x13_3).toNat) = some (.int .i64 (rd t386 x13_3))) (ds := []) #[false, false, false, false, false, false, false, false, false, false, false, false, false, false, false] (by kernel_rfl) rfl rfl ⟨hx397_0, hx398_0⟩ (fun hHeld => ?_); refine with_tabW topiarylaw15_TreeParts.tab20 topiarylaw15_TreeParts.bits20 (fun HT_ HW_ => ?_)
                   generalize wr.drew = w56 at HO_10 HO_11 HO_374000 HO_374001 BK373 HB hx397_0 hx398_0 hHeld ⊢
                   refine pure_ (i := 0) (N := some 66) (v := ?_) (a' := ?_) #[true, false, false, false, false, false, false, false, false, false, false, false, false, false, false] rfl rfl (any_of HT_.out (by kernel_rfl)) (fun _ _ _ h => h) (Or.inl ⟨by rfl, ?_⟩) ?_ ?_
                   rotate_left
                   ·intro w'
                    go_simp
                    with_reducible rfl
                   rotate_left
                   ·simp only [Act.put, List.setIfInBounds_toArray, List.set_cons_zero, List.set_cons_succ, i64_w, i32_w]
                    rfl
                   refine pure_ (i := 1) (N := some 67) (v := ?_) (a' := ?_) #[true, true, false, false, false, false, false, false, false, false, false, false, false, false, false] rfl rfl (any_of HT_.out (by kernel_rfl)) (fun _ _ _ h => h) (Or.inl ⟨by rfl, ?_⟩) ?_ ?_
                   rotate_left
                   ·intro w'
                    go_simp
                    with_reducible rfl
                   rotate_left
                   ·simp only [Act.put, List.setIfInBounds_toArray, List.set_cons_zero, List.set_cons_succ, i64_w, i32_w]
                    rfl
                   refine pure_ (i := 2) (N := some 68) (v := ?_) (a' := ?_) #[true, true, true, false, false, false, false, false, false, false, false, false, false, false, false] rfl rfl (any_of HT_.out (by kernel_rfl)) (fun _ _ _ h => h) (Or.inl ⟨by rfl, ?_⟩) ?_ ?_
                   rotate_left
                   ·intro w'
                    go_simp
                    with_reducible rfl
                   rotate_left
                   ·simp only [Act.put, List.setIfInBounds_toArray, List.set_cons_zero, List.set_cons_succ, i64_w, i32_w]
                    rfl
                   refine pure_ (i := 3) (N := some 69) (v := ?_) (a' := ?_) #[true, true, true, true, false, false, false, false, false, false, false, false, false, false, false] rfl rfl (any_of HT_.out (by kernel_rfl)) (fun _ _ _ h => h) (Or.inl ⟨by rfl, ?_⟩) ?_ ?_
                   rotate_left
                   ·intro w'
                    go_simp
                    with_reducible rfl
                   rotate_left
                   ·simp only [Act.put, List.setIfInBounds_toArray, List.set_cons_zero, List.set_cons_succ, i64_w, i32_w]
                    rfl
                   refine pure_ (i := 4) (N := some 70) (v := ?_) (a' := ?_) #[true, true, true, true, true, false, false, false, false, false, false, false, false, false, false] rfl rfl (any_of HT_.out (by kernel_rfl)) (fun _ _ _ h => h) (Or.inl ⟨by rfl, ?_⟩) ?_ ?_
                   rotate_left
                   ·intro w'
                    go_simp
                    with_reducible rfl
                   rotate_left
                   ·simp only [Act.put, List.setIfInBounds_toArray, List.set_cons_zero, List.set_cons_succ, i64_w, i32_w]
                    rfl
                   refine pure_ (i := 5) (N := some 71) (v := ?_) (a' := ?_) #[true, true, true, true, true, true, false, false, false, false, false, false, false, false, false] rfl rfl (any_of HT_.out (by kernel_rfl)) (fun _ _ _ h => h) (Or.inl ⟨by rfl, ?_⟩) ?_ ?_
                   rotate_left
                   ·intro w'
                    go_simp
                    with_reducible rfl
                   rotate_left
                   ·simp only [Act.put, List.setIfInBounds_toArray, List.set_cons_zero, List.set_cons_succ, i64_w, i32_w]
                    rfl
                   refine pure_ (i := 6) (N := some 72) (v := ?_) (a' := ?_) #[true, true, true, true, true, true, true, false, false, false, false, false, false, false, false] rfl rfl (any_of HT_.out (by kernel_rfl)) (fun _ _ _ h => h) (Or.inl ⟨by rfl, ?_⟩) ?_ ?_
                   rotate_left
                   ·intro w'
                    go_simp
                    with_reducible rfl
                   rotate_left
                   ·simp only [Act.put, List.setIfInBounds_toArray, List.set_cons_zero, List.set_cons_succ, i64_w, i32_w]
                    rfl
                   refine pure_ (i := 7) (N := some 73) (v := ?_) (a' := ?_) #[true, true, true, true, true, true, true, true, false, false, false, false, false, false, false] rfl rfl (any_of HT_.out (by kernel_rfl)) (fun _ _ _ h => h) (Or.inl ⟨by rfl, ?_⟩) ?_ ?_
                   rotate_left
                   ·intro w'
                    go_simp
                    with_reducible rfl
                   rotate_left
                   ·simp only [Act.put, List.setIfInBounds_toArray, List.set_cons_zero, List.set_cons_succ, i64_w, i32_w]
                    rfl
                   refine pure_ (i := 9) (N := some 75) (v := ?_) (a' := ?_) #[true, true, true, true, true, true, true, true, false, true, false, false, false, false, false] rfl rfl (any_of HT_.out (by kernel_rfl)) (fun _ _ _ h => h) (Or.inl ⟨by rfl, ?_⟩) ?_ ?_
                   rotate_left
                   ·intro w'
                    go_simp
                    with_reducible rfl
                   rotate_left
                   ·simp only [Act.put, List.setIfInBounds_toArray, List.set_cons_zero, List.set_cons_succ, i64_w, i32_w]
                    rfl
                   refine pure_ (i := 10) (N := some 76) (v := ?_) (a' := ?_) #[true, true, true, true, true, true, true, true, false, true, true, false, false, false, false] rfl rfl (any_of HT_.out (by kernel_rfl)) (fun _ _ _ h => h) (Or.inl ⟨by rfl, ?_⟩) ?_ ?_
                   rotate_left
                   ·intro w'
                    go_simp
                    with_reducible rfl
                   rotate_left
                   ·simp only [Act.put, List.setIfInBounds_toArray, List.set_cons_zero, List.set_cons_succ, i64_w, i32_w]
                    rfl
                   refine pure_ (i := 11) (N := some 77) (v := ?_) (a' := ?_) #[true, true, true, true, true, true, true, true, false, true, true, true, false, false, false] rfl rfl (any_of HT_.out (by kernel_rfl)) (fun _ _ _ h => h) (Or.inl ⟨by rfl, ?_⟩) ?_ ?_
                   rotate_left
                   ·intro w'
                    go_simp
                    with_reducible rfl
                   rotate_left
                   ·simp only [Act.put, List.setIfInBounds_toArray, List.set_cons_zero, List.set_cons_succ, i64_w, i32_w]
                    rfl
                   refine take_ (i := 8) (N := some 74) (v := ?_) (a' := ?_) #[true, true, true, true, true, true, true, true, true, true, true, true, false, false, false] rfl rfl (take_ofW HT_.out HW_.out (by kernel_rfl)) (fun _ _ _ h => h) (Or.inl ⟨by rfl, ?_⟩) hHeld ?_ ?_
                   rotate_left
                   ·rintro w' ⟨s0, s1⟩
                    go_simp
                    with_reducible rfl
                   rotate_left
                   ·simp only [Act.put, List.setIfInBounds_toArray, List.set_cons_zero, List.set_cons_succ, i64_w, i32_w]
                    rfl
                   refine take_ (i := 12) (N := some 78) (v := ?_) (a' := ?_) #[true, true, true, true, true, true, true, true, true, true, true, true, true, false, false] rfl rfl (take_ofW HT_.out HW_.out (by kernel_rfl)) (fun _ _ _ h => h) (Or.inl ⟨by rfl, ?_⟩) hHeld ?_ ?_
                   rotate_left
                   ·rintro w' ⟨s0, s1⟩
                    go_simp
                    with_reducible rfl
                   rotate_left
                   ·simp only [Act.put, List.setIfInBounds_toArray, List.set_cons_zero, List.set_cons_succ, i64_w, i32_w]
                    rfl
                   refine pure_ (i := 13) (N := some 79) (v := ?_) (a' := ?_) #[true, true, true, true, true, true, true, true, true, true, true, true, true, true, false] rfl rfl (any_of HT_.out (by kernel_rfl)) (fun _ _ _ h => h) (Or.inl ⟨by rfl, ?_⟩) ?_ ?_
                   rotate_left
                   ·intro w'
                    go_simp
                    with_reducible rfl
                   rotate_left
                   ·simp only [Act.put, List.setIfInBounds_toArray, List.set_cons_zero, List.set_cons_succ, i64_w, i32_w]
                    rfl
                   refine pure_ (i := 14) (N := some 80) (v := ?_) (a' := ?_) #[true, true, true, true, true, true, true, true, true, true, true, true, true, true, true] rfl rfl (any_of HT_.out (by kernel_rfl)) (fun _ _ _ h => h) (Or.inl ⟨by rfl, ?_⟩) ?_ ?_
                   rotate_left
                   ·intro w'
                    go_simp
                    with_reducible rfl
                   rotate_left
                   ·simp only [Act.put, List.setIfInBounds_toArray, List.set_cons_zero, List.set_cons_succ, i64_w, i32_w]
                    rfl
                   refine done_ (done_of HT_.out (by kernel_rfl)) ?_
                   try go_wp2
                   go_roundg k4
                   case measure => have := HK1.out; have := HJ23.out; have := HK3.out; have := HK4.out; omega
                   case rel => exact ⟨(wrap64 (x12_4 + 1)), sm_, H', ⟨by have := HK1.out; have := HJ23.out; have := HK3.out; have := HK4.out; omega⟩, ⟨by exact rr_ HO_10.out⟩, ⟨by exact rr_ HO_11.out⟩, ⟨by exact rr_ HO_374000.out⟩, ⟨by exact rr_ HO_374001.out⟩, ⟨by exact bk_ BK373.out⟩, ⟨by repeat (first | (with_reducible first | exact HB.out | apply below_alloc | apply pw_below_drewN | apply below_drew1 | refine below_set ?_ GE373.out) | exact HB.out)⟩⟩
                 ·rw [if_neg c49] at H
                  exact absurd H (by simp)
                ·rw [if_neg c48] at H
                 exact absurd H (by simp)
               ·rw [if_neg c47] at H
                exact absurd H (by simp)
              ·rw [if_neg c46] at H
               have c46b0 : decide (x12_4 < (t394.length : Int)) = false := decide_eq_false c46
               clear c46
               by_cases c58 : x12_4 = (t394.length : Int)
               ·rw [if_pos c58] at H
                have c58b0 : (x12_4 == (t394.length : Int)) = true := beq_iff_eq.mpr c58
                have c58b1 : (x12_4 != (t394.length : Int)) = false := bne_eq_false_iff_eq.mpr c58
                clear c58
                obtain rfl := Option.some.inj H
                try go_wp2
                have n0_ := Aside0.mk (Kd.R_drew HO_10.out)
                have n1_ := Aside0.mk (Kd.R_drew HO_11.out)
                have n2_ := Aside0.mk (Kd.R_drew HO_374000.out)
                have n3_ := Aside0.mk (Kd.R_drew HO_374001.out)
                have n4_ := Aside0.mk (blk_drew BK373.out)
                have n5_ := Aside0.mk (below_drew1 HB.out)
                clear HO_10
                clear HO_11
                clear HO_374000
                clear HO_374001
                clear BK373
                clear HB
                have HO_10 := n0_
                have HO_11 := n1_
                have HO_374000 := n2_
                have HO_374001 := n3_
                have BK373 := n4_
                have HB := n5_
                clear n0_ n1_ n2_ n3_ n4_ n5_
                obtain ⟨Ao60, co60, eo60⟩ := Kd.R_slice HO_11.out
                (first | subst eo60 | (injection eo60 with f1_ f2_ f3_; have f4_ := f1_.symm; have f5_ := f3_.symm; clear f1_ f2_ f3_; subst f4_; subst f5_))
                refine start_ (n := 15) (S := fun w' => True) (ds := []) #[false, false, false, false, false, false, false, false, false, false, false, false, false, false, false] (by kernel_rfl) rfl rfl trivial (fun hHeld => ?_); refine with_tabW topiarylaw15_TreeParts.tab20 topiarylaw15_TreeParts.bits20 (fun HT_ HW_ => ?_)
                generalize wr.drew = w59 at HO_10 HO_11 HO_374000 HO_374001 BK373 HB hHeld ⊢
                refine pure_ (i := 0) (N := some 66) (v := ?_) (a' := ?_) #[true, false, false, false, false, false, false, false, false, false, false, false, false, false, false] rfl rfl (any_of HT_.out (by kernel_rfl)) (fun _ _ _ h => h) (Or.inl ⟨by rfl, ?_⟩) ?_ ?_
                rotate_left
                ·intro w'
                 go_simp
                 with_reducible rfl
                rotate_left
                ·simp only [Act.put, List.setIfInBounds_toArray, List.set_cons_zero, List.set_cons_succ, i64_w, i32_w]
                 rfl
                refine pure_ (i := 1) (N := some 67) (v := ?_) (a' := ?_) #[true, true, false, false, false, false, false, false, false, false, false, false, false, false, false] rfl rfl (any_of HT_.out (by kernel_rfl)) (fun _ _ _ h => h) (Or.inl ⟨by rfl, ?_⟩) ?_ ?_
                rotate_left
                ·intro w'
                 go_simp
                 with_reducible rfl
                rotate_left
                ·simp only [Act.put, List.setIfInBounds_toArray, List.set_cons_zero, List.set_cons_succ, i64_w, i32_w]
                 rfl
                refine pure_ (i := 2) (N := some 68) (v := ?_) (a' := ?_) #[true, true, true, false, false, false, false, false, false, false, false, false, false, false, false] rfl rfl (any_of HT_.out (by kernel_rfl)) (fun _ _ _ h => h) (Or.inl ⟨by rfl, ?_⟩) ?_ ?_
                rotate_left
                ·intro w'
                 go_simp
                 with_reducible rfl
                rotate_left
                ·simp only [Act.put, List.setIfInBounds_toArray, List.set_cons_zero, List.set_cons_succ, i64_w, i32_w]
                 rfl
                refine pure_ (i := 3) (N := some 69) (v := ?_) (a' := ?_) #[true, true, true, true, false, false, false, false, false, false, false, false, false, false, false] rfl rfl (any_of HT_.out (by kernel_rfl)) (fun _ _ _ h => h) (Or.inl ⟨by rfl, ?_⟩) ?_ ?_
                rotate_left
                ·intro w'
                 go_simp
                 with_reducible rfl
                rotate_left
                ·simp only [Act.put, List.setIfInBounds_toArray, List.set_cons_zero, List.set_cons_succ, i64_w, i32_w]
                 rfl
                refine pure_ (i := 4) (N := some 70) (v := ?_) (a' := ?_) #[true, true, true, true, true, false, false, false, false, false, false, false, false, false, false] rfl rfl (any_of HT_.out (by kernel_rfl)) (fun _ _ _ h => h) (Or.inl ⟨by rfl, ?_⟩) ?_ ?_
                rotate_left
                ·intro w'
                 go_simp
                 with_reducible rfl
                rotate_left
                ·simp only [Act.put, List.setIfInBounds_toArray, List.set_cons_zero, List.set_cons_succ, i64_w, i32_w]
                 rfl
                refine pure_ (i := 5) (N := some 71) (v := undef) (a' := ?_) #[true, true, true, true, true, true, false, false, false, false, false, false, false, false, false] rfl rfl (any_of HT_.out (by kernel_rfl)) (fun _ _ _ h => h) (Or.inr ⟨by rfl, rfl⟩) ?_ ?_
                rotate_left
                ·simp only [Act.put, List.setIfInBounds_toArray, List.set_cons_zero, List.set_cons_succ, i64_w, i32_w]
                 rfl
                refine pure_ (i := 6) (N := some 72) (v := undef) (a' := ?_) #[true, true, true, true, true, true, true, false, false, false, false, false, false, false, false] rfl rfl (any_of HT_.out (by kernel_rfl)) (fun _ _ _ h => h) (Or.inr ⟨by rfl, rfl⟩) ?_ ?_
                rotate_left
                ·simp only [Act.put, List.setIfInBounds_toArray, List.set_cons_zero, List.set_cons_succ, i64_w, i32_w]
                 rfl
                refine pure_ (i := 7) (N := some 73) (v := undef) (a' := ?_) #[true, true, true, true, true, true, true, true, false, false, false, false, false, false, false] rfl rfl (any_of HT_.out (by kernel_rfl)) (fun _ _ _ h => h) (Or.inr ⟨by rfl, rfl⟩) ?_ ?_
                rotate_left
                ·simp only [Act.put, List.setIfInBounds_toArray, List.set_cons_zero, List.set_cons_succ, i64_w, i32_w]
                 rfl
                refine pure_ (i := 8) (N := some 74) (v := undef) (a' := ?_) #[true, true, true, true, true, true, true, true, true, false, false, false, false, false, false] rfl rfl (any_of HT_.out (by kernel_rfl)) (fun _ _ _ h => h) (Or.inr ⟨by rfl, rfl⟩) ?_ ?_
                rotate_left
                ·simp only [Act.put, List.setIfInBounds_toArray, List.set_cons_zero, List.set_cons_succ, i64_w, i32_w]
                 rfl
                refine pure_ (i := 9) (N := some 75) (v := undef) (a' := ?_) #[true, true, true, true, true, true, true, true, true, true, false, false, false, false, false] rfl rfl (any_of HT_.out (by kernel_rfl)) (fun _ _ _ h => h) (Or.inr ⟨by rfl, rfl⟩) ?_ ?_
                rotate_left
                ·simp only [Act.put, List.setIfInBounds_toArray, List.set_cons_zero, List.set_cons_succ, i64_w, i32_w]
                 rfl
                refine pure_ (i := 10) (N := some 76) (v := undef) (a' := ?_) #[true, true, true, true, true, true, true, true, true, true, true, false, false, false, false] rfl rfl (any_of HT_.out (by kernel_rfl)) (fun _ _ _ h => h) (Or.inr ⟨by rfl, rfl⟩) ?_ ?_
                rotate_left
                ·simp only [Act.put, List.setIfInBounds_toArray, List.set_cons_zero, List.set_cons_succ, i64_w, i32_w]
                 rfl
                refine pure_ (i := 11) (N := some 77) (v := undef) (a' := ?_) #[true, true, true, true, true, true, true, true, true, true, true, true, false, false, false] rfl rfl (any_of HT_.out (by kernel_rfl)) (fun _ _ _ h => h) (Or.inr ⟨by rfl, rfl⟩) ?_ ?_
                rotate_left
                ·simp only [Act.put, List.setIfInBounds_toArray, List.set_cons_zero, List.set_cons_succ, i64_w, i32_w]
                 rfl
                refine pure_ (i := 12) (N := some 78) (v := undef) (a' := ?_) #[true, true, true, true, true, true, true, true, true, true, true, true, true, false, false] rfl rfl (any_of HT_.out (by kernel_rfl)) (fun _ _ _ h => h) (Or.inr ⟨by rfl, rfl⟩) ?_ ?_
                rotate_left
                ·simp only [Act.put, List.setIfInBounds_toArray, List.set_cons_zero, List.set_cons_succ, i64_w, i32_w]
                 rfl
                refine pure_ (i := 13) (N := some 79) (v := undef) (a' := ?_) #[true, true, true, true, true, true, true, true, true, true, true, true, true, true, false] rfl rfl (any_of HT_.out (by kernel_rfl)) (fun _ _ _ h => h) (Or.inr ⟨by rfl, rfl⟩) ?_ ?_
                rotate_left
                ·simp only [Act.put, List.setIfInBounds_toArray, List.set_cons_zero, List.set_cons_succ, i64_w, i32_w]
                 rfl
                refine pure_ (i := 14) (N := some 80) (v := ?_) (a' := ?_) #[true, true, true, true, true, true, true, true, true, true, true, true, true, true, true] rfl rfl (any_of HT_.out (by kernel_rfl)) (fun _ _ _ h => h) (Or.inl ⟨by rfl, ?_⟩) ?_ ?_
                rotate_left
                ·intro w'
                 go_simp
                 with_reducible rfl
                rotate_left
                ·simp only [Act.put, List.setIfInBounds_toArray, List.set_cons_zero, List.set_cons_succ, i64_w, i32_w]
                 rfl
                refine done_ (done_of HT_.out (by kernel_rfl)) ?_
                try go_wp2
                go_ret
                exact ⟨by first | rfl | (simp [errW_none, errW_some] <;> rfl) | (simp [*, errW_none, errW_some] <;> rfl), by repeat (first | (with_reducible first | exact HB.out | apply below_alloc | apply pw_below_drewN | apply below_drew1 | refine below_set ?_ GE373.out) | exact HB.out)⟩
               ·rw [if_neg c58] at H
                have c58b0 : (x12_4 == (t394.length : Int)) = false := beq_eq_false_iff_ne.mpr c58
                have c58b1 : (x12_4 != (t394.length : Int)) = true := bne_iff_ne.mpr c58
                have H' := Aside0.mk H
                clear H
                try go_wp2
                have n0_ := Aside0.mk (Kd.R_drew HO_10.out)
                have n1_ := Aside0.mk (Kd.R_drew HO_11.out)
                have n2_ := Aside0.mk (Kd.R_drew HO_374000.out)
                have n3_ := Aside0.mk (Kd.R_drew HO_374001.out)
                have n4_ := Aside0.mk (blk_drew BK373.out)
                have n5_ := Aside0.mk (below_drew1 HB.out)
                clear HO_10
                clear HO_11
                clear HO_374000
                clear HO_374001
                clear BK373
                clear HB
                have HO_10 := n0_
                have HO_11 := n1_
                have HO_374000 := n2_
                have HO_374001 := n3_
                have BK373 := n4_
                have HB := n5_
                clear n0_ n1_ n2_ n3_ n4_ n5_
                obtain ⟨Ao62, co62, eo62⟩ := Kd.R_slice HO_11.out
                (first | subst eo62 | (injection eo62 with f1_ f2_ f3_; have f4_ := f1_.symm; have f5_ := f3_.symm; clear f1_ f2_ f3_; subst f4_; subst f5_))
                refine start_ (n := 15) (S := fun w' => True) (ds := []) #[false, false, false, false, false, false, false, false, false, false, false, false, false, false, false] (by kernel_rfl) rfl rfl trivial (fun hHeld => ?_); refine with_tabW topiarylaw15_TreeParts.tab20 topiarylaw15_TreeParts.bits20 (fun HT_ HW_ => ?_)
                generalize wr.drew = w61 at HO_10 HO_11 HO_374000 HO_374001 BK373 HB hHeld ⊢
                refine pure_ (i := 0) (N := some 66) (v := ?_) (a' := ?_) #[true, false, false, false, false, false, false, false, false, false, false, false, false, false, false] rfl rfl (any_of HT_.out (by kernel_rfl)) (fun _ _ _ h => h) (Or.inl ⟨by rfl, ?_⟩) ?_ ?_
                rotate_left
                ·intro w'
                 go_simp
                 with_reducible rfl
                rotate_left
                ·simp only [Act.put, List.setIfInBounds_toArray, List.set_cons_zero, List.set_cons_succ, i64_w, i32_w]
                 rfl
                refine pure_ (i := 1) (N := some 67) (v := ?_) (a' := ?_) #[true, true, false, false, false, false, false, false, false, false, false, false, false, false, false] rfl rfl (any_of HT_.out (by kernel_rfl)) (fun _ _ _ h => h) (Or.inl ⟨by rfl, ?_⟩) ?_ ?_
                rotate_left
                ·intro w'
                 go_simp
                 with_reducible rfl
                rotate_left
                ·simp only [Act.put, List.setIfInBounds_toArray, List.set_cons_zero, List.set_cons_succ, i64_w, i32_w]
                 rfl
                refine pure_ (i := 2) (N := some 68) (v := ?_) (a' := ?_) #[true, true, true, false, false, false, false, false, false, false, false, false, false, false, false] rfl rfl (any_of HT_.out (by kernel_rfl)) (fun _ _ _ h => h) (Or.inl ⟨by rfl, ?_⟩) ?_ ?_
                rotate_left
                ·intro w'
                 go_simp
                 with_reducible rfl
                rotate_left
                ·simp only [Act.put, List.setIfInBounds_toArray, List.set_cons_zero, List.set_cons_succ, i64_w, i32_w]
                 rfl
                refine pure_ (i := 3) (N := some 69) (v := ?_) (a' := ?_) #[true, true, true, true, false, false, false, false, false, false, false, false, false, false, false] rfl rfl (any_of HT_.out (by kernel_rfl)) (fun _ _ _ h => h) (Or.inl ⟨by rfl, ?_⟩) ?_ ?_
                rotate_left
                ·intro w'
                 go_simp
                 with_reducible rfl
                rotate_left
                ·simp only [Act.put, List.setIfInBounds_toArray, List.set_cons_zero, List.set_cons_succ, i64_w, i32_w]
                 rfl
                refine pure_ (i := 4) (N := some 70) (v := ?_) (a' := ?_) #[true, true, true, true, true, false, false, false, false, false, false, false, false, false, false] rfl rfl (any_of HT_.out (by kernel_rfl)) (fun _ _ _ h => h) (Or.inl ⟨by rfl, ?_⟩) ?_ ?_
                rotate_left
                ·intro w'
                 go_simp
                 with_reducible rfl
                rotate_left
                ·simp only [Act.put, List.setIfInBounds_toArray, List.set_cons_zero, List.set_cons_succ, i64_w, i32_w]
                 rfl
                refine pure_ (i := 5) (N := some 71) (v := undef) (a' := ?_) #[true, true, true, true, true, true, false, false, false, false, false, false, false, false, false] rfl rfl (any_of HT_.out (by kernel_rfl)) (fun _ _ _ h => h) (Or.inr ⟨by rfl, rfl⟩) ?_ ?_
                rotate_left
                ·simp only [Act.put, List.setIfInBounds_toArray, List.set_cons_zero, List.set_cons_succ, i64_w, i32_w]
                 rfl
                refine pure_ (i := 6) (N := some 72) (v := undef) (a' := ?_) #[true, true, true, true, true, true, true, false, false, false, false, false, false, false, false] rfl rfl (any_of HT_.out (by kernel_rfl)) (fun _ _ _ h => h) (Or.inr ⟨by rfl, rfl⟩) ?_ ?_
                rotate_left
                ·simp only [Act.put, List.setIfInBounds_toArray, List.set_cons_zero, List.set_cons_succ, i64_w, i32_w]
                 rfl
                refine pure_ (i := 7) (N := some 73) (v := undef) (a' := ?_) #[true, true, true, true, true, true, true, true, false, false, false, false, false, false, false] rfl rfl (any_of HT_.out (by kernel_rfl)) (fun _ _ _ h => h) (Or.inr ⟨by rfl, rfl⟩) ?_ ?_
                rotate_left
                ·simp only [Act.put, List.setIfInBounds_toArray, List.set_cons_zero, List.set_cons_succ, i64_w, i32_w]
                 rfl
                refine pure_ (i := 8) (N := some 74) (v := undef) (a' := ?_) #[true, true, true, true, true, true, true, true, true, false, false, false, false, false, false] rfl rfl (any_of HT_.out (by kernel_rfl)) (fun _ _ _ h => h) (Or.inr ⟨by rfl, rfl⟩) ?_ ?_
                rotate_left
                ·simp only [Act.put, List.setIfInBounds_toArray, List.set_cons_zero, List.set_cons_succ, i64_w, i32_w]
                 rfl
                refine pure_ (i := 9) (N := some 75) (v := undef) (a' := ?_) #[true, true, true, true, true, true, true, true, true, true, false, false, false, false, false] rfl rfl (any_of HT_.out (by kernel_rfl)) (fun _ _ _ h => h) (Or.inr ⟨by rfl, rfl⟩) ?_ ?_
                rotate_left
                ·simp only [Act.put, List.setIfInBounds_toArray, List.set_cons_zero, List.set_cons_succ, i64_w, i32_w]
                 rfl
                refine pure_ (i := 10) (N := some 76) (v := undef) (a' := ?_) #[true, true, true, true, true, true, true, true, true, true, true, false, false, false, false] rfl rfl (any_of HT_.out (by kernel_rfl)) (fun _ _ _ h => h) (Or.inr ⟨by rfl, rfl⟩) ?_ ?_
                rotate_left
                ·simp only [Act.put, List.setIfInBounds_toArray, List.set_cons_zero, List.set_cons_succ, i64_w, i32_w]
                 rfl
                refine pure_ (i := 11) (N := some 77) (v := undef) (a' := ?_) #[true, true, true, true, true, true, true, true, true, true, true, true, false, false, false] rfl rfl (any_of HT_.out (by kernel_rfl)) (fun _ _ _ h => h) (Or.inr ⟨by rfl, rfl⟩) ?_ ?_
                rotate_left
                ·simp only [Act.put, List.setIfInBounds_toArray, List.set_cons_zero, List.set_cons_succ, i64_w, i32_w]
                 rfl
                refine pure_ (i := 12) (N := some 78) (v := undef) (a' := ?_) #[true, true, true, true, true, true, true, true, true, true, true, true, true, false, false] rfl rfl (any_of HT_.out (by kernel_rfl)) (fun _ _ _ h => h) (Or.inr ⟨by rfl, rfl⟩) ?_ ?_
                rotate_left
                ·simp only [Act.put, List.setIfInBounds_toArray, List.set_cons_zero, List.set_cons_succ, i64_w, i32_w]
                 rfl
                refine pure_ (i := 13) (N := some 79) (v := undef) (a' := ?_) #[true, true, true, true, true, true, true, true, true, true, true, true, true, true, false] rfl rfl (any_of HT_.out (by kernel_rfl)) (fun _ _ _ h => h) (Or.inr ⟨by rfl, rfl⟩) ?_ ?_
                rotate_left
                ·simp only [Act.put, List.setIfInBounds_toArray, List.set_cons_zero, List.set_cons_succ, i64_w, i32_w]
                 rfl
                refine pure_ (i := 14) (N := some 80) (v := ?_) (a' := ?_) #[true, true, true, true, true, true, true, true, true, true, true, true, true, true, true] rfl rfl (any_of HT_.out (by kernel_rfl)) (fun _ _ _ h => h) (Or.inl ⟨by rfl, ?_⟩) ?_ ?_
                rotate_left
                ·intro w'
                 go_simp
                 with_reducible rfl
                rotate_left
                ·simp only [Act.put, List.setIfInBounds_toArray, List.set_cons_zero, List.set_cons_succ, i64_w, i32_w]
                 rfl
                refine done_ (done_of HT_.out (by kernel_rfl)) ?_
                try go_wp2
                go_roundg k4
                case measure => have := HK1.out; have := HJ23.out; have := HK3.out; have := HK4.out; omega
                case rel => exact ⟨(x12_4), (wrap64 (x13_3 + 1)), sm_, sm_, H', ⟨by have := HK1.out; have := HJ23.out; have := HK3.out; have := HK4.out; omega⟩, ⟨by exact rr_ HO_10.out⟩, ⟨by exact rr_ HO_11.out⟩, ⟨by exact rr_ HO_374000.out⟩, ⟨by exact rr_ HO_374001.out⟩, ⟨by exact bk_ BK373.out⟩, ⟨by repeat (first | (with_reducible first | exact HB.out | apply below_alloc | apply pw_below_drewN | apply below_drew1 | refine below_set ?_ GE373.out) | exact HB.out)⟩⟩
           ·rw [if_neg c44] at H
            have c44b0 : decide (x13_3 < (t386.length : Int)) = false := decide_eq_false c44
            clear c44
            by_cases c63 : t364 = true
            ·subst c63
             have H1 : (some (x8_1 == (t369.length : Int))) = some r := by rw [if_pos rfl] at H; exact H
             clear H
             have H := H1
             clear H1
             obtain rfl := Option.some.inj H
             obtain ⟨Ao64, co64, eo64⟩ := Kd.R_slice HO_10.out
             subst eo64
             have hcz65_0 : wr.cell? ⟨gb373, 0, none⟩ = some (.slice Ao10 t366.length co10) := (blk_cell BK373.out 0).trans rfl
             have hcz65_1 : wr.cell? ⟨gb373, 1, none⟩ = some (.slice Ao12 t369.length co12) := (blk_cell BK373.out 1).trans rfl
             have hfz65_0 := blk_frozen BK373.out 0
             have hfz65_1 := blk_frozen BK373.out 1
             go_wp2
             go_ret
             exact ⟨by first | rfl | (simp [errW_none, errW_some] <;> rfl) | (simp [*, errW_none, errW_some] <;> rfl), by repeat (first | (with_reducible first | exact HB.out | apply below_alloc | apply pw_below_drewN | apply below_drew1 | refine below_set ?_ GE373.out) | exact HB.out)⟩
            ·replace c63 := Bool.eq_false_iff.mpr c63
             subst c63
             have H1 : (some false) = some r := by rw [if_neg (show ¬ (false = true) by decide)] at H; exact H
             clear H
             have H := H1
             clear H1
             exact absurd ((Option.some.inj H).trans HRT.out) (by decide)
        ·rw [if_neg c36] at H
         exact absurd H (by simp)
 ·rw [if_neg c6] at H
  have c6b0 : (t372 == 0) = false := beq_eq_false_iff_ne.mpr c6
  have c6b1 : (t372 != 0) = true := bne_iff_ne.mpr c6
  obtain rfl := Option.some.inj H
  go_enter Try.func7, Try.ntmps7
  go_wp2_with (first | ((with_reducible refine gate_callee (f := 9) rfl ?_); refine goesL_ (some 14) rfl rfl Try.func9 (by kernel_rfl) rfl #[] rfl ar_ ?_; (with_reducible refine (topiarylaw15_awake.calls k  t364 _ A3.out).mono ?_); rintro e w67 ⟨rfl, hb⟩; refine ⟨_, rfl, ?_⟩; have n0_ := Aside0.mk (Kd.V_below (by (with_reducible repeat (first | apply Kd.V_alloc | apply Kd.V_drewN | apply Kd.V_drew)); exact HO1.out) hb); have n1_ := Aside0.mk (below_step (bb_ HB.out) hb); clear HO1; clear HB; have HO1 := n0_; have HB := n1_; clear n0_ n1_; (try clear hb); (try clear hb2); (try clear hk); (try clear hi)) | ((with_reducible refine gate_callee (f := 29) rfl ?_); refine goesL_ (some 17) rfl rfl Try.func29 (by kernel_rfl) rfl #[.string a0, .int .i64 200] rfl ar_ ?_; (with_reducible refine (topiarylaw15_short.calls a0 200 t365 _ A4.out).mono ?_); rintro e w' ⟨rfl, ⟨nd, rfl⟩⟩; refine ⟨_, rfl, ?_⟩; (try (rw [drewN_self w67]; generalize hq_ : World.drewN w67 _ = w67; have n0_ : Aside0 (Kd.V (Kd.int .i64) 3 w67 w.heap.size (fun k_ => (P1_ k_ ∨ w.heap.size ≤ k_)) (.slice A1 l1.length c1) l1) := ⟨by rw [← hq_]; exact (by (with_reducible repeat (first | apply Kd.V_alloc | apply Kd.V_drewN | apply Kd.V_drew)); exact HO1.out)⟩; have n1_ : Aside0 (Below w.heap.size w w67) := ⟨by rw [← hq_]; exact (bb_ HB.out)⟩; clear HO1 HB hq_; have HO1 := n0_; have HB := n1_; clear n0_ n1_))) | ((with_reducible refine gate_callee (f := 28) rfl ?_); refine goesL_ (some 18) rfl rfl Try.func28 (by kernel_rfl) rfl #[.string t365] rfl ar_ ?_; (with_reducible refine (topiaryref13_Parse.calls k t365 t366 t369 t372 _ A5.out).mono ?_); rintro e w68 ⟨v367, v370, rfl, ho0, ho1, hb⟩; refine ⟨_, rfl, ?_⟩; have n0_ := Aside0.mk (Kd.V_mono (Kd.V_told (Kd.V_told (Kd.V_old (by (with_reducible repeat (first | apply Kd.V_alloc | apply Kd.V_drewN | apply Kd.V_drew)); exact HO1.out) hb) (Kd.R_base ho0)) (Kd.R_base ho1)) (fun _ h_ => h_.1)); have n1_ := Aside0.mk (Kd.R_lower (Kd.R_newM (M := fun k_ => (w.heap.size ≤ k_)) ho0 (below_size (bb_ HB.out)) (fun k_ h_ => h_)) (below_size (bb_ HB.out))); have n2_ := Aside0.mk (Kd.R_lower (Kd.R_newM (M := fun k_ => (w.heap.size ≤ k_)) ho1 (below_size (bb_ HB.out)) (fun k_ h_ => h_)) (below_size (bb_ HB.out))); have n3_ := Aside0.mk (below_step (bb_ HB.out) hb); clear HO1; clear HB; have HO1 := n0_; have HO368 := n1_; have HO371 := n2_; have HB := n3_; clear n0_ n1_ n2_ n3_; (try clear hb); (try clear hb2); (try clear hk); (try clear hi); (try clear ho0); (try clear ho1)) | ((with_reducible refine gate_dst (N := 6) rfl ?_); (try (refine gate_guard (by rfl) ?_; dsimp only)); refine box_event ?hg (N := 6) ?hd (cs := #[.slice none 0 0, .slice none 0 0]) (t := 25) ?hr ?_; (case hd => rfl); (case hg => rfl); (case hr => first | (go_simp; done) | (go_simp; rfl)); intro gb373 hg w69 hbox hb; have n0_ := Aside0.mk (Kd.V_below (Kd.V_elderB (by (with_reducible repeat (first | apply Kd.V_alloc | apply Kd.V_drewN | apply Kd.V_drew)); exact HO1.out) gb373 (Nat.le_of_eq hg.symm)) hb); have n1_ := Aside0.mk (Kd.R_below (rr_ HO368.out) hb); have n2_ := Aside0.mk (Kd.R_below (rr_ HO371.out) hb); have n3_ := Aside0.mk (below_step (bb_ HB.out) hb); have n4_ := Aside0.mk (hbox); have n5_ := Aside0.mk ((by rw [hg]; exact (below_size (bb_ HB.out)) : w.heap.size ≤ gb373)); have n6_ := Aside0.mk ((by rw [hg]; exact (below_size (bb_ HB.out)) : w.heap.size ≤ gb373)); clear HO1; clear HO368; clear HO371; clear HB; have HO1 := n0_; have HO368 := n1_; have HO371 := n2_; have HB := n3_; have BK373 := n4_; have GW373 := n5_; have GE373 := n6_; clear n0_ n1_ n2_ n3_ n4_ n5_ n6_; clear hb hbox hg; obtain ⟨Ao70, co70, eo70⟩ := Kd.R_slice HO368.out; subst eo70; have hcz71_0 : w69.cell? ⟨gb373, 0, none⟩ = some (.slice none 0 0) := (blk_cell BK373.out 0).trans rfl; have hcz71_1 : w69.cell? ⟨gb373, 1, none⟩ = some (.slice none 0 0) := (blk_cell BK373.out 1).trans rfl; have hfz71_0 := blk_frozen BK373.out 0; have hfz71_1 := blk_frozen BK373.out 1; obtain ⟨Ao72, co72, eo72⟩ := Kd.R_slice HO371.out; subst eo72))
  go_ret
  exact ⟨by first | rfl | (simp [errW_none, errW_some] <;> rfl) | (simp [*, errW_none, errW_some] <;> rfl), by repeat (first | (with_reducible first | exact HB.out | apply below_alloc | apply pw_below_drewN | apply below_drew1 | refine below_set ?_ GE373.out) | exact HB.out)⟩
end Go.Proofs.Ytoanmoddppmffaa.T
