/- What each function of the program comes to, and its walk: laid by a program. -/
import Derived.Test.YtoanmoddppmffaaJTx0
import Derived.Test.YtoanmoddppmffaaJTx1
import Derived.Test.YtoanmoddppmffaaJTx2
import Derived.Test.YtoanmoddppmffaaJTx3
import Derived.Test.YtoanmoddppmffaaJTx9
import Derived.Test.YtoanmoddppmffaaJTx10
import Derived.Test.YtoanmoddppmffaaJTx11
import Derived.Test.YtoanmoddppmffaaJTx13
namespace Go.Proofs.Ytoanmoddppmffaa.T
open Go.RowKit Go.Proofs.YtoanmoddppmffaaW.PrintWords Go.Proofs.YtoanmoddppmffaaW.PrintLast Go.Proofs.YtoanmoddppmffaaW.PrintMore
set_option linter.unusedVariables false
set_option linter.unusedSimpArgs false
def topiaryref13_Parse.j0 : Nat → List (S71) → List (S74) → Int → Bool → Option (List ByteArray × (List (S52)) × Int)
 | 0, _, _, _, _ => none
 | k + 1, x4, x9, x10, x43 => if x43 = true then (some (([] : List ByteArray), ([] : List (S52)), 15)) else ((topiaryref13_texts.f k x4 x10).bind fun bt304 => ((topiaryref13_spaces.f k bt304.1).bind fun t306 => (if t306 = true then (if bt304.2 < (x4.length : Int) then (some (([] : List ByteArray), ([] : List (S52)), 15)) else ((topiaryref13_limited.f k x9).bind fun bt307 => (some (bt307.1, bt307.2.1, bt307.2.2)))) else (some (([] : List ByteArray), ([] : List (S52)), 15)))))
def topiaryref13_Parse.f (k : Nat) (a0 : ByteArray) : Option (List ByteArray × (List (S52)) × Int) := (topiaryref12_Lex.f k a0).bind fun bt292 => (if bt292.2 = 0 then ((topiaryref13_texts.f k bt292.1 0).bind fun bt296 => ((topiaryref13_spaces.f k bt296.1).bind fun t298 => ((topiaryref13_element.f k bt292.1 bt296.2 (-1) ([] : List (S74)) 0).bind fun bt299 => (if t298 = true then (topiaryref13_Parse.j0 k bt292.1 bt299.1 bt299.2.1 (!bt299.2.2)) else (topiaryref13_Parse.j0 k bt292.1 bt299.1 bt299.2.1 true))))) else (some (([] : List ByteArray), ([] : List (S52)), bt292.2)))
set_option maxHeartbeats 8000000 in
set_option maxRecDepth 100000 in
theorem topiaryref13_Parse.calls (k : Nat) (a0 : ByteArray) (r1 : List ByteArray) (r2 : List (S52)) (r3 : Int) (w : World) (h : topiaryref13_Parse.f k a0 = some (r1, r2, r3)) :
  Calls Try.prog 28 #[.string a0] w fun e w' => ∃ v0_ v1_ : Value, e = .returned (.tuple #[.agg #[v0_, v1_], .int .i64 r3]) ∧ Kd.R Kd.string 9 w' w.heap.size (fun _ => True) v0_ r1 ∧ Kd.R k52 52 w' w.heap.size (fun _ => True) v1_ r2 ∧ Below w.heap.size w w' := by
 have hu25 := Try.underlying25
 have HB := Aside0.mk (Below.refl w.heap.size w)
 have H : ((topiaryref12_Lex.f k a0).bind fun bt292 => (if bt292.2 = 0 then ((topiaryref13_texts.f k bt292.1 0).bind fun bt296 => ((topiaryref13_spaces.f k bt296.1).bind fun t298 => ((topiaryref13_element.f k bt292.1 bt296.2 (-1) ([] : List (S74)) 0).bind fun bt299 => (if t298 = true then (topiaryref13_Parse.j0 k bt292.1 bt299.1 bt299.2.1 (!bt299.2.2)) else (topiaryref13_Parse.j0 k bt292.1 bt299.1 bt299.2.1 true))))) else (some (([] : List ByteArray), ([] : List (S52)), bt292.2)))) = some (r1, r2, r3) := h
 clear h
 replace H := Option.bind_eq_some_iff.mp H
 obtain ⟨⟨t292, t293⟩, A20, H⟩ := H
 try dsimp only at H
 have A2 := Aside0.mk A20
 clear A20
 by_cases c3 : t293 = 0
 ·rw [if_pos c3] at H
  have c3b0 : (t293 == 0) = true := beq_iff_eq.mpr c3
  have c3b1 : (t293 != 0) = false := bne_eq_false_iff_eq.mpr c3
  clear c3
  replace H := Option.bind_eq_some_iff.mp H
  obtain ⟨⟨t296, t297⟩, A40, H⟩ := H
  try dsimp only at H
  have A4 := Aside0.mk A40
  clear A40
  replace H := Option.bind_eq_some_iff.mp H
  obtain ⟨t298, A50, H⟩ := H
  try dsimp only at H
  have A5 := Aside0.mk A50
  clear A50
  replace H := Option.bind_eq_some_iff.mp H
  obtain ⟨⟨t299, t302, t303⟩, A60, H⟩ := H
  try dsimp only at H
  have A6 := Aside0.mk A60
  clear A60
  have HC7 := Aside0.mk H
  clear H
  go_enter Try.func28, Try.ntmps28
  go_upto_region 7 with (first | ((with_reducible refine gate_dst (N := 2) rfl ?_); (try (refine gate_guard (by rfl) ?_; dsimp only)); refine box_event ?hg (N := 2) ?hd (cs := #[.slice none 0 0, .slice none 0 0]) (t := 25) ?hr ?_; (case hd => rfl); (case hg => rfl); (case hr => first | (go_simp; done) | (go_simp; rfl)); intro gb291 hg w8 hbox hb; have n0_ := Aside0.mk (below_step (bb_ HB.out) hb); have n1_ := Aside0.mk (hbox); have n2_ := Aside0.mk ((by rw [hg]; exact (below_size (bb_ HB.out)) : w.heap.size ≤ gb291)); have n3_ := Aside0.mk ((by rw [hg]; exact (below_size (bb_ HB.out)) : w.heap.size ≤ gb291)); clear HB; have HB := n0_; have BK291 := n1_; have GW291 := n2_; have GE291 := n3_; clear n0_ n1_ n2_ n3_; clear hb hbox hg) | ((with_reducible refine gate_callee (f := 35) rfl ?_); refine goesL_ (some 17) rfl rfl Try.func35 (by kernel_rfl) rfl #[.string a0] rfl ar_ ?_; (with_reducible refine (topiaryref12_Lex.calls k a0 t292 t293 _ A2.out).mono ?_); rintro e w9 ⟨v294, rfl, ho0, hb⟩; refine ⟨_, rfl, ?_⟩; have n0_ := Aside0.mk (Kd.R_lower ho0 (below_size (bs_ HB.out GE291.out))); have n1_ := Aside0.mk (blk_below (g := gb291) (o := .cells #[.slice none 0 0, .slice none 0 0] 25 (0, 0)) (bk_ BK291.out) hb); have n2_ := Aside0.mk (below_step (bs_ HB.out GE291.out) hb); clear BK291; clear HB; have HO295 := n0_; have BK291 := n1_; have HB := n2_; clear n0_ n1_ n2_; (try clear hb); (try clear hb2); (try clear hk); (try clear hi); (try clear ho0); obtain ⟨Ao10, co10, eo10⟩ := Kd.R_slice HO295.out; subst eo10) | ((with_reducible refine gate_callee (f := 36) rfl ?_); refine goesL_ (some 26) rfl rfl Try.func36 (by kernel_rfl) rfl #[.slice Ao10 t292.length co10, .int .i64 0] rfl ar_ ?_; (with_reducible refine (topiaryref13_texts.calls k _ _ t292 0 t296 t297 _ ?side1 ?side2 A4.out).mono ?_); (case side1 => exact cc_ (Kd.R_reads' HO295.out).2.2); (case side2 => exact (Kd.R_reads' HO295.out).2.1); rintro e w' ⟨rfl, ⟨nd, rfl⟩⟩; refine ⟨_, rfl, ?_⟩) | ((with_reducible refine gate_callee (f := 37) rfl ?_); refine goesL_ (some 30) rfl rfl Try.func37 (by kernel_rfl) rfl #[.string t296] rfl ar_ ?_; (with_reducible refine (topiaryref13_spaces.calls k t296 t298 _ A5.out).mono ?_); rintro e w' ⟨rfl, ⟨nd, rfl⟩⟩; refine ⟨_, rfl, ?_⟩) | ((with_reducible refine gate_callee (f := 38) rfl ?_); refine goesL_ (some 34) rfl rfl Try.func38 (by kernel_rfl) rfl #[.slice Ao10 t292.length co10, .int .i64 t297, .int .i64 (-1), .slice none 0 0, .int .i64 0] rfl ar_ ?_; (refine (topiaryref13_element.calls k _ _ t292 t297 (-1) (fun k_ => some k_ = (.slice none 0 0 : Value).ownBlock) (.slice none 0 0) ([] : List (S74)) 0 t299 t302 t303 w _ ?side1 ?side2 ?side3 ?side4 A6.out).mono ?_); (case side1 => repeat (first | (with_reducible first | exact HB.out | apply below_alloc | apply pw_below_drewN | apply below_drew1 | refine below_set ?_ GE291.out) | exact HB.out)); (case side2 => exact Kd.C_kept_own (HO295.out) (fun k_ hk_ hs_ => (fun e_ => by simp [Value.ownBlock] at e_) hs_)); (case side3 => exact (Kd.R_reads' HO295.out).2.1); (case side4 => exact Kd.R_nil _ _ _ _ _); rintro e w11 ⟨v300, rfl, ho0, hb, hkp⟩; refine ⟨_, rfl, ?_⟩; have n0_ := Aside0.mk (blk_kept (bk_ BK291.out) hkp (fun hs_ => (fun e_ => by simp [Value.ownBlock] at e_) hs_)); have n1_ := Aside0.mk (Kd.R_mono (ok' := fun k_ => True) (Kd.R_keptB (HO295.out) hkp (fun k_ hk_ hs_ => (fun e_ => by simp [Value.ownBlock] at e_) hs_)) (fun k_ hk_ => trivial)); have n2_ := Aside0.mk (Kd.R_mono (ok' := fun k_ => True) ho0 (fun k_ hk_ => trivial)); have n3_ := Aside0.mk (hb); clear BK291; clear HO295; clear HB; have BK291 := n0_; have HO295 := n1_; have HO301 := n2_; have HB := n3_; clear n0_ n1_ n2_ n3_; (try clear hb); (try clear hkp); (try clear ho0)))
  (try simp only [Act.put, List.setIfInBounds_toArray, List.set_cons_zero, List.set_cons_succ])
  go_cut [43] (fun v43 wc => ∃ (kq : Nat) (x43_6 : Bool), v43 = .bool x43_6 ∧ Aside0 (topiaryref13_Parse.j0 kq t292 t299 t302 x43_6 = some (r1, r2, r3)) ∧ Aside0 (kq ≤ k) ∧ Aside0 (Kd.R k71 71 wc w.heap.size (fun _ => True) (.slice Ao10 t292.length co10) t292) ∧ Aside0 (Kd.R k74 74 wc w.heap.size (fun _ => True) v300 t299) ∧ Aside0 (wc.heap[gb291]? = some (.cells #[(.slice none 0 0), (.slice none 0 0)] 25 (0, 0))) ∧ Aside0 (Below w.heap.size w wc))
  case first =>
   have H := HC7.out
   clear HC7
   by_cases c12 : t298 = true
   ·subst c12
    rw [if_pos rfl] at H
    have H1 := H
    clear H
    have H := H1
    clear H1
    have H' := Aside0.mk H
    clear H
    go_wp2
    go_meet
    case rel => exact ⟨_, (!t303), sm_, H', ⟨by first | omega | exact Nat.le_refl _⟩, ⟨rr_ HO295.out⟩, ⟨rr_ HO301.out⟩, ⟨bk_ BK291.out⟩, ⟨bs_ HB.out GE291.out⟩⟩
   ·replace c12 := Bool.eq_false_iff.mpr c12
    subst c12
    rw [if_neg (show ¬ (false = true) by decide)] at H
    have H1 := H
    clear H
    have H := H1
    clear H1
    have H' := Aside0.mk H
    clear H
    go_wp2
    go_meet
    case rel => exact ⟨_, (true), sm_, H', ⟨by first | omega | exact Nat.le_refl _⟩, ⟨rr_ HO295.out⟩, ⟨rr_ HO301.out⟩, ⟨bk_ BK291.out⟩, ⟨bs_ HB.out GE291.out⟩⟩
  case rest =>
   clear HC7
   try clear c1
   try clear c2
   try clear p2
   try clear c3
   try clear c3b0
   try clear c3b1
   try clear c12
   obtain ⟨kq, x43_6, rfl, HA, HJ6, HO_4, HO_9, BK291, HB⟩ := hcut
   cases kq with
   | zero => exact absurd HA.out (by simp [topiaryref13_Parse.j0])
   | succ kj6 =>
    have H := HA.out
    clear HA
    simp only [topiaryref13_Parse.j0] at H
    by_cases c13 : x43_6 = true
    ·subst c13
     rw [if_pos rfl] at H
     have H1 := H
     clear H
     have H := H1
     clear H1
     simp only [Option.some.injEq, Prod.mk.injEq] at H
     obtain ⟨rfl, rfl, rfl⟩ := H
     have hcz14_0 : wc.cell? ⟨gb291, 0, none⟩ = some (.slice none 0 0) := (blk_cell BK291.out 0).trans rfl
     have hcz14_1 : wc.cell? ⟨gb291, 1, none⟩ = some (.slice none 0 0) := (blk_cell BK291.out 1).trans rfl
     have hfz14_0 := blk_frozen BK291.out 0
     have hfz14_1 := blk_frozen BK291.out 1
     go_wp2
     refine bodyPost_ret (results_ct rfl _ _ gb291 25 #[.slice none 0 0, .slice none 0 0] (0, 0) _ rfl (by (with_reducible repeat (first | refine blk_drewN ?_ _ | refine blk_drew ?_ | refine blk_alloc ?_ _)); refine blk_put (cs := #[.slice none 0 0, .slice none 0 0]) ?_ 1 _ rfl; (with_reducible repeat (first | refine blk_drewN ?_ _ | refine blk_drew ?_ | refine blk_alloc ?_ _)); refine blk_put (cs := #[.slice none 0 0, .slice none 0 0]) ?_ 0 _ rfl; exact bk_ BK291.out) Try.underlying25 rfl (by kernel_rfl)) rfl ?_
     exact ⟨_, _, by first | rfl | (simp [errW_none, errW_some] <;> rfl) | (simp [*, errW_none, errW_some] <;> rfl), by first | exact Kd.R_nil _ _ _ _ _ | exact Kd.N_nil _ _ _ _ _ | exact Kd.V_nil _ _ _ _ _ | exact Kd.Q_nil _ _ _ _ _ | exact Kd.S_nil _ _ _ _ _, by first | exact Kd.R_nil _ _ _ _ _ | exact Kd.N_nil _ _ _ _ _ | exact Kd.V_nil _ _ _ _ _ | exact Kd.Q_nil _ _ _ _ _ | exact Kd.S_nil _ _ _ _ _, bs_ HB.out GE291.out⟩
    ·replace c13 := Bool.eq_false_iff.mpr c13
     subst c13
     rw [if_neg (show ¬ (false = true) by decide)] at H
     have H1 := H
     clear H
     have H := H1
     clear H1
     replace H := Option.bind_eq_some_iff.mp H
     obtain ⟨⟨t304, t305⟩, A150, H⟩ := H
     try dsimp only at H
     have A15 := Aside0.mk A150
     clear A150
     replace H := Option.bind_eq_some_iff.mp H
     obtain ⟨t306, A160, H⟩ := H
     try dsimp only at H
     have A16 := Aside0.mk A160
     clear A160
     by_cases c17 : t306 = true
     ·subst c17
      rw [if_pos rfl] at H
      have H1 := H
      clear H
      have H := H1
      clear H1
      by_cases c18 : t305 < (t292.length : Int)
      ·rw [if_pos c18] at H
       have c18b0 : decide (t305 < (t292.length : Int)) = true := decide_eq_true c18
       clear c18
       simp only [Option.some.injEq, Prod.mk.injEq] at H
       obtain ⟨rfl, rfl, rfl⟩ := H
       go_wp2_with (first | ((with_reducible refine gate_callee (f := 36) rfl ?_); refine goesL_ (some 48) rfl rfl Try.func36 (by kernel_rfl) rfl #[.slice Ao10 t292.length co10, .int .i64 t302] rfl ar_ ?_; (with_reducible refine (topiaryref13_texts.calls kj6 _ _ t292 t302 t304 t305 _ ?side1 ?side2 A15.out).mono ?_); (case side1 => exact cc_ (Kd.R_reads' HO_4.out).2.2); (case side2 => exact (Kd.R_reads' HO_4.out).2.1); rintro e w' ⟨rfl, ⟨nd, rfl⟩⟩; refine ⟨_, rfl, ?_⟩; (try (rw [drewN_self wc]; generalize hq_ : World.drewN wc _ = wc; have n0_ : Aside0 (Kd.R k71 71 wc w.heap.size (fun _ => True) (.slice Ao10 t292.length co10) t292) := ⟨by rw [← hq_]; exact (rr_ HO_4.out)⟩; have n1_ : Aside0 (Kd.R k74 74 wc w.heap.size (fun _ => True) v300 t299) := ⟨by rw [← hq_]; exact (rr_ HO_9.out)⟩; have n2_ : Aside0 (wc.heap[gb291]? = some (.cells #[.slice none 0 0, .slice none 0 0] 25 (0, 0))) := ⟨by rw [← hq_]; exact (bk_ BK291.out)⟩; have n3_ : Aside0 (Below w.heap.size w wc) := ⟨by rw [← hq_]; exact (bs_ HB.out GE291.out)⟩; clear HO_4 HO_9 BK291 HB hq_; have HO_4 := n0_; have HO_9 := n1_; have BK291 := n2_; have HB := n3_; clear n0_ n1_ n2_ n3_))) | ((with_reducible refine gate_callee (f := 37) rfl ?_); refine goesL_ (some 52) rfl rfl Try.func37 (by kernel_rfl) rfl #[.string t304] rfl ar_ ?_; (with_reducible refine (topiaryref13_spaces.calls kj6 t304 true _ A16.out).mono ?_); rintro e w' ⟨rfl, ⟨nd, rfl⟩⟩; refine ⟨_, rfl, ?_⟩; (try (rw [drewN_self wc]; generalize hq_ : World.drewN wc _ = wc; have n0_ : Aside0 (Kd.R k71 71 wc w.heap.size (fun _ => True) (.slice Ao10 t292.length co10) t292) := ⟨by rw [← hq_]; exact (rr_ HO_4.out)⟩; have n1_ : Aside0 (Kd.R k74 74 wc w.heap.size (fun _ => True) v300 t299) := ⟨by rw [← hq_]; exact (rr_ HO_9.out)⟩; have n2_ : Aside0 (wc.heap[gb291]? = some (.cells #[.slice none 0 0, .slice none 0 0] 25 (0, 0))) := ⟨by rw [← hq_]; exact (bk_ BK291.out)⟩; have n3_ : Aside0 (Below w.heap.size w wc) := ⟨by rw [← hq_]; exact (bs_ HB.out GE291.out)⟩; clear HO_4 HO_9 BK291 HB hq_; have HO_4 := n0_; have HO_9 := n1_; have BK291 := n2_; have HB := n3_; clear n0_ n1_ n2_ n3_)); have hcz19_0 : wc.cell? ⟨gb291, 0, none⟩ = some (.slice none 0 0) := (blk_cell BK291.out 0).trans rfl; have hcz19_1 : wc.cell? ⟨gb291, 1, none⟩ = some (.slice none 0 0) := (blk_cell BK291.out 1).trans rfl; have hfz19_0 := blk_frozen BK291.out 0; have hfz19_1 := blk_frozen BK291.out 1))
       refine bodyPost_ret (results_ct rfl _ _ gb291 25 #[.slice none 0 0, .slice none 0 0] (0, 0) _ rfl (by (with_reducible repeat (first | refine blk_drewN ?_ _ | refine blk_drew ?_ | refine blk_alloc ?_ _)); refine blk_put (cs := #[.slice none 0 0, .slice none 0 0]) ?_ 1 _ rfl; (with_reducible repeat (first | refine blk_drewN ?_ _ | refine blk_drew ?_ | refine blk_alloc ?_ _)); refine blk_put (cs := #[.slice none 0 0, .slice none 0 0]) ?_ 0 _ rfl; exact bk_ BK291.out) Try.underlying25 rfl (by kernel_rfl)) rfl ?_
       exact ⟨_, _, by first | rfl | (simp [errW_none, errW_some] <;> rfl) | (simp [*, errW_none, errW_some] <;> rfl), by first | exact Kd.R_nil _ _ _ _ _ | exact Kd.N_nil _ _ _ _ _ | exact Kd.V_nil _ _ _ _ _ | exact Kd.Q_nil _ _ _ _ _ | exact Kd.S_nil _ _ _ _ _, by first | exact Kd.R_nil _ _ _ _ _ | exact Kd.N_nil _ _ _ _ _ | exact Kd.V_nil _ _ _ _ _ | exact Kd.Q_nil _ _ _ _ _ | exact Kd.S_nil _ _ _ _ _, bs_ HB.out GE291.out⟩
      ·rw [if_neg c18] at H
       have c18b0 : decide (t305 < (t292.length : Int)) = false := decide_eq_false c18
       clear c18
       replace H := Option.bind_eq_some_iff.mp H
       obtain ⟨⟨t307, t310, t313⟩, A200, H⟩ := H
       try dsimp only at H
       have A20 := Aside0.mk A200
       clear A200
       simp only [Option.some.injEq, Prod.mk.injEq] at H
       obtain ⟨rfl, rfl, rfl⟩ := H
       go_wp2_with (first | ((with_reducible refine gate_callee (f := 36) rfl ?_); refine goesL_ (some 48) rfl rfl Try.func36 (by kernel_rfl) rfl #[.slice Ao10 t292.length co10, .int .i64 t302] rfl ar_ ?_; (with_reducible refine (topiaryref13_texts.calls kj6 _ _ t292 t302 t304 t305 _ ?side1 ?side2 A15.out).mono ?_); (case side1 => exact cc_ (Kd.R_reads' HO_4.out).2.2); (case side2 => exact (Kd.R_reads' HO_4.out).2.1); rintro e w' ⟨rfl, ⟨nd, rfl⟩⟩; refine ⟨_, rfl, ?_⟩; (try (rw [drewN_self wc]; generalize hq_ : World.drewN wc _ = wc; have n0_ : Aside0 (Kd.R k71 71 wc w.heap.size (fun _ => True) (.slice Ao10 t292.length co10) t292) := ⟨by rw [← hq_]; exact (rr_ HO_4.out)⟩; have n1_ : Aside0 (Kd.R k74 74 wc w.heap.size (fun _ => True) v300 t299) := ⟨by rw [← hq_]; exact (rr_ HO_9.out)⟩; have n2_ : Aside0 (wc.heap[gb291]? = some (.cells #[.slice none 0 0, .slice none 0 0] 25 (0, 0))) := ⟨by rw [← hq_]; exact (bk_ BK291.out)⟩; have n3_ : Aside0 (Below w.heap.size w wc) := ⟨by rw [← hq_]; exact (bs_ HB.out GE291.out)⟩; clear HO_4 HO_9 BK291 HB hq_; have HO_4 := n0_; have HO_9 := n1_; have BK291 := n2_; have HB := n3_; clear n0_ n1_ n2_ n3_))) | ((with_reducible refine gate_callee (f := 37) rfl ?_); refine goesL_ (some 52) rfl rfl Try.func37 (by kernel_rfl) rfl #[.string t304] rfl ar_ ?_; (with_reducible refine (topiaryref13_spaces.calls kj6 t304 true _ A16.out).mono ?_); rintro e w' ⟨rfl, ⟨nd, rfl⟩⟩; refine ⟨_, rfl, ?_⟩; (try (rw [drewN_self wc]; generalize hq_ : World.drewN wc _ = wc; have n0_ : Aside0 (Kd.R k71 71 wc w.heap.size (fun _ => True) (.slice Ao10 t292.length co10) t292) := ⟨by rw [← hq_]; exact (rr_ HO_4.out)⟩; have n1_ : Aside0 (Kd.R k74 74 wc w.heap.size (fun _ => True) v300 t299) := ⟨by rw [← hq_]; exact (rr_ HO_9.out)⟩; have n2_ : Aside0 (wc.heap[gb291]? = some (.cells #[.slice none 0 0, .slice none 0 0] 25 (0, 0))) := ⟨by rw [← hq_]; exact (bk_ BK291.out)⟩; have n3_ : Aside0 (Below w.heap.size w wc) := ⟨by rw [← hq_]; exact (bs_ HB.out GE291.out)⟩; clear HO_4 HO_9 BK291 HB hq_; have HO_4 := n0_; have HO_9 := n1_; have BK291 := n2_; have HB := n3_; clear n0_ n1_ n2_ n3_)); obtain ⟨Ao21, co21, eo21⟩ := Kd.R_slice HO_9.out; subst eo21) | ((with_reducible refine gate_callee (f := 39) rfl ?_); refine goesL_ (some 63) rfl rfl Try.func39 (by kernel_rfl) rfl #[.slice Ao21 t299.length co21] rfl ar_ ?_; (with_reducible refine (topiaryref13_limited.calls kj6 _ _ t299 t307 t310 t313 _ ?side1 ?side2 A20.out).mono ?_); (case side1 => exact cc_ (Kd.R_reads' HO_9.out).2.2); (case side2 => exact (Kd.R_reads' HO_9.out).2.1); rintro e w22 ⟨v308, v311, rfl, ho0, ho1, hb⟩; refine ⟨_, rfl, ?_⟩; have n0_ := Aside0.mk (Kd.R_below (rr_ HO_4.out) hb); have n1_ := Aside0.mk (Kd.R_below (rr_ HO_9.out) hb); have n2_ := Aside0.mk (Kd.R_lower ho0 (below_size (bs_ HB.out GE291.out))); have n3_ := Aside0.mk (Kd.R_lower ho1 (below_size (bs_ HB.out GE291.out))); have n4_ := Aside0.mk (blk_below (g := gb291) (o := .cells #[.slice none 0 0, .slice none 0 0] 25 (0, 0)) (bk_ BK291.out) hb); have n5_ := Aside0.mk (below_step (bs_ HB.out GE291.out) hb); clear HO_4; clear HO_9; clear BK291; clear HB; have HO_4 := n0_; have HO_9 := n1_; have HO309 := n2_; have HO312 := n3_; have BK291 := n4_; have HB := n5_; clear n0_ n1_ n2_ n3_ n4_ n5_; (try clear hb); (try clear hb2); (try clear hk); (try clear hi); (try clear ho0); (try clear ho1); obtain ⟨Ao23, co23, eo23⟩ := Kd.R_slice HO309.out; subst eo23; have hcz24_0 : w22.cell? ⟨gb291, 0, none⟩ = some (.slice none 0 0) := (blk_cell BK291.out 0).trans rfl; have hcz24_1 : w22.cell? ⟨gb291, 1, none⟩ = some (.slice none 0 0) := (blk_cell BK291.out 1).trans rfl; have hfz24_0 := blk_frozen BK291.out 0; have hfz24_1 := blk_frozen BK291.out 1; obtain ⟨Ao25, co25, eo25⟩ := Kd.R_slice HO312.out; subst eo25))
       refine bodyPost_ret (results_ct rfl _ _ gb291 25 #[.slice Ao23 t307.length co23, .slice Ao25 t310.length co25] (0, 0) _ rfl (by (with_reducible repeat (first | refine blk_drewN ?_ _ | refine blk_drew ?_ | refine blk_alloc ?_ _)); refine blk_put (cs := #[.slice Ao23 t307.length co23, .slice none 0 0]) ?_ 1 _ rfl; (with_reducible repeat (first | refine blk_drewN ?_ _ | refine blk_drew ?_ | refine blk_alloc ?_ _)); refine blk_put (cs := #[.slice none 0 0, .slice none 0 0]) ?_ 0 _ rfl; exact bk_ BK291.out) Try.underlying25 rfl (by kernel_rfl)) rfl ?_
       exact ⟨_, _, by first | rfl | (simp [errW_none, errW_some] <;> rfl) | (simp [*, errW_none, errW_some] <;> rfl), by (with_reducible repeat (first | apply Kd.R_alloc | apply Kd.R_drewN | apply Kd.R_drew)); exact Kd.R_mono (Kd.R_far (p := ⟨gb291, 1, none⟩) (Kd.R_far (p := ⟨gb291, 0, none⟩) (Kd.R_types HO309.out BK291.out (by decide)) (fun _ hk => hk.2) (.slice Ao23 t307.length co23)) (fun _ hk => hk.2) (.slice Ao25 t310.length co25)) (fun _ hk => trivial), by (with_reducible repeat (first | apply Kd.R_alloc | apply Kd.R_drewN | apply Kd.R_drew)); exact Kd.R_mono (Kd.R_far (p := ⟨gb291, 1, none⟩) (Kd.R_far (p := ⟨gb291, 0, none⟩) (Kd.R_types HO312.out BK291.out (by decide)) (fun _ hk => hk.2) (.slice Ao23 t307.length co23)) (fun _ hk => hk.2) (.slice Ao25 t310.length co25)) (fun _ hk => trivial), bs_ HB.out GE291.out⟩
     ·replace c17 := Bool.eq_false_iff.mpr c17
      subst c17
      rw [if_neg (show ¬ (false = true) by decide)] at H
      have H1 := H
      clear H
      have H := H1
      clear H1
      simp only [Option.some.injEq, Prod.mk.injEq] at H
      obtain ⟨rfl, rfl, rfl⟩ := H
      go_wp2_with (first | ((with_reducible refine gate_callee (f := 36) rfl ?_); refine goesL_ (some 48) rfl rfl Try.func36 (by kernel_rfl) rfl #[.slice Ao10 t292.length co10, .int .i64 t302] rfl ar_ ?_; (with_reducible refine (topiaryref13_texts.calls kj6 _ _ t292 t302 t304 t305 _ ?side1 ?side2 A15.out).mono ?_); (case side1 => exact cc_ (Kd.R_reads' HO_4.out).2.2); (case side2 => exact (Kd.R_reads' HO_4.out).2.1); rintro e w' ⟨rfl, ⟨nd, rfl⟩⟩; refine ⟨_, rfl, ?_⟩; (try (rw [drewN_self wc]; generalize hq_ : World.drewN wc _ = wc; have n0_ : Aside0 (Kd.R k71 71 wc w.heap.size (fun _ => True) (.slice Ao10 t292.length co10) t292) := ⟨by rw [← hq_]; exact (rr_ HO_4.out)⟩; have n1_ : Aside0 (Kd.R k74 74 wc w.heap.size (fun _ => True) v300 t299) := ⟨by rw [← hq_]; exact (rr_ HO_9.out)⟩; have n2_ : Aside0 (wc.heap[gb291]? = some (.cells #[.slice none 0 0, .slice none 0 0] 25 (0, 0))) := ⟨by rw [← hq_]; exact (bk_ BK291.out)⟩; have n3_ : Aside0 (Below w.heap.size w wc) := ⟨by rw [← hq_]; exact (bs_ HB.out GE291.out)⟩; clear HO_4 HO_9 BK291 HB hq_; have HO_4 := n0_; have HO_9 := n1_; have BK291 := n2_; have HB := n3_; clear n0_ n1_ n2_ n3_))) | ((with_reducible refine gate_callee (f := 37) rfl ?_); refine goesL_ (some 52) rfl rfl Try.func37 (by kernel_rfl) rfl #[.string t304] rfl ar_ ?_; (with_reducible refine (topiaryref13_spaces.calls kj6 t304 false _ A16.out).mono ?_); rintro e w' ⟨rfl, ⟨nd, rfl⟩⟩; refine ⟨_, rfl, ?_⟩; (try (rw [drewN_self wc]; generalize hq_ : World.drewN wc _ = wc; have n0_ : Aside0 (Kd.R k71 71 wc w.heap.size (fun _ => True) (.slice Ao10 t292.length co10) t292) := ⟨by rw [← hq_]; exact (rr_ HO_4.out)⟩; have n1_ : Aside0 (Kd.R k74 74 wc w.heap.size (fun _ => True) v300 t299) := ⟨by rw [← hq_]; exact (rr_ HO_9.out)⟩; have n2_ : Aside0 (wc.heap[gb291]? = some (.cells #[.slice none 0 0, .slice none 0 0] 25 (0, 0))) := ⟨by rw [← hq_]; exact (bk_ BK291.out)⟩; have n3_ : Aside0 (Below w.heap.size w wc) := ⟨by rw [← hq_]; exact (bs_ HB.out GE291.out)⟩; clear HO_4 HO_9 BK291 HB hq_; have HO_4 := n0_; have HO_9 := n1_; have BK291 := n2_; have HB := n3_; clear n0_ n1_ n2_ n3_)); have hcz26_0 : wc.cell? ⟨gb291, 0, none⟩ = some (.slice none 0 0) := (blk_cell BK291.out 0).trans rfl; have hcz26_1 : wc.cell? ⟨gb291, 1, none⟩ = some (.slice none 0 0) := (blk_cell BK291.out 1).trans rfl; have hfz26_0 := blk_frozen BK291.out 0; have hfz26_1 := blk_frozen BK291.out 1))
      refine bodyPost_ret (results_ct rfl _ _ gb291 25 #[.slice none 0 0, .slice none 0 0] (0, 0) _ rfl (by (with_reducible repeat (first | refine blk_drewN ?_ _ | refine blk_drew ?_ | refine blk_alloc ?_ _)); refine blk_put (cs := #[.slice none 0 0, .slice none 0 0]) ?_ 1 _ rfl; (with_reducible repeat (first | refine blk_drewN ?_ _ | refine blk_drew ?_ | refine blk_alloc ?_ _)); refine blk_put (cs := #[.slice none 0 0, .slice none 0 0]) ?_ 0 _ rfl; exact bk_ BK291.out) Try.underlying25 rfl (by kernel_rfl)) rfl ?_
      exact ⟨_, _, by first | rfl | (simp [errW_none, errW_some] <;> rfl) | (simp [*, errW_none, errW_some] <;> rfl), by first | exact Kd.R_nil _ _ _ _ _ | exact Kd.N_nil _ _ _ _ _ | exact Kd.V_nil _ _ _ _ _ | exact Kd.Q_nil _ _ _ _ _ | exact Kd.S_nil _ _ _ _ _, by first | exact Kd.R_nil _ _ _ _ _ | exact Kd.N_nil _ _ _ _ _ | exact Kd.V_nil _ _ _ _ _ | exact Kd.Q_nil _ _ _ _ _ | exact Kd.S_nil _ _ _ _ _, bs_ HB.out GE291.out⟩
 ·rw [if_neg c3] at H
  have c3b0 : (t293 == 0) = false := beq_eq_false_iff_ne.mpr c3
  have c3b1 : (t293 != 0) = true := bne_iff_ne.mpr c3
  simp only [Option.some.injEq, Prod.mk.injEq] at H
  obtain ⟨rfl, rfl, rfl⟩ := H
  go_enter Try.func28, Try.ntmps28
  go_wp2_with (first | ((with_reducible refine gate_dst (N := 2) rfl ?_); (try (refine gate_guard (by rfl) ?_; dsimp only)); refine box_event ?hg (N := 2) ?hd (cs := #[.slice none 0 0, .slice none 0 0]) (t := 25) ?hr ?_; (case hd => rfl); (case hg => rfl); (case hr => first | (go_simp; done) | (go_simp; rfl)); intro gb291 hg w27 hbox hb; have n0_ := Aside0.mk (below_step (bb_ HB.out) hb); have n1_ := Aside0.mk (hbox); have n2_ := Aside0.mk ((by rw [hg]; exact (below_size (bb_ HB.out)) : w.heap.size ≤ gb291)); have n3_ := Aside0.mk ((by rw [hg]; exact (below_size (bb_ HB.out)) : w.heap.size ≤ gb291)); clear HB; have HB := n0_; have BK291 := n1_; have GW291 := n2_; have GE291 := n3_; clear n0_ n1_ n2_ n3_; clear hb hbox hg) | ((with_reducible refine gate_callee (f := 35) rfl ?_); refine goesL_ (some 17) rfl rfl Try.func35 (by kernel_rfl) rfl #[.string a0] rfl ar_ ?_; (with_reducible refine (topiaryref12_Lex.calls k a0 t292 t293 _ A2.out).mono ?_); rintro e w28 ⟨v294, rfl, ho0, hb⟩; refine ⟨_, rfl, ?_⟩; have n0_ := Aside0.mk (Kd.R_lower ho0 (below_size (bs_ HB.out GE291.out))); have n1_ := Aside0.mk (blk_below (g := gb291) (o := .cells #[.slice none 0 0, .slice none 0 0] 25 (0, 0)) (bk_ BK291.out) hb); have n2_ := Aside0.mk (below_step (bs_ HB.out GE291.out) hb); clear BK291; clear HB; have HO295 := n0_; have BK291 := n1_; have HB := n2_; clear n0_ n1_ n2_; (try clear hb); (try clear hb2); (try clear hk); (try clear hi); (try clear ho0); have hcz29_0 : w28.cell? ⟨gb291, 0, none⟩ = some (.slice none 0 0) := (blk_cell BK291.out 0).trans rfl; have hcz29_1 : w28.cell? ⟨gb291, 1, none⟩ = some (.slice none 0 0) := (blk_cell BK291.out 1).trans rfl; have hfz29_0 := blk_frozen BK291.out 0; have hfz29_1 := blk_frozen BK291.out 1))
  refine bodyPost_ret (results_ct rfl _ _ gb291 25 #[.slice none 0 0, .slice none 0 0] (0, 0) _ rfl (by (with_reducible repeat (first | refine blk_drewN ?_ _ | refine blk_drew ?_ | refine blk_alloc ?_ _)); refine blk_put (cs := #[.slice none 0 0, .slice none 0 0]) ?_ 1 _ rfl; (with_reducible repeat (first | refine blk_drewN ?_ _ | refine blk_drew ?_ | refine blk_alloc ?_ _)); refine blk_put (cs := #[.slice none 0 0, .slice none 0 0]) ?_ 0 _ rfl; exact bk_ BK291.out) Try.underlying25 rfl (by kernel_rfl)) rfl ?_
  exact ⟨_, _, by first | rfl | (simp [errW_none, errW_some] <;> rfl) | (simp [*, errW_none, errW_some] <;> rfl), by first | exact Kd.R_nil _ _ _ _ _ | exact Kd.N_nil _ _ _ _ _ | exact Kd.V_nil _ _ _ _ _ | exact Kd.Q_nil _ _ _ _ _ | exact Kd.S_nil _ _ _ _ _, by first | exact Kd.R_nil _ _ _ _ _ | exact Kd.N_nil _ _ _ _ _ | exact Kd.V_nil _ _ _ _ _ | exact Kd.Q_nil _ _ _ _ _ | exact Kd.S_nil _ _ _ _ _, bs_ HB.out GE291.out⟩
def topiarylaw15_awake.g (k : Nat)  : Option (Bool) := (topiaryref13_Parse.f k (⟨#[60, 97, 32, 98, 61, 39, 49, 39, 62, 120, 60, 99, 47, 62, 121, 60, 47, 97, 62]⟩ : ByteArray)).bind fun bt314 => ((tree_Children.f bt314.1 bt314.2.1 0).bind fun t322 => ((topiaryref02_Same.f k t322 (([1, 2, 3, 4] : List Int))).bind fun t328 => ((tree_Up.f bt314.1 bt314.2.1 3).bind fun t329 => ((topiaryref02_Same.f k t329 (([0] : List Int))).bind fun t335 => (if t328 = true then (if t335 = true then ((tree_Child.f bt314.1 bt314.2.1 0 2).bind fun t336 => (if t336 = 3 then ((tree_Degree.f bt314.1 bt314.2.1 1).bind fun t337 => (if t337 = 0 then ((tree_Symbol.f k bt314.1 bt314.2.1 1).bind fun t338 => (if t338 = 3 then ((tree_Symbol.f k bt314.1 bt314.2.1 2).bind fun t339 => (some (t339 == 6))) else (some false))) else (some false))) else (some false))) else (some false)) else (some false))))))
def topiarylaw15_awake.f (k : Nat) : Option Bool := if topiarylaw15_awake.g k = some true then some true else none
set_option maxHeartbeats 8000000 in
set_option maxRecDepth 100000 in
theorem topiarylaw15_awake.calls_true (k : Nat)  (r : Bool) (w : World) (h : topiarylaw15_awake.g k  = some r) (hrt : r = true) :
  Calls Try.prog 9 #[] w fun e w' => e = .returned (.bool r) ∧ Below w.heap.size w w' := by
 have HRT := Aside0.mk hrt
 clear hrt
 have hu25 := Try.underlying25
 have HB := Aside0.mk (Below.refl w.heap.size w)
 have H : ((topiaryref13_Parse.f k (⟨#[60, 97, 32, 98, 61, 39, 49, 39, 62, 120, 60, 99, 47, 62, 121, 60, 47, 97, 62]⟩ : ByteArray)).bind fun bt314 => ((tree_Children.f bt314.1 bt314.2.1 0).bind fun t322 => ((topiaryref02_Same.f k t322 (([1, 2, 3, 4] : List Int))).bind fun t328 => ((tree_Up.f bt314.1 bt314.2.1 3).bind fun t329 => ((topiaryref02_Same.f k t329 (([0] : List Int))).bind fun t335 => (if t328 = true then (if t335 = true then ((tree_Child.f bt314.1 bt314.2.1 0 2).bind fun t336 => (if t336 = 3 then ((tree_Degree.f bt314.1 bt314.2.1 1).bind fun t337 => (if t337 = 0 then ((tree_Symbol.f k bt314.1 bt314.2.1 1).bind fun t338 => (if t338 = 3 then ((tree_Symbol.f k bt314.1 bt314.2.1 2).bind fun t339 => (some (t339 == 6))) else (some false))) else (some false))) else (some false))) else (some false)) else (some false))))))) = some r := h
 clear h
 replace H := Option.bind_eq_some_iff.mp H
 obtain ⟨⟨t314, t317, t320⟩, A10, H⟩ := H
 try dsimp only at H
 have A1 := Aside0.mk A10
 clear A10
 replace H := Option.bind_eq_some_iff.mp H
 obtain ⟨t322, A20, H⟩ := H
 try dsimp only at H
 have A2 := Aside0.mk A20
 clear A20
 obtain ⟨y325, hy325⟩ : ∃ y_ : List Int, y_ = (([1, 2, 3, 4] : List Int)) := ⟨_, rfl⟩
 replace H : ((topiaryref02_Same.f k t322 y325).bind fun t328 => ((tree_Up.f t314 t317 3).bind fun t329 => ((topiaryref02_Same.f k t329 (([0] : List Int))).bind fun t335 => (if t328 = true then (if t335 = true then ((tree_Child.f t314 t317 0 2).bind fun t336 => (if t336 = 3 then ((tree_Degree.f t314 t317 1).bind fun t337 => (if t337 = 0 then ((tree_Symbol.f k t314 t317 1).bind fun t338 => (if t338 = 3 then ((tree_Symbol.f k t314 t317 2).bind fun t339 => (some (t339 == 6))) else (some false))) else (some false))) else (some false))) else (some false)) else (some false))))) = some r := by first | (rw [hy325]; with_reducible exact H) | (have H2_ := (Option.bind_some _ _).symm.trans H; rw [hy325]; with_reducible exact H2_) | (have H2_ := (Option.bind_some _ _).symm.trans H; with_reducible exact H2_) | with_reducible exact H | (rw [hy325]; exact H) | exact H
 have Ny325 := Aside0.mk hy325
 clear hy325
 replace H := Option.bind_eq_some_iff.mp H
 obtain ⟨t328, A30, H⟩ := H
 try dsimp only at H
 have A3 := Aside0.mk A30
 clear A30
 replace H := Option.bind_eq_some_iff.mp H
 obtain ⟨t329, A40, H⟩ := H
 try dsimp only at H
 have A4 := Aside0.mk A40
 clear A40
 obtain ⟨y332, hy332⟩ : ∃ y_ : List Int, y_ = (([0] : List Int)) := ⟨_, rfl⟩
 replace H : ((topiaryref02_Same.f k t329 y332).bind fun t335 => (if t328 = true then (if t335 = true then ((tree_Child.f t314 t317 0 2).bind fun t336 => (if t336 = 3 then ((tree_Degree.f t314 t317 1).bind fun t337 => (if t337 = 0 then ((tree_Symbol.f k t314 t317 1).bind fun t338 => (if t338 = 3 then ((tree_Symbol.f k t314 t317 2).bind fun t339 => (some (t339 == 6))) else (some false))) else (some false))) else (some false))) else (some false)) else (some false))) = some r := by first | (rw [hy332]; with_reducible exact H) | (have H2_ := (Option.bind_some _ _).symm.trans H; rw [hy332]; with_reducible exact H2_) | (have H2_ := (Option.bind_some _ _).symm.trans H; with_reducible exact H2_) | with_reducible exact H | (rw [hy332]; exact H) | exact H
 have Ny332 := Aside0.mk hy332
 clear hy332
 replace H := Option.bind_eq_some_iff.mp H
 obtain ⟨t335, A50, H⟩ := H
 try dsimp only at H
 have A5 := Aside0.mk A50
 clear A50
 by_cases c6 : t328 = true
 ·subst c6
  rw [if_pos rfl] at H
  have H1 := H
  clear H
  have H := H1
  clear H1
  by_cases c7 : t335 = true
  ·subst c7
   rw [if_pos rfl] at H
   have H1 := H
   clear H
   have H := H1
   clear H1
   replace H := Option.bind_eq_some_iff.mp H
   obtain ⟨t336, A80, H⟩ := H
   try dsimp only at H
   have A8 := Aside0.mk A80
   clear A80
   by_cases c9 : t336 = 3
   ·rw [if_pos c9] at H
    have c9b0 : (t336 == 3) = true := beq_iff_eq.mpr c9
    have c9b1 : (t336 != 3) = false := bne_eq_false_iff_eq.mpr c9
    clear c9
    replace H := Option.bind_eq_some_iff.mp H
    obtain ⟨t337, A100, H⟩ := H
    try dsimp only at H
    have A10 := Aside0.mk A100
    clear A100
    by_cases c11 : t337 = 0
    ·rw [if_pos c11] at H
     have c11b0 : (t337 == 0) = true := beq_iff_eq.mpr c11
     have c11b1 : (t337 != 0) = false := bne_eq_false_iff_eq.mpr c11
     clear c11
     replace H := Option.bind_eq_some_iff.mp H
     obtain ⟨t338, A120, H⟩ := H
     try dsimp only at H
     have A12 := Aside0.mk A120
     clear A120
     by_cases c13 : t338 = 3
     ·rw [if_pos c13] at H
      have c13b0 : (t338 == 3) = true := beq_iff_eq.mpr c13
      have c13b1 : (t338 != 3) = false := bne_eq_false_iff_eq.mpr c13
      clear c13
      replace H := Option.bind_eq_some_iff.mp H
      obtain ⟨t339, A140, H⟩ := H
      try dsimp only at H
      have A14 := Aside0.mk A140
      clear A140
      obtain rfl := Option.some.inj H
      go_enter Try.func9, Try.ntmps9
      go_wp2_with (first | ((with_reducible refine gate_callee (f := 28) rfl ?_); refine goesL_ (some 6) rfl rfl Try.func28 (by kernel_rfl) rfl #[.string (⟨#[60, 97, 32, 98, 61, 39, 49, 39, 62, 120, 60, 99, 47, 62, 121, 60, 47, 97, 62]⟩ : ByteArray)] rfl ar_ ?_; (with_reducible refine (topiaryref13_Parse.calls k (⟨#[60, 97, 32, 98, 61, 39, 49, 39, 62, 120, 60, 99, 47, 62, 121, 60, 47, 97, 62]⟩ : ByteArray) t314 t317 t320 _ A1.out).mono ?_); rintro e w15 ⟨v315, v318, rfl, ho0, ho1, hb⟩; refine ⟨_, rfl, ?_⟩; have n0_ := Aside0.mk (Kd.R_lower ho0 (below_size (bb_ HB.out))); have n1_ := Aside0.mk (Kd.R_lower ho1 (below_size (bb_ HB.out))); have n2_ := Aside0.mk (below_step (bb_ HB.out) hb); clear HB; have HO316 := n0_; have HO319 := n1_; have HB := n2_; clear n0_ n1_ n2_; (try clear hb); (try clear hb2); (try clear hk); (try clear hi); (try clear ho0); (try clear ho1)) | ((with_reducible refine gate_dst (N := 1) rfl ?_); refine box_event ?hg (N := 1) ?hd (cs := #[.slice none 0 0, .slice none 0 0]) (t := 25) ?hr ?_; (case hd => rfl); (case hg => rfl); (case hr => first | (go_simp; done) | (go_simp; rfl)); intro gb321 hg w16 hbox hb; have n0_ := Aside0.mk (Kd.R_below (rr_ HO316.out) hb); have n1_ := Aside0.mk (Kd.R_below (rr_ HO319.out) hb); have n2_ := Aside0.mk (below_step (bb_ HB.out) hb); have n3_ := Aside0.mk (hbox); have n4_ := Aside0.mk ((by rw [hg]; exact (below_size (bb_ HB.out)) : w.heap.size ≤ gb321)); have n5_ := Aside0.mk ((by rw [hg]; exact (below_size (bb_ HB.out)) : w.heap.size ≤ gb321)); clear HO316; clear HO319; clear HB; have HO316 := n0_; have HO319 := n1_; have HB := n2_; have BK321 := n3_; have GW321 := n4_; have GE321 := n5_; clear n0_ n1_ n2_ n3_ n4_ n5_; clear hb hbox hg; obtain ⟨Ao17, co17, eo17⟩ := Kd.R_slice HO316.out; subst eo17; have hcz18_0 : w16.cell? ⟨gb321, 0, none⟩ = some (.slice none 0 0) := (blk_cell BK321.out 0).trans rfl; have hcz18_1 : w16.cell? ⟨gb321, 1, none⟩ = some (.slice none 0 0) := (blk_cell BK321.out 1).trans rfl; have hfz18_0 := blk_frozen BK321.out 0; have hfz18_1 := blk_frozen BK321.out 1; obtain ⟨Ao19, co19, eo19⟩ := Kd.R_slice HO319.out; subst eo19) | ((with_reducible refine gate_callee (f := 14) rfl ?_); refine goesL_ (some 10) rfl rfl Try.func14 (by kernel_rfl) rfl #[.agg #[.slice Ao17 t314.length co17, .slice Ao19 t317.length co19], .int .i64 0] rfl ar_ ?_; (with_reducible refine (tree_Children.calls _ _ t314 _ _ t317 0 t322 _ ?side1 ?side2 ?side3 ?side4 A2.out).mono ?_); (case side1 => refine (Kd.R_reads' (e := 9) (base := w.heap.size) (ok := fun k_ => True) (n := t314.length) (c := co17) ?_).2.2; exact (by (with_reducible repeat (first | apply Kd.R_alloc | apply Kd.R_drewN | apply Kd.R_drew)); exact (Kd.R_mono (Kd.R_far (p := ⟨gb321, 1, none⟩) (Kd.R_far (p := ⟨gb321, 0, none⟩) (Kd.R_types HO316.out BK321.out (by decide)) (fun _ hk => hk.2) (.slice Ao17 t314.length co17)) (fun _ hk => hk.2) (.slice Ao19 t317.length co19)) (fun _ h_ => h_.1)))); (case side2 => exact (Kd.R_reads' HO316.out).2.1); (case side3 => refine (Kd.R_reads' (e := 52) (base := w.heap.size) (ok := fun k_ => True) (n := t317.length) (c := co19) ?_).2.2; exact (by (with_reducible repeat (first | apply Kd.R_alloc | apply Kd.R_drewN | apply Kd.R_drew)); exact (Kd.R_mono (Kd.R_far (p := ⟨gb321, 1, none⟩) (Kd.R_far (p := ⟨gb321, 0, none⟩) (Kd.R_types HO319.out BK321.out (by decide)) (fun _ hk => hk.2) (.slice Ao17 t314.length co17)) (fun _ hk => hk.2) (.slice Ao19 t317.length co19)) (fun _ h_ => h_.1)))); (case side4 => exact (Kd.R_reads' HO319.out).2.1); rintro e w20 ⟨v323, rfl, ho0, hb⟩; refine ⟨_, rfl, ?_⟩; have n0_ := Aside0.mk (Kd.R_below (by (with_reducible repeat (first | apply Kd.R_alloc | apply Kd.R_drewN | apply Kd.R_drew)); exact (Kd.R_mono (Kd.R_far (p := ⟨gb321, 1, none⟩) (Kd.R_far (p := ⟨gb321, 0, none⟩) (Kd.R_types HO316.out BK321.out (by decide)) (fun _ hk => hk.2) (.slice Ao17 t314.length co17)) (fun _ hk => hk.2) (.slice Ao19 t317.length co19)) (fun _ h_ => h_.1))) hb); have n1_ := Aside0.mk (Kd.R_below (by (with_reducible repeat (first | apply Kd.R_alloc | apply Kd.R_drewN | apply Kd.R_drew)); exact (Kd.R_mono (Kd.R_far (p := ⟨gb321, 1, none⟩) (Kd.R_far (p := ⟨gb321, 0, none⟩) (Kd.R_types HO319.out BK321.out (by decide)) (fun _ hk => hk.2) (.slice Ao17 t314.length co17)) (fun _ hk => hk.2) (.slice Ao19 t317.length co19)) (fun _ h_ => h_.1))) hb); have n2_ := Aside0.mk (Kd.R_lower ho0 (below_size (bs_ HB.out GE321.out))); have n3_ := Aside0.mk (blk_below (g := gb321) (o := .cells #[.slice Ao17 t314.length co17, .slice Ao19 t317.length co19] 25 (0, 0)) (by (with_reducible repeat (first | refine blk_drewN ?_ _ | refine blk_drew ?_ | refine blk_alloc ?_ _)); refine blk_put (cs := #[.slice Ao17 t314.length co17, .slice none 0 0]) ?_ 1 _ rfl; (with_reducible repeat (first | refine blk_drewN ?_ _ | refine blk_drew ?_ | refine blk_alloc ?_ _)); refine blk_put (cs := #[.slice none 0 0, .slice none 0 0]) ?_ 0 _ rfl; exact bk_ BK321.out) hb); have n4_ := Aside0.mk (below_step (bs_ HB.out GE321.out) hb); clear HO316; clear HO319; clear BK321; clear HB; have HO316 := n0_; have HO319 := n1_; have HO324 := n2_; have BK321 := n3_; have HB := n4_; clear n0_ n1_ n2_ n3_ n4_; (try clear hb); (try clear hb2); (try clear hk); (try clear hi); (try clear ho0)) | ((with_reducible refine gate_dst (N := 11) rfl ?_); refine Kd.R_lit (Kd.int .i64) _ 3 ?hg (N := 11) ?hd (xs := ([1, 2, 3, 4] : List Int)) (inner := [.int .i64 1, .int .i64 2, .int .i64 3, .int .i64 4]) (ok := fun _ => True) (okp := fun _ => True) ?hr ?hp (fun _ hk => hk) trivial (Below.refl _ _) (Nat.le_refl _) (by simp) ?_; (case hd => rfl); (case hg => rfl); (case hr => first | (go_simp; done) | (go_simp; rfl)); (case hp => exact (Reps.one (show Kd.M (Kd.int .i64) _ _ _ 1 [.int .i64 1] from rfl) (Reps.one (show Kd.M (Kd.int .i64) _ _ _ 2 [.int .i64 2] from rfl) (Reps.one (show Kd.M (Kd.int .i64) _ _ _ 3 [.int .i64 3] from rfl) (Reps.one (show Kd.M (Kd.int .i64) _ _ _ 4 [.int .i64 4] from rfl) (Reps.none _ _)))))); intro v326 w21 ho22 hb hg_ hnew_; clear hg_ hnew_; (first | rw [← Ny325.out] at ho22 | (simp only [Int.reduceToNat] at ho22; rw [← Ny325.out] at ho22)); have n0_ := Aside0.mk (Kd.R_below (rr_ HO316.out) hb); have n1_ := Aside0.mk (Kd.R_below (rr_ HO319.out) hb); have n2_ := Aside0.mk (Kd.R_elder' (rr_ HO324.out) (Kd.R_base ho22) hb); have n3_ := Aside0.mk (Kd.R_lower (Kd.R_new' ho22 (Kd.R_lt (rr_ HO324.out))) (below_size (bs_ HB.out GE321.out))); have n4_ := Aside0.mk (blk_below (g := gb321) (o := .cells #[.slice Ao17 t314.length co17, .slice Ao19 t317.length co19] 25 (0, 0)) (bk_ BK321.out) hb); have n5_ := Aside0.mk (below_step (bs_ HB.out GE321.out) hb); clear HO316; clear HO319; clear HO324; clear BK321; clear HB; have HO316 := n0_; have HO319 := n1_; have HO324 := n2_; have HO327 := n3_; have BK321 := n4_; have HB := n5_; clear n0_ n1_ n2_ n3_ n4_ n5_; clear hb ho22; obtain ⟨Ao23, co23, eo23⟩ := Kd.R_slice HO324.out; subst eo23; obtain ⟨Ao24, co24, eo24⟩ := Kd.R_slice HO327.out; subst eo24) | ((with_reducible refine gate_callee (f := 13) rfl ?_); refine goesL_ (some 12) rfl rfl Try.func13 (by kernel_rfl) rfl #[.slice Ao23 t322.length co23, .slice Ao24 y325.length co24] rfl ar_ ?_; (with_reducible refine (topiaryref02_Same.calls k _ _ t322 _ _ y325 true _ ?side1 ?side2 ?side3 ?side4 A3.out).mono ?_); (case side1 => exact cc_ (Kd.R_reads' HO324.out).2.2); (case side2 => exact (Kd.R_reads' HO324.out).2.1); (case side3 => exact cc_ (Kd.R_reads' HO327.out).2.2); (case side4 => exact (Kd.R_reads' HO327.out).2.1); rintro e w' ⟨rfl, ⟨nd, rfl⟩⟩; refine ⟨_, rfl, ?_⟩; have hcz25_0 : w21.cell? ⟨gb321, 0, none⟩ = some (.slice Ao17 t314.length co17) := (blk_cell BK321.out 0).trans rfl; have hcz25_1 : w21.cell? ⟨gb321, 1, none⟩ = some (.slice Ao19 t317.length co19) := (blk_cell BK321.out 1).trans rfl; have hfz25_0 := blk_frozen BK321.out 0; have hfz25_1 := blk_frozen BK321.out 1) | ((with_reducible refine gate_callee (f := 24) rfl ?_); refine goesL_ (some 14) rfl rfl Try.func24 (by kernel_rfl) rfl #[.agg #[.slice Ao17 t314.length co17, .slice Ao19 t317.length co19], .int .i64 3] rfl ar_ ?_; (with_reducible refine (tree_Up.calls _ _ t314 _ _ t317 3 t329 _ ?side1 ?side2 ?side3 ?side4 A4.out).mono ?_); (case side1 => exact cc_ (Kd.R_reads' HO316.out).2.2); (case side2 => exact (Kd.R_reads' HO316.out).2.1); (case side3 => exact cc_ (Kd.R_reads' HO319.out).2.2); (case side4 => exact (Kd.R_reads' HO319.out).2.1); rintro e w26 ⟨v330, rfl, ho0, hb⟩; refine ⟨_, rfl, ?_⟩; have n0_ := Aside0.mk (Kd.R_below (rr_ HO316.out) hb); have n1_ := Aside0.mk (Kd.R_below (rr_ HO319.out) hb); have n2_ := Aside0.mk (Kd.R_elder' (rr_ HO324.out) (Kd.R_base ho0) hb); have n3_ := Aside0.mk (Kd.R_elder' (rr_ HO327.out) (Kd.R_base ho0) hb); have n4_ := Aside0.mk (Kd.R_lower (Kd.R_new' (Kd.R_new' ho0 (Kd.R_lt (rr_ HO324.out))) (Kd.R_lt (rr_ HO327.out))) (below_size (bs_ HB.out GE321.out))); have n5_ := Aside0.mk (blk_below (g := gb321) (o := .cells #[.slice Ao17 t314.length co17, .slice Ao19 t317.length co19] 25 (0, 0)) (bk_ BK321.out) hb); have n6_ := Aside0.mk (below_step (bs_ HB.out GE321.out) hb); clear HO316; clear HO319; clear HO324; clear HO327; clear BK321; clear HB; have HO316 := n0_; have HO319 := n1_; have HO324 := n2_; have HO327 := n3_; have HO331 := n4_; have BK321 := n5_; have HB := n6_; clear n0_ n1_ n2_ n3_ n4_ n5_ n6_; (try clear hb); (try clear hb2); (try clear hk); (try clear hi); (try clear ho0)) | ((with_reducible refine gate_dst (N := 15) rfl ?_); refine Kd.R_lit (Kd.int .i64) _ 3 ?hg (N := 15) ?hd (xs := ([0] : List Int)) (inner := [.int .i64 0]) (ok := fun _ => True) (okp := fun _ => True) ?hr ?hp (fun _ hk => hk) trivial (Below.refl _ _) (Nat.le_refl _) (by simp) ?_; (case hd => rfl); (case hg => rfl); (case hr => first | (go_simp; done) | (go_simp; rfl)); (case hp => exact (Reps.one (show Kd.M (Kd.int .i64) _ _ _ 0 [.int .i64 0] from rfl) (Reps.none _ _))); intro v333 w27 ho28 hb hg_ hnew_; clear hg_ hnew_; (first | rw [← Ny332.out] at ho28 | (simp only [Int.reduceToNat] at ho28; rw [← Ny332.out] at ho28)); have n0_ := Aside0.mk (Kd.R_below (rr_ HO316.out) hb); have n1_ := Aside0.mk (Kd.R_below (rr_ HO319.out) hb); have n2_ := Aside0.mk (Kd.R_elder' (rr_ HO324.out) (Kd.R_base ho28) hb); have n3_ := Aside0.mk (Kd.R_elder' (rr_ HO327.out) (Kd.R_base ho28) hb); have n4_ := Aside0.mk (Kd.R_elder' (rr_ HO331.out) (Kd.R_base ho28) hb); have n5_ := Aside0.mk (Kd.R_lower (Kd.R_new' (Kd.R_new' (Kd.R_new' ho28 (Kd.R_lt (rr_ HO324.out))) (Kd.R_lt (rr_ HO327.out))) (Kd.R_lt (rr_ HO331.out))) (below_size (bs_ HB.out GE321.out))); have n6_ := Aside0.mk (blk_below (g := gb321) (o := .cells #[.slice Ao17 t314.length co17, .slice Ao19 t317.length co19] 25 (0, 0)) (bk_ BK321.out) hb); have n7_ := Aside0.mk (below_step (bs_ HB.out GE321.out) hb); clear HO316; clear HO319; clear HO324; clear HO327; clear HO331; clear BK321; clear HB; have HO316 := n0_; have HO319 := n1_; have HO324 := n2_; have HO327 := n3_; have HO331 := n4_; have HO334 := n5_; have BK321 := n6_; have HB := n7_; clear n0_ n1_ n2_ n3_ n4_ n5_ n6_ n7_; clear hb ho28; obtain ⟨Ao29, co29, eo29⟩ := Kd.R_slice HO331.out; subst eo29; obtain ⟨Ao30, co30, eo30⟩ := Kd.R_slice HO334.out; subst eo30) | ((with_reducible refine gate_callee (f := 13) rfl ?_); refine goesL_ (some 16) rfl rfl Try.func13 (by kernel_rfl) rfl #[.slice Ao29 t329.length co29, .slice Ao30 y332.length co30] rfl ar_ ?_; (with_reducible refine (topiaryref02_Same.calls k _ _ t329 _ _ y332 true _ ?side1 ?side2 ?side3 ?side4 A5.out).mono ?_); (case side1 => exact cc_ (Kd.R_reads' HO331.out).2.2); (case side2 => exact (Kd.R_reads' HO331.out).2.1); (case side3 => exact cc_ (Kd.R_reads' HO334.out).2.2); (case side4 => exact (Kd.R_reads' HO334.out).2.1); rintro e w' ⟨rfl, ⟨nd, rfl⟩⟩; refine ⟨_, rfl, ?_⟩; have hcz31_0 : w27.cell? ⟨gb321, 0, none⟩ = some (.slice Ao17 t314.length co17) := (blk_cell BK321.out 0).trans rfl; have hcz31_1 : w27.cell? ⟨gb321, 1, none⟩ = some (.slice Ao19 t317.length co19) := (blk_cell BK321.out 1).trans rfl; have hfz31_0 := blk_frozen BK321.out 0; have hfz31_1 := blk_frozen BK321.out 1) | (go_at_call 20; (with_reducible refine (tree_Child.calls _ _ t314 _ _ t317 0 2 t336 _ ?side1 ?side2 ?side3 ?side4 A8.out).mono ?_); (case side1 => exact cc_ (Kd.R_reads' HO316.out).2.2); (case side2 => exact (Kd.R_reads' HO316.out).2.1); (case side3 => exact cc_ (Kd.R_reads' HO319.out).2.2); (case side4 => exact (Kd.R_reads' HO319.out).2.1); rintro e w32 ⟨rfl, hb⟩; have n0_ := Aside0.mk (Kd.R_below (rr_ HO316.out) hb); have n1_ := Aside0.mk (Kd.R_below (rr_ HO319.out) hb); have n2_ := Aside0.mk (Kd.R_below (rr_ HO324.out) hb); have n3_ := Aside0.mk (Kd.R_below (rr_ HO327.out) hb); have n4_ := Aside0.mk (Kd.R_below (rr_ HO331.out) hb); have n5_ := Aside0.mk (Kd.R_below (rr_ HO334.out) hb); have n6_ := Aside0.mk (blk_below (g := gb321) (o := .cells #[.slice Ao17 t314.length co17, .slice Ao19 t317.length co19] 25 (0, 0)) (bk_ BK321.out) hb); have n7_ := Aside0.mk (below_step (bs_ HB.out GE321.out) hb); clear HO316; clear HO319; clear HO324; clear HO327; clear HO331; clear HO334; clear BK321; clear HB; have HO316 := n0_; have HO319 := n1_; have HO324 := n2_; have HO327 := n3_; have HO331 := n4_; have HO334 := n5_; have BK321 := n6_; have HB := n7_; clear n0_ n1_ n2_ n3_ n4_ n5_ n6_ n7_; (try clear hb); (try clear hb2); (try clear hk); (try clear hi); have hcz33_0 : w32.cell? ⟨gb321, 0, none⟩ = some (.slice Ao17 t314.length co17) := (blk_cell BK321.out 0).trans rfl; have hcz33_1 : w32.cell? ⟨gb321, 1, none⟩ = some (.slice Ao19 t317.length co19) := (blk_cell BK321.out 1).trans rfl; have hfz33_0 := blk_frozen BK321.out 0; have hfz33_1 := blk_frozen BK321.out 1) | (go_at_call 19; (with_reducible refine (tree_Degree.calls _ _ t314 _ _ t317 1 t337 _ ?side1 ?side2 ?side3 ?side4 A10.out).mono ?_); (case side1 => exact cc_ (Kd.R_reads' HO316.out).2.2); (case side2 => exact (Kd.R_reads' HO316.out).2.1); (case side3 => exact cc_ (Kd.R_reads' HO319.out).2.2); (case side4 => exact (Kd.R_reads' HO319.out).2.1); rintro e w34 ⟨rfl, hb⟩; have n0_ := Aside0.mk (Kd.R_below (rr_ HO316.out) hb); have n1_ := Aside0.mk (Kd.R_below (rr_ HO319.out) hb); have n2_ := Aside0.mk (Kd.R_below (rr_ HO324.out) hb); have n3_ := Aside0.mk (Kd.R_below (rr_ HO327.out) hb); have n4_ := Aside0.mk (Kd.R_below (rr_ HO331.out) hb); have n5_ := Aside0.mk (Kd.R_below (rr_ HO334.out) hb); have n6_ := Aside0.mk (blk_below (g := gb321) (o := .cells #[.slice Ao17 t314.length co17, .slice Ao19 t317.length co19] 25 (0, 0)) (bk_ BK321.out) hb); have n7_ := Aside0.mk (below_step (bs_ HB.out GE321.out) hb); clear HO316; clear HO319; clear HO324; clear HO327; clear HO331; clear HO334; clear BK321; clear HB; have HO316 := n0_; have HO319 := n1_; have HO324 := n2_; have HO327 := n3_; have HO331 := n4_; have HO334 := n5_; have BK321 := n6_; have HB := n7_; clear n0_ n1_ n2_ n3_ n4_ n5_ n6_ n7_; (try clear hb); (try clear hb2); (try clear hk); (try clear hi); have hcz35_0 : w34.cell? ⟨gb321, 0, none⟩ = some (.slice Ao17 t314.length co17) := (blk_cell BK321.out 0).trans rfl; have hcz35_1 : w34.cell? ⟨gb321, 1, none⟩ = some (.slice Ao19 t317.length co19) := (blk_cell BK321.out 1).trans rfl; have hfz35_0 := blk_frozen BK321.out 0; have hfz35_1 := blk_frozen BK321.out 1) | (go_at_call 16; (with_reducible refine (tree_Symbol.calls k _ _ t314 _ _ t317 1 t338 _ ?side1 ?side2 ?side3 ?side4 A12.out).mono ?_); (case side1 => exact cc_ (Kd.R_reads' HO316.out).2.2); (case side2 => exact (Kd.R_reads' HO316.out).2.1); (case side3 => exact cc_ (Kd.R_reads' HO319.out).2.2); (case side4 => exact (Kd.R_reads' HO319.out).2.1); rintro e w36 ⟨rfl, hb⟩; have n0_ := Aside0.mk (Kd.R_below (rr_ HO316.out) hb); have n1_ := Aside0.mk (Kd.R_below (rr_ HO319.out) hb); have n2_ := Aside0.mk (Kd.R_below (rr_ HO324.out) hb); have n3_ := Aside0.mk (Kd.R_below (rr_ HO327.out) hb); have n4_ := Aside0.mk (Kd.R_below (rr_ HO331.out) hb); have n5_ := Aside0.mk (Kd.R_below (rr_ HO334.out) hb); have n6_ := Aside0.mk (blk_below (g := gb321) (o := .cells #[.slice Ao17 t314.length co17, .slice Ao19 t317.length co19] 25 (0, 0)) (bk_ BK321.out) hb); have n7_ := Aside0.mk (below_step (bs_ HB.out GE321.out) hb); clear HO316; clear HO319; clear HO324; clear HO327; clear HO331; clear HO334; clear BK321; clear HB; have HO316 := n0_; have HO319 := n1_; have HO324 := n2_; have HO327 := n3_; have HO331 := n4_; have HO334 := n5_; have BK321 := n6_; have HB := n7_; clear n0_ n1_ n2_ n3_ n4_ n5_ n6_ n7_; (try clear hb); (try clear hb2); (try clear hk); (try clear hi); have hcz37_0 : w36.cell? ⟨gb321, 0, none⟩ = some (.slice Ao17 t314.length co17) := (blk_cell BK321.out 0).trans rfl; have hcz37_1 : w36.cell? ⟨gb321, 1, none⟩ = some (.slice Ao19 t317.length co19) := (blk_cell BK321.out 1).trans rfl; have hfz37_0 := blk_frozen BK321.out 0; have hfz37_1 := blk_frozen BK321.out 1) | (go_at_call 16; (with_reducible refine (tree_Symbol.calls k _ _ t314 _ _ t317 2 t339 _ ?side1 ?side2 ?side3 ?side4 A14.out).mono ?_); (case side1 => exact cc_ (Kd.R_reads' HO316.out).2.2); (case side2 => exact (Kd.R_reads' HO316.out).2.1); (case side3 => exact cc_ (Kd.R_reads' HO319.out).2.2); (case side4 => exact (Kd.R_reads' HO319.out).2.1); rintro e w38 ⟨rfl, hb⟩; have n0_ := Aside0.mk (Kd.R_below (rr_ HO316.out) hb); have n1_ := Aside0.mk (Kd.R_below (rr_ HO319.out) hb); have n2_ := Aside0.mk (Kd.R_below (rr_ HO324.out) hb); have n3_ := Aside0.mk (Kd.R_below (rr_ HO327.out) hb); have n4_ := Aside0.mk (Kd.R_below (rr_ HO331.out) hb); have n5_ := Aside0.mk (Kd.R_below (rr_ HO334.out) hb); have n6_ := Aside0.mk (blk_below (g := gb321) (o := .cells #[.slice Ao17 t314.length co17, .slice Ao19 t317.length co19] 25 (0, 0)) (bk_ BK321.out) hb); have n7_ := Aside0.mk (below_step (bs_ HB.out GE321.out) hb); clear HO316; clear HO319; clear HO324; clear HO327; clear HO331; clear HO334; clear BK321; clear HB; have HO316 := n0_; have HO319 := n1_; have HO324 := n2_; have HO327 := n3_; have HO331 := n4_; have HO334 := n5_; have BK321 := n6_; have HB := n7_; clear n0_ n1_ n2_ n3_ n4_ n5_ n6_ n7_; (try clear hb); (try clear hb2); (try clear hk); (try clear hi)))
      go_ret
      exact ⟨by first | rfl | (simp [errW_none, errW_some] <;> rfl) | (simp [*, errW_none, errW_some] <;> rfl), bs_ HB.out GE321.out⟩
     ·rw [if_neg c13] at H
      have c13b0 : (t338 == 3) = false := beq_eq_false_iff_ne.mpr c13
      have c13b1 : (t338 != 3) = true := bne_iff_ne.mpr c13
      exact absurd ((Option.some.inj H).trans HRT.out) (by decide)
    ·rw [if_neg c11] at H
     have c11b0 : (t337 == 0) = false := beq_eq_false_iff_ne.mpr c11
     have c11b1 : (t337 != 0) = true := bne_iff_ne.mpr c11
     exact absurd ((Option.some.inj H).trans HRT.out) (by decide)
   ·rw [if_neg c9] at H
    have c9b0 : (t336 == 3) = false := beq_eq_false_iff_ne.mpr c9
    have c9b1 : (t336 != 3) = true := bne_iff_ne.mpr c9
    exact absurd ((Option.some.inj H).trans HRT.out) (by decide)
  ·replace c7 := Bool.eq_false_iff.mpr c7
   subst c7
   rw [if_neg (show ¬ (false = true) by decide)] at H
   have H1 := H
   clear H
   have H := H1
   clear H1
   exact absurd ((Option.some.inj H).trans HRT.out) (by decide)
 ·replace c6 := Bool.eq_false_iff.mpr c6
  subst c6
  rw [if_neg (show ¬ (false = true) by decide)] at H
  have H1 := H
  clear H
  have H := H1
  clear H1
  exact absurd ((Option.some.inj H).trans HRT.out) (by decide)
theorem topiarylaw15_awake.calls (k : Nat) (r : Bool) (w : World) (h : topiarylaw15_awake.f k = some r) :
  Calls Try.prog 9 #[] w fun e w' => e = .returned (.bool r) ∧ Below w.heap.size w w' := by
 unfold topiarylaw15_awake.f at h
 by_cases c : topiarylaw15_awake.g k = some true
 ·rw [if_pos c] at h
  obtain rfl := Option.some.inj h
  exact topiarylaw15_awake.calls_true k true w c rfl
 ·rw [if_neg c] at h; cases h
def topiarylaw15_short.f (a0 : ByteArray) (a1 : Int) : Option (ByteArray) := if (a0.size : Int) > a1 then (if 0 ≤ a1 then (if a1 ≤ (a0.size : Int) then (some (a0.extract 0 (a1 : Int).toNat)) else (none)) else (none)) else (some a0)
set_option maxHeartbeats 8000000 in
set_option maxRecDepth 100000 in
theorem topiarylaw15_short.calls (a0 : ByteArray) (a1 : Int) (r : ByteArray) (w : World) (h : topiarylaw15_short.f a0 a1 = some r) :
  Calls Try.prog 29 #[.string a0, .int .i64 a1] w fun e w' => e = .returned (.string r) ∧ Drawn0 w w' := by
 have H : (if (a0.size : Int) > a1 then (if 0 ≤ a1 then (if a1 ≤ (a0.size : Int) then (some (a0.extract 0 (a1 : Int).toNat)) else (none)) else (none)) else (some a0)) = some r := h
 clear h
 by_cases c3 : (a0.size : Int) > a1
 ·rw [if_pos c3] at H
  have c3b0 : decide (a1 < (a0.size : Int)) = true := decide_eq_true c3
  clear c3
  by_cases c4 : 0 ≤ a1
  ·rw [if_pos c4] at H
   have c4b0 := eq_true c4
   have c4b1 : decide (0 ≤ a1) = true := decide_eq_true c4
   clear c4
   by_cases c5 : a1 ≤ (a0.size : Int)
   ·rw [if_pos c5] at H
    have c5b0 := eq_true c5
    have c5b1 : decide (a1 ≤ (a0.size : Int)) = true := decide_eq_true c5
    clear c5
    obtain rfl := Option.some.inj H
    go_enter Try.func29, Try.ntmps29
    go_wp2
    go_ret
    exact ⟨sm_, dd_⟩
   ·rw [if_neg c5] at H
    exact absurd H (by simp)
  ·rw [if_neg c4] at H
   exact absurd H (by simp)
 ·rw [if_neg c3] at H
  have c3b0 : decide (a1 < (a0.size : Int)) = false := decide_eq_false c3
  clear c3
  obtain rfl := Option.some.inj H
  go_enter Try.func29, Try.ntmps29
  go_wp2
  go_ret
  exact ⟨sm_, dd_⟩
end Go.Proofs.Ytoanmoddppmffaa.T
