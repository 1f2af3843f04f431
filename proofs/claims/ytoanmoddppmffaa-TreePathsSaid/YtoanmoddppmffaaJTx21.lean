/- What each function of the program comes to, and its walk: laid by a program. -/
import Derived.Test.YtoanmoddppmffaaJTx0
import Derived.Test.YtoanmoddppmffaaJTx16
namespace Go.Proofs.Ytoanmoddppmffaa.T
open Go.RowKit Go.Proofs.YtoanmoddppmffaaW.PrintWords Go.Proofs.YtoanmoddppmffaaW.PrintLast Go.Proofs.YtoanmoddppmffaaW.PrintMore
set_option linter.unusedVariables false
set_option linter.unusedSimpArgs false
mutual
def topiaryref15_Paths.l0 : Nat → List Int → List Int → Int → List ByteArray → List (S52) → Option (List Int)
 | 0, _, _, _, _, _ => none
 | k + 1, x1, x5, x6, x482000, x482001 => if x6 < (x482001.length : Int) then ((topiaryref15_Symbol.f k x482000 x482001 x6).bind fun t482 => ((some (([t482] : List Int) : List Int)).bind fun y483 => ((topiaryref15_Up.f k x482000 x482001 x6).bind fun t486 => (if y483.length + t486.length < 17592186044416 then ((some (y483 ++ t486 : List Int)).bind fun y489 => (topiaryref15_Paths.l1 k x1 x5 x6 y489 (decide ((x1.length : Int) ≤ (y489.length : Int))) 0 x482000 x482001)) else (none))))) else (some x5)
def topiaryref15_Paths.l1 : Nat → List Int → List Int → Int → List Int → Bool → Int → List ByteArray → List (S52) → Option (List Int)
 | 0, _, _, _, _, _, _, _, _ => none
 | k + 1, x1, x5, x6, x7, x8, x9, x482000, x482001 => if x9 < (x1.length : Int) then (if x8 = true then (if 0 ≤ (wrap64 ((wrap64 ((x1.length : Int) - 1)) - x9)) then (if (wrap64 ((wrap64 ((x1.length : Int) - 1)) - x9)) < (x1.length : Int) then (if 0 ≤ x9 then (if x9 < (x7.length : Int) then (topiaryref15_Paths.l1 k x1 x5 x6 x7 ((rd x1 (wrap64 ((wrap64 ((x1.length : Int) - 1)) - x9))) == (rd x7 x9)) (wrap64 (x9 + 1)) x482000 x482001) else (none)) else (none)) else (none)) else (none)) else (topiaryref15_Paths.l0 k x1 x5 (wrap64 (x6 + 1)) x482000 x482001)) else (if x8 = true then (if x5.length < 17592186044416 then (topiaryref15_Paths.l0 k x1 (x5 ++ [x6]) (wrap64 (x6 + 1)) x482000 x482001) else (none)) else (topiaryref15_Paths.l0 k x1 x5 (wrap64 (x6 + 1)) x482000 x482001))
end
def topiaryref15_Paths.f (k : Nat) (l0_0 : List ByteArray) (l0_1 : List (S52)) (l1 : List Int) : Option (List Int) := topiaryref15_Paths.l0 k l1 ([] : List Int) 0 l0_0 l0_1
set_option maxHeartbeats 8000000 in
set_option maxRecDepth 100000 in
theorem topiaryref15_Paths.calls (k : Nat) (A0_0 : Option Addr) (c0_0 : Nat) (l0_0 : List ByteArray) (A0_1 : Option Addr) (c0_1 : Nat) (l0_1 : List (S52)) (A1 : Option Addr) (c1 : Nat) (l1 : List Int) (r : List Int) (w : World) (hr0_0 : Kd.C Kd.string w A0_0 l0_0.length l0_0) (hc0_0 : l0_0.length ≤ c0_0) (hr0_1 : Kd.C k52 w A0_1 l0_1.length l0_1) (hc0_1 : l0_1.length ≤ c0_1) (hr1 : Kd.C (Kd.int .i64) w A1 l1.length l1) (hc1 : l1.length ≤ c1) (h : topiaryref15_Paths.f k l0_0 l0_1 l1 = some r) :
  Calls Try.prog 31 #[.agg #[.slice A0_0 l0_0.length c0_0, .slice A0_1 l0_1.length c0_1], .slice A1 l1.length c1] w fun e w' => ∃ v0_ : Value, e = .returned (v0_) ∧ Kd.R (Kd.int .i64) 3 w' w.heap.size (fun _ => True) v0_ r ∧ Below w.heap.size w w' := by
 have hu25 := Try.underlying25
 have HR0_0 := Aside0.mk hr0_0
 have HC0_0 := Aside0.mk hc0_0
 clear hr0_0 hc0_0
 have HR0_1 := Aside0.mk hr0_1
 have HC0_1 := Aside0.mk hc0_1
 clear hr0_1 hc0_1
 have HR1 := Aside0.mk hr1
 have HC1 := Aside0.mk hc1
 clear hr1 hc1
 have HB := Aside0.mk (Below.refl w.heap.size w)
 have H : (topiaryref15_Paths.l0 k l1 ([] : List Int) 0 l0_0 l0_1) = some r := h
 clear h
 have H' := Aside0.mk H
 clear H
 go_enter Try.func31, Try.ntmps31
 go_wp2_with (first | ((with_reducible refine gate_dst (N := 2) rfl ?_); refine box_event ?hg (N := 2) ?hd (cs := #[.slice A0_0 l0_0.length c0_0, .slice A0_1 l0_1.length c0_1]) (t := 25) ?hr ?_; (case hd => rfl); (case hg => rfl); (case hr => first | (go_simp; done) | (go_simp; rfl)); intro gb481 hg w3 hbox hb; have n0_ := Aside0.mk (below_step (bb_ HB.out) hb); have n1_ := Aside0.mk (hbox); have n2_ := Aside0.mk ((by rw [hg]; exact (below_size (bb_ HB.out)) : w.heap.size ≤ gb481)); have n3_ := Aside0.mk ((by rw [hg]; exact (below_size (bb_ HB.out)) : w.heap.size ≤ gb481)); clear HB; have HB := n0_; have BK481 := n1_; have GW481 := n2_; have GE481 := n3_; clear n0_ n1_ n2_ n3_; clear hb hbox hg))
 repeat (go_quiet (first | ((with_reducible refine gate_dst (N := 2) rfl ?_); refine box_event ?hg (N := 2) ?hd (cs := #[.slice A0_0 l0_0.length c0_0, .slice A0_1 l0_1.length c0_1]) (t := 25) ?hr ?_; (case hd => rfl); (case hg => rfl); (case hr => first | (go_simp; done) | (go_simp; rfl)); intro gb481 hg w3 hbox hb; have n0_ := Aside0.mk (below_step (bb_ HB.out) hb); have n1_ := Aside0.mk (hbox); have n2_ := Aside0.mk ((by rw [hg]; exact (below_size (bb_ HB.out)) : w.heap.size ≤ gb481)); have n3_ := Aside0.mk ((by rw [hg]; exact (below_size (bb_ HB.out)) : w.heap.size ≤ gb481)); clear HB; have HB := n0_; have BK481 := n1_; have GW481 := n2_; have GE481 := n3_; clear n0_ n1_ n2_ n3_; clear hb hbox hg)); try go_wp2_with (first | ((with_reducible refine gate_dst (N := 2) rfl ?_); refine box_event ?hg (N := 2) ?hd (cs := #[.slice A0_0 l0_0.length c0_0, .slice A0_1 l0_1.length c0_1]) (t := 25) ?hr ?_; (case hd => rfl); (case hg => rfl); (case hr => first | (go_simp; done) | (go_simp; rfl)); intro gb481 hg w3 hbox hb; have n0_ := Aside0.mk (below_step (bb_ HB.out) hb); have n1_ := Aside0.mk (hbox); have n2_ := Aside0.mk ((by rw [hg]; exact (below_size (bb_ HB.out)) : w.heap.size ≤ gb481)); have n3_ := Aside0.mk ((by rw [hg]; exact (below_size (bb_ HB.out)) : w.heap.size ≤ gb481)); clear HB; have HB := n0_; have BK481 := n1_; have GW481 := n2_; have GE481 := n3_; clear n0_ n1_ n2_ n3_; clear hb hbox hg)))
 go_loopg [5, 6] k (fun kq v5 v6 w' => ∃ (x5_1 : List Int) (x6_1 : Int), v6 = .int .i64 x6_1 ∧ Aside0 (topiaryref15_Paths.l0 kq l1 x5_1 x6_1 l0_0 l0_1 = some r) ∧ Aside0 (kq ≤ k) ∧ Aside0 (Kd.R (Kd.int .i64) 3 w' w.heap.size (fun _ => True) v5 x5_1) ∧ Aside0 (w'.heap[gb481]? = some (.cells #[(.slice A0_0 l0_0.length c0_0), (.slice A0_1 l0_1.length c0_1)] 25 (0, 0))) ∧ Aside0 (Below w.heap.size w w'))
 case atStart => exact ⟨(([] : List Int)), (0), sm_, H', ⟨Nat.le_refl _⟩, ⟨by first | exact Kd.R_nil _ _ _ _ _ | exact Kd.N_nil _ _ _ _ _ | exact Kd.V_nil _ _ _ _ _ | exact Kd.Q_nil _ _ _ _ _ | exact Kd.S_nil _ _ _ _ _⟩, ⟨bk_ BK481.out⟩, ⟨bs_ HB.out GE481.out⟩⟩
 case round =>
  clear H'
  try clear c1
  try clear p2
  try clear c3
  obtain ⟨x5_1, x6_1, rfl, HA, HK1, HO_5, BK481, HB⟩ := hrel
  cases gk with
  | zero => exact absurd HA.out (by simp [topiaryref15_Paths.l0])
  | succ k1 =>
   have H := HA.out
   clear HA
   simp only [topiaryref15_Paths.l0] at H
   by_cases c4 : x6_1 < (l0_1.length : Int)
   ·rw [if_pos c4] at H
    have c4b0 : decide (x6_1 < (l0_1.length : Int)) = true := decide_eq_true c4
    clear c4
    replace H := Option.bind_eq_some_iff.mp H
    obtain ⟨t482, A50, H⟩ := H
    try dsimp only at H
    have A5 := Aside0.mk A50
    clear A50
    obtain ⟨y483, hy483⟩ : ∃ y_ : List Int, y_ = (([t482] : List Int)) := ⟨_, rfl⟩
    replace H : ((topiaryref15_Up.f k1 l0_0 l0_1 x6_1).bind fun t486 => (if y483.length + t486.length < 17592186044416 then ((some (y483 ++ t486 : List Int)).bind fun y489 => (topiaryref15_Paths.l1 k1 l1 x5_1 x6_1 y489 (decide ((l1.length : Int) ≤ (y489.length : Int))) 0 l0_0 l0_1)) else (none))) = some r := by first | (rw [hy483]; with_reducible exact H) | (have H2_ := (Option.bind_some _ _).symm.trans H; rw [hy483]; with_reducible exact H2_) | (have H2_ := (Option.bind_some _ _).symm.trans H; with_reducible exact H2_) | with_reducible exact H | (rw [hy483]; exact H) | exact H
    have Ny483 := Aside0.mk hy483
    clear hy483
    replace H := Option.bind_eq_some_iff.mp H
    obtain ⟨t486, A60, H⟩ := H
    try dsimp only at H
    have A6 := Aside0.mk A60
    clear A60
    by_cases c7 : y483.length + t486.length < 17592186044416
    ·rw [if_pos c7] at H
     have LMc7 := Aside0.mk c7
     clear c7
     obtain ⟨y489, hy489⟩ : ∃ y_ : List Int, y_ = (y483 ++ t486) := ⟨_, rfl⟩
     replace H : (topiaryref15_Paths.l1 k1 l1 x5_1 x6_1 y489 (decide ((l1.length : Int) ≤ (y489.length : Int))) 0 l0_0 l0_1) = some r := by first | (rw [hy489]; with_reducible exact H) | (have H2_ := (Option.bind_some _ _).symm.trans H; rw [hy489]; with_reducible exact H2_) | (have H2_ := (Option.bind_some _ _).symm.trans H; with_reducible exact H2_) | with_reducible exact H | (rw [hy489]; exact H) | exact H
     have Ny489 := Aside0.mk hy489
     clear hy489
     have H' := Aside0.mk H
     clear H
     have hcz8_0 : wr.cell? ⟨gb481, 0, none⟩ = some (.slice A0_0 l0_0.length c0_0) := (blk_cell BK481.out 0).trans rfl
     have hcz8_1 : wr.cell? ⟨gb481, 1, none⟩ = some (.slice A0_1 l0_1.length c0_1) := (blk_cell BK481.out 1).trans rfl
     have hfz8_0 := blk_frozen BK481.out 0
     have hfz8_1 := blk_frozen BK481.out 1
     go_wp2_with (first | (go_at_call 12; (with_reducible refine (topiaryref15_Symbol.calls k1 _ _ l0_0 _ _ l0_1 x6_1 t482 _ ?side1 ?side2 ?side3 ?side4 A5.out).mono ?_); (case side1 => exact cc_ (Kd.C_below HR0_0.out HB.out)); (case side2 => exact HC0_0.out); (case side3 => exact cc_ (Kd.C_below HR0_1.out HB.out)); (case side4 => exact HC0_1.out); rintro e w9 ⟨rfl, hb⟩; have n0_ := Aside0.mk (Kd.R_below (rr_ HO_5.out) hb); have n1_ := Aside0.mk (blk_below (g := gb481) (o := .cells #[.slice A0_0 l0_0.length c0_0, .slice A0_1 l0_1.length c0_1] 25 (0, 0)) (bk_ BK481.out) hb); have n2_ := Aside0.mk (below_step (bs_ HB.out GE481.out) hb); clear HO_5; clear BK481; clear HB; have HO_5 := n0_; have BK481 := n1_; have HB := n2_; clear n0_ n1_ n2_; (try clear hb); (try clear hb2); (try clear hk); (try clear hi)) | ((with_reducible refine gate_dst (N := 20) rfl ?_); refine Kd.R_lit (Kd.int .i64) _ 3 ?hg (N := 20) ?hd (xs := ([t482] : List Int)) (inner := [.int .i64 t482]) (ok := fun _ => True) (okp := fun _ => True) ?hr ?hp (fun _ hk => hk) trivial (Below.refl _ _) (Nat.le_refl _) (by simp) ?_; (case hd => rfl); (case hg => rfl); (case hr => first | (go_simp; done) | (go_simp; rfl)); (case hp => exact (Reps.one (show Kd.M (Kd.int .i64) _ _ _ t482 [.int .i64 t482] from rfl) (Reps.none _ _))); intro v484 w10 ho11 hb hg_ hnew_; clear hg_ hnew_; (first | rw [← Ny483.out] at ho11 | (simp only [Int.reduceToNat] at ho11; rw [← Ny483.out] at ho11)); have n0_ := Aside0.mk (Kd.R_elder' (rr_ HO_5.out) (Kd.R_base ho11) hb); have n1_ := Aside0.mk (Kd.R_lower (Kd.R_new' ho11 (Kd.R_lt (rr_ HO_5.out))) (below_size (bs_ HB.out GE481.out))); have n2_ := Aside0.mk (blk_below (g := gb481) (o := .cells #[.slice A0_0 l0_0.length c0_0, .slice A0_1 l0_1.length c0_1] 25 (0, 0)) (bk_ BK481.out) hb); have n3_ := Aside0.mk (below_step (bs_ HB.out GE481.out) hb); clear HO_5; clear BK481; clear HB; have HO_5 := n0_; have HO485 := n1_; have BK481 := n2_; have HB := n3_; clear n0_ n1_ n2_ n3_; clear hb ho11; have hcz12_0 : w10.cell? ⟨gb481, 0, none⟩ = some (.slice A0_0 l0_0.length c0_0) := (blk_cell BK481.out 0).trans rfl; have hcz12_1 : w10.cell? ⟨gb481, 1, none⟩ = some (.slice A0_1 l0_1.length c0_1) := (blk_cell BK481.out 1).trans rfl; have hfz12_0 := blk_frozen BK481.out 0; have hfz12_1 := blk_frozen BK481.out 1) | (go_at_call 23; (with_reducible refine (topiaryref15_Up.calls k1 _ _ l0_0 _ _ l0_1 x6_1 t486 _ ?side1 ?side2 ?side3 ?side4 A6.out).mono ?_); (case side1 => exact cc_ (Kd.C_below HR0_0.out HB.out)); (case side2 => exact HC0_0.out); (case side3 => exact cc_ (Kd.C_below HR0_1.out HB.out)); (case side4 => exact HC0_1.out); rintro e w13 ⟨v487, rfl, ho0, hb⟩; have n0_ := Aside0.mk (Kd.R_elder' (rr_ HO_5.out) (Kd.R_base ho0) hb); have n1_ := Aside0.mk (Kd.R_elder' (rr_ HO485.out) (Kd.R_base ho0) hb); have n2_ := Aside0.mk (Kd.R_lower (Kd.R_new' (Kd.R_new' ho0 (Kd.R_lt (rr_ HO_5.out))) (Kd.R_lt (rr_ HO485.out))) (below_size (bs_ HB.out GE481.out))); have n3_ := Aside0.mk (blk_below (g := gb481) (o := .cells #[.slice A0_0 l0_0.length c0_0, .slice A0_1 l0_1.length c0_1] 25 (0, 0)) (bk_ BK481.out) hb); have n4_ := Aside0.mk (below_step (bs_ HB.out GE481.out) hb); clear HO_5; clear HO485; clear BK481; clear HB; have HO_5 := n0_; have HO485 := n1_; have HO488 := n2_; have BK481 := n3_; have HB := n4_; clear n0_ n1_ n2_ n3_ n4_; (try clear hb); (try clear hb2); (try clear hk); (try clear hi); (try clear ho0); obtain ⟨Ao15, co15, eo15⟩ := Kd.R_slice HO488.out; subst eo15) | ((with_reducible refine gate_builtin (b := .append) (xs := #[.tmp 21, .tmp 24]) rfl ?_); at_builtin; refine Kd.R_append_rows (Kd.int .i64) (w0 := w) w.heap.size rfl (.tmp 21) (.tmp 24) 29 3 (.int .i64 0) 8 rfl Try.underlying29 info3 rfl (by decide) (by omega) v484 y483 t486 _ _ _ (fun k_ => some k_ ≠ (u5 : Value).ownBlock ∧ some k_ ≠ (.slice Ao15 t486.length co15 : Value).ownBlock) (fun _ => False) rfl rfl ?aO ?aR (fun _ _ h => h) (fun _ h => h.elim) ?aF ?aB ?aS ?aL ?_; (case aR => exact cc_ (Kd.R_reads' HO488.out).2.2); (case aB => exact (bs_ HB.out GE481.out)); (case aF => exact (fun k_ hk => ⟨Kd.fresh' (Kd.R_lt (rr_ HO_5.out)) k_ hk, Kd.fresh' (Kd.R_lt (rr_ HO488.out)) k_ hk⟩)); (case aO => exact (by (with_reducible repeat (first | apply Kd.R_alloc | apply Kd.R_drewN | apply Kd.R_drew)); exact Kd.R_mono HO485.out (fun _ hk => ⟨hk.1.2, hk.2⟩))); (case aS => exact (below_size (bs_ HB.out GE481.out))); (case aL => have := LMc7.out; omega); intro v490 w14 ho hb hg hat; rw [← Ny489.out] at ho; have n0_ := Aside0.mk (Kd.R_after (ok := (fun k_ => some k_ ≠ (.slice Ao15 t486.length co15 : Value).ownBlock)) (by (with_reducible repeat (first | apply Kd.R_alloc | apply Kd.R_drewN | apply Kd.R_drew)); exact Kd.R_mono HO_5.out (fun _ hk => ⟨hk.2, hk.1.2⟩)) hg hat); have n1_ := Aside0.mk (blk_grown (g := gb481) (o := .cells #[.slice A0_0 l0_0.length c0_0, .slice A0_1 l0_1.length c0_1] 25 (0, 0)) (bk_ BK481.out) hg (Kd.R_ne HO485.out BK481.out (by decide))); have n2_ := Aside0.mk (Kd.R_after (ok := (fun k_ => some k_ ≠ (u5 : Value).ownBlock)) (by (with_reducible repeat (first | apply Kd.R_alloc | apply Kd.R_drewN | apply Kd.R_drew)); exact Kd.R_mono HO488.out (fun _ hk => ⟨hk.1.2, hk.2⟩)) hg hat); have n3_ := Aside0.mk (hb); have n4_ := Aside0.mk (ho); clear HO_5; clear BK481; clear HO488; clear HB; clear HO485; have HO_5 := n0_; have BK481 := n1_; have HO488 := n2_; have HB := n3_; have HO491 := n4_; clear n0_ n1_ n2_ n3_ n4_; clear ho hb hg hat; obtain ⟨Ao16, co16, eo16⟩ := Kd.R_slice HO491.out; subst eo16))
     repeat (go_quiet (first | (go_at_call 12; (with_reducible refine (topiaryref15_Symbol.calls k1 _ _ l0_0 _ _ l0_1 x6_1 t482 _ ?side1 ?side2 ?side3 ?side4 A5.out).mono ?_); (case side1 => exact cc_ (Kd.C_below HR0_0.out HB.out)); (case side2 => exact HC0_0.out); (case side3 => exact cc_ (Kd.C_below HR0_1.out HB.out)); (case side4 => exact HC0_1.out); rintro e w9 ⟨rfl, hb⟩; have n0_ := Aside0.mk (Kd.R_below (rr_ HO_5.out) hb); have n1_ := Aside0.mk (blk_below (g := gb481) (o := .cells #[.slice A0_0 l0_0.length c0_0, .slice A0_1 l0_1.length c0_1] 25 (0, 0)) (bk_ BK481.out) hb); have n2_ := Aside0.mk (below_step (bs_ HB.out GE481.out) hb); clear HO_5; clear BK481; clear HB; have HO_5 := n0_; have BK481 := n1_; have HB := n2_; clear n0_ n1_ n2_; (try clear hb); (try clear hb2); (try clear hk); (try clear hi)) | ((with_reducible refine gate_dst (N := 20) rfl ?_); refine Kd.R_lit (Kd.int .i64) _ 3 ?hg (N := 20) ?hd (xs := ([t482] : List Int)) (inner := [.int .i64 t482]) (ok := fun _ => True) (okp := fun _ => True) ?hr ?hp (fun _ hk => hk) trivial (Below.refl _ _) (Nat.le_refl _) (by simp) ?_; (case hd => rfl); (case hg => rfl); (case hr => first | (go_simp; done) | (go_simp; rfl)); (case hp => exact (Reps.one (show Kd.M (Kd.int .i64) _ _ _ t482 [.int .i64 t482] from rfl) (Reps.none _ _))); intro v484 w10 ho11 hb hg_ hnew_; clear hg_ hnew_; (first | rw [← Ny483.out] at ho11 | (simp only [Int.reduceToNat] at ho11; rw [← Ny483.out] at ho11)); have n0_ := Aside0.mk (Kd.R_elder' (rr_ HO_5.out) (Kd.R_base ho11) hb); have n1_ := Aside0.mk (Kd.R_lower (Kd.R_new' ho11 (Kd.R_lt (rr_ HO_5.out))) (below_size (bs_ HB.out GE481.out))); have n2_ := Aside0.mk (blk_below (g := gb481) (o := .cells #[.slice A0_0 l0_0.length c0_0, .slice A0_1 l0_1.length c0_1] 25 (0, 0)) (bk_ BK481.out) hb); have n3_ := Aside0.mk (below_step (bs_ HB.out GE481.out) hb); clear HO_5; clear BK481; clear HB; have HO_5 := n0_; have HO485 := n1_; have BK481 := n2_; have HB := n3_; clear n0_ n1_ n2_ n3_; clear hb ho11; have hcz12_0 : w10.cell? ⟨gb481, 0, none⟩ = some (.slice A0_0 l0_0.length c0_0) := (blk_cell BK481.out 0).trans rfl; have hcz12_1 : w10.cell? ⟨gb481, 1, none⟩ = some (.slice A0_1 l0_1.length c0_1) := (blk_cell BK481.out 1).trans rfl; have hfz12_0 := blk_frozen BK481.out 0; have hfz12_1 := blk_frozen BK481.out 1) | (go_at_call 23; (with_reducible refine (topiaryref15_Up.calls k1 _ _ l0_0 _ _ l0_1 x6_1 t486 _ ?side1 ?side2 ?side3 ?side4 A6.out).mono ?_); (case side1 => exact cc_ (Kd.C_below HR0_0.out HB.out)); (case side2 => exact HC0_0.out); (case side3 => exact cc_ (Kd.C_below HR0_1.out HB.out)); (case side4 => exact HC0_1.out); rintro e w13 ⟨v487, rfl, ho0, hb⟩; have n0_ := Aside0.mk (Kd.R_elder' (rr_ HO_5.out) (Kd.R_base ho0) hb); have n1_ := Aside0.mk (Kd.R_elder' (rr_ HO485.out) (Kd.R_base ho0) hb); have n2_ := Aside0.mk (Kd.R_lower (Kd.R_new' (Kd.R_new' ho0 (Kd.R_lt (rr_ HO_5.out))) (Kd.R_lt (rr_ HO485.out))) (below_size (bs_ HB.out GE481.out))); have n3_ := Aside0.mk (blk_below (g := gb481) (o := .cells #[.slice A0_0 l0_0.length c0_0, .slice A0_1 l0_1.length c0_1] 25 (0, 0)) (bk_ BK481.out) hb); have n4_ := Aside0.mk (below_step (bs_ HB.out GE481.out) hb); clear HO_5; clear HO485; clear BK481; clear HB; have HO_5 := n0_; have HO485 := n1_; have HO488 := n2_; have BK481 := n3_; have HB := n4_; clear n0_ n1_ n2_ n3_ n4_; (try clear hb); (try clear hb2); (try clear hk); (try clear hi); (try clear ho0); obtain ⟨Ao15, co15, eo15⟩ := Kd.R_slice HO488.out; subst eo15) | ((with_reducible refine gate_builtin (b := .append) (xs := #[.tmp 21, .tmp 24]) rfl ?_); at_builtin; refine Kd.R_append_rows (Kd.int .i64) (w0 := w) w.heap.size rfl (.tmp 21) (.tmp 24) 29 3 (.int .i64 0) 8 rfl Try.underlying29 info3 rfl (by decide) (by omega) v484 y483 t486 _ _ _ (fun k_ => some k_ ≠ (u5 : Value).ownBlock ∧ some k_ ≠ (.slice Ao15 t486.length co15 : Value).ownBlock) (fun _ => False) rfl rfl ?aO ?aR (fun _ _ h => h) (fun _ h => h.elim) ?aF ?aB ?aS ?aL ?_; (case aR => exact cc_ (Kd.R_reads' HO488.out).2.2); (case aB => exact (bs_ HB.out GE481.out)); (case aF => exact (fun k_ hk => ⟨Kd.fresh' (Kd.R_lt (rr_ HO_5.out)) k_ hk, Kd.fresh' (Kd.R_lt (rr_ HO488.out)) k_ hk⟩)); (case aO => exact (by (with_reducible repeat (first | apply Kd.R_alloc | apply Kd.R_drewN | apply Kd.R_drew)); exact Kd.R_mono HO485.out (fun _ hk => ⟨hk.1.2, hk.2⟩))); (case aS => exact (below_size (bs_ HB.out GE481.out))); (case aL => have := LMc7.out; omega); intro v490 w14 ho hb hg hat; rw [← Ny489.out] at ho; have n0_ := Aside0.mk (Kd.R_after (ok := (fun k_ => some k_ ≠ (.slice Ao15 t486.length co15 : Value).ownBlock)) (by (with_reducible repeat (first | apply Kd.R_alloc | apply Kd.R_drewN | apply Kd.R_drew)); exact Kd.R_mono HO_5.out (fun _ hk => ⟨hk.2, hk.1.2⟩)) hg hat); have n1_ := Aside0.mk (blk_grown (g := gb481) (o := .cells #[.slice A0_0 l0_0.length c0_0, .slice A0_1 l0_1.length c0_1] 25 (0, 0)) (bk_ BK481.out) hg (Kd.R_ne HO485.out BK481.out (by decide))); have n2_ := Aside0.mk (Kd.R_after (ok := (fun k_ => some k_ ≠ (u5 : Value).ownBlock)) (by (with_reducible repeat (first | apply Kd.R_alloc | apply Kd.R_drewN | apply Kd.R_drew)); exact Kd.R_mono HO488.out (fun _ hk => ⟨hk.1.2, hk.2⟩)) hg hat); have n3_ := Aside0.mk (hb); have n4_ := Aside0.mk (ho); clear HO_5; clear BK481; clear HO488; clear HB; clear HO485; have HO_5 := n0_; have BK481 := n1_; have HO488 := n2_; have HB := n3_; have HO491 := n4_; clear n0_ n1_ n2_ n3_ n4_; clear ho hb hg hat; obtain ⟨Ao16, co16, eo16⟩ := Kd.R_slice HO491.out; subst eo16)); try go_wp2_with (first | (go_at_call 12; (with_reducible refine (topiaryref15_Symbol.calls k1 _ _ l0_0 _ _ l0_1 x6_1 t482 _ ?side1 ?side2 ?side3 ?side4 A5.out).mono ?_); (case side1 => exact cc_ (Kd.C_below HR0_0.out HB.out)); (case side2 => exact HC0_0.out); (case side3 => exact cc_ (Kd.C_below HR0_1.out HB.out)); (case side4 => exact HC0_1.out); rintro e w9 ⟨rfl, hb⟩; have n0_ := Aside0.mk (Kd.R_below (rr_ HO_5.out) hb); have n1_ := Aside0.mk (blk_below (g := gb481) (o := .cells #[.slice A0_0 l0_0.length c0_0, .slice A0_1 l0_1.length c0_1] 25 (0, 0)) (bk_ BK481.out) hb); have n2_ := Aside0.mk (below_step (bs_ HB.out GE481.out) hb); clear HO_5; clear BK481; clear HB; have HO_5 := n0_; have BK481 := n1_; have HB := n2_; clear n0_ n1_ n2_; (try clear hb); (try clear hb2); (try clear hk); (try clear hi)) | ((with_reducible refine gate_dst (N := 20) rfl ?_); refine Kd.R_lit (Kd.int .i64) _ 3 ?hg (N := 20) ?hd (xs := ([t482] : List Int)) (inner := [.int .i64 t482]) (ok := fun _ => True) (okp := fun _ => True) ?hr ?hp (fun _ hk => hk) trivial (Below.refl _ _) (Nat.le_refl _) (by simp) ?_; (case hd => rfl); (case hg => rfl); (case hr => first | (go_simp; done) | (go_simp; rfl)); (case hp => exact (Reps.one (show Kd.M (Kd.int .i64) _ _ _ t482 [.int .i64 t482] from rfl) (Reps.none _ _))); intro v484 w10 ho11 hb hg_ hnew_; clear hg_ hnew_; (first | rw [← Ny483.out] at ho11 | (simp only [Int.reduceToNat] at ho11; rw [← Ny483.out] at ho11)); have n0_ := Aside0.mk (Kd.R_elder' (rr_ HO_5.out) (Kd.R_base ho11) hb); have n1_ := Aside0.mk (Kd.R_lower (Kd.R_new' ho11 (Kd.R_lt (rr_ HO_5.out))) (below_size (bs_ HB.out GE481.out))); have n2_ := Aside0.mk (blk_below (g := gb481) (o := .cells #[.slice A0_0 l0_0.length c0_0, .slice A0_1 l0_1.length c0_1] 25 (0, 0)) (bk_ BK481.out) hb); have n3_ := Aside0.mk (below_step (bs_ HB.out GE481.out) hb); clear HO_5; clear BK481; clear HB; have HO_5 := n0_; have HO485 := n1_; have BK481 := n2_; have HB := n3_; clear n0_ n1_ n2_ n3_; clear hb ho11; have hcz12_0 : w10.cell? ⟨gb481, 0, none⟩ = some (.slice A0_0 l0_0.length c0_0) := (blk_cell BK481.out 0).trans rfl; have hcz12_1 : w10.cell? ⟨gb481, 1, none⟩ = some (.slice A0_1 l0_1.length c0_1) := (blk_cell BK481.out 1).trans rfl; have hfz12_0 := blk_frozen BK481.out 0; have hfz12_1 := blk_frozen BK481.out 1) | (go_at_call 23; (with_reducible refine (topiaryref15_Up.calls k1 _ _ l0_0 _ _ l0_1 x6_1 t486 _ ?side1 ?side2 ?side3 ?side4 A6.out).mono ?_); (case side1 => exact cc_ (Kd.C_below HR0_0.out HB.out)); (case side2 => exact HC0_0.out); (case side3 => exact cc_ (Kd.C_below HR0_1.out HB.out)); (case side4 => exact HC0_1.out); rintro e w13 ⟨v487, rfl, ho0, hb⟩; have n0_ := Aside0.mk (Kd.R_elder' (rr_ HO_5.out) (Kd.R_base ho0) hb); have n1_ := Aside0.mk (Kd.R_elder' (rr_ HO485.out) (Kd.R_base ho0) hb); have n2_ := Aside0.mk (Kd.R_lower (Kd.R_new' (Kd.R_new' ho0 (Kd.R_lt (rr_ HO_5.out))) (Kd.R_lt (rr_ HO485.out))) (below_size (bs_ HB.out GE481.out))); have n3_ := Aside0.mk (blk_below (g := gb481) (o := .cells #[.slice A0_0 l0_0.length c0_0, .slice A0_1 l0_1.length c0_1] 25 (0, 0)) (bk_ BK481.out) hb); have n4_ := Aside0.mk (below_step (bs_ HB.out GE481.out) hb); clear HO_5; clear HO485; clear BK481; clear HB; have HO_5 := n0_; have HO485 := n1_; have HO488 := n2_; have BK481 := n3_; have HB := n4_; clear n0_ n1_ n2_ n3_ n4_; (try clear hb); (try clear hb2); (try clear hk); (try clear hi); (try clear ho0); obtain ⟨Ao15, co15, eo15⟩ := Kd.R_slice HO488.out; subst eo15) | ((with_reducible refine gate_builtin (b := .append) (xs := #[.tmp 21, .tmp 24]) rfl ?_); at_builtin; refine Kd.R_append_rows (Kd.int .i64) (w0 := w) w.heap.size rfl (.tmp 21) (.tmp 24) 29 3 (.int .i64 0) 8 rfl Try.underlying29 info3 rfl (by decide) (by omega) v484 y483 t486 _ _ _ (fun k_ => some k_ ≠ (u5 : Value).ownBlock ∧ some k_ ≠ (.slice Ao15 t486.length co15 : Value).ownBlock) (fun _ => False) rfl rfl ?aO ?aR (fun _ _ h => h) (fun _ h => h.elim) ?aF ?aB ?aS ?aL ?_; (case aR => exact cc_ (Kd.R_reads' HO488.out).2.2); (case aB => exact (bs_ HB.out GE481.out)); (case aF => exact (fun k_ hk => ⟨Kd.fresh' (Kd.R_lt (rr_ HO_5.out)) k_ hk, Kd.fresh' (Kd.R_lt (rr_ HO488.out)) k_ hk⟩)); (case aO => exact (by (with_reducible repeat (first | apply Kd.R_alloc | apply Kd.R_drewN | apply Kd.R_drew)); exact Kd.R_mono HO485.out (fun _ hk => ⟨hk.1.2, hk.2⟩))); (case aS => exact (below_size (bs_ HB.out GE481.out))); (case aL => have := LMc7.out; omega); intro v490 w14 ho hb hg hat; rw [← Ny489.out] at ho; have n0_ := Aside0.mk (Kd.R_after (ok := (fun k_ => some k_ ≠ (.slice Ao15 t486.length co15 : Value).ownBlock)) (by (with_reducible repeat (first | apply Kd.R_alloc | apply Kd.R_drewN | apply Kd.R_drew)); exact Kd.R_mono HO_5.out (fun _ hk => ⟨hk.2, hk.1.2⟩)) hg hat); have n1_ := Aside0.mk (blk_grown (g := gb481) (o := .cells #[.slice A0_0 l0_0.length c0_0, .slice A0_1 l0_1.length c0_1] 25 (0, 0)) (bk_ BK481.out) hg (Kd.R_ne HO485.out BK481.out (by decide))); have n2_ := Aside0.mk (Kd.R_after (ok := (fun k_ => some k_ ≠ (u5 : Value).ownBlock)) (by (with_reducible repeat (first | apply Kd.R_alloc | apply Kd.R_drewN | apply Kd.R_drew)); exact Kd.R_mono HO488.out (fun _ hk => ⟨hk.1.2, hk.2⟩)) hg hat); have n3_ := Aside0.mk (hb); have n4_ := Aside0.mk (ho); clear HO_5; clear BK481; clear HO488; clear HB; clear HO485; have HO_5 := n0_; have BK481 := n1_; have HO488 := n2_; have HB := n3_; have HO491 := n4_; clear n0_ n1_ n2_ n3_ n4_; clear ho hb hg hat; obtain ⟨Ao16, co16, eo16⟩ := Kd.R_slice HO491.out; subst eo16)))
     go_loopg [8, 9] k1 (fun kq v8 v9 w' => ∃ (x8_2 : Bool) (x9_2 : Int), v8 = .bool x8_2 ∧ v9 = .int .i64 x9_2 ∧ Aside0 (topiaryref15_Paths.l1 kq l1 x5_1 x6_1 y489 x8_2 x9_2 l0_0 l0_1 = some r) ∧ Aside0 (kq ≤ k1) ∧ Aside0 (Kd.R (Kd.int .i64) 3 w' w.heap.size (fun k_ => some k_ ≠ ((.slice Ao16 y489.length co16) : Value).ownBlock) u5 x5_1) ∧ Aside0 (Kd.R (Kd.int .i64) 3 w' w.heap.size (fun k_ => some k_ ≠ (u5 : Value).ownBlock) (.slice Ao16 y489.length co16) y489) ∧ Aside0 (w'.heap[gb481]? = some (.cells #[(.slice A0_0 l0_0.length c0_0), (.slice A0_1 l0_1.length c0_1)] 25 (0, 0))) ∧ Aside0 (Below w.heap.size w w'))
     case atStart => exact ⟨(decide ((l1.length : Int) ≤ (y489.length : Int))), (0), sm_, sm_, H', ⟨Nat.le_refl _⟩, ⟨by (with_reducible repeat (first | apply Kd.R_alloc | apply Kd.R_drewN | apply Kd.R_drew)); exact Kd.R_mono HO_5.out (fun _ hk => hk.2)⟩, ⟨by (with_reducible repeat (first | apply Kd.R_alloc | apply Kd.R_drewN | apply Kd.R_drew)); exact Kd.R_mono HO491.out (fun _ hk => hk.1)⟩, ⟨bk_ BK481.out⟩, ⟨bs_ HB.out GE481.out⟩⟩
     case round =>
      clear H'
      try clear c1
      try clear p2
      try clear c3
      try clear c4
      try clear c4b0
      try clear c7
      try clear hcz12_0
      try clear hcz12_1
      try clear hcz8_0
      try clear hcz8_1
      try clear hfz12_0
      try clear hfz12_1
      try clear hfz8_0
      try clear hfz8_1
      try clear p2
      obtain ⟨x8_2, x9_2, rfl, rfl, HA, HK2, HO_5, HO_7, BK481, HB⟩ := hrel
      cases gk with
      | zero => exact absurd HA.out (by simp [topiaryref15_Paths.l1])
      | succ k2 =>
       have H := HA.out
       clear HA
       simp only [topiaryref15_Paths.l1] at H
       by_cases c17 : x9_2 < (l1.length : Int)
       ·rw [if_pos c17] at H
        have c17b0 : decide (x9_2 < (l1.length : Int)) = true := decide_eq_true c17
        clear c17
        by_cases c18 : x8_2 = true
        ·subst c18
         rw [if_pos rfl] at H
         have H1 := H
         clear H
         have H := H1
         clear H1
         obtain ⟨ji19, hji19⟩ : ∃ j_ : Int, (wrap64 ((wrap64 ((l1.length : Int) - 1)) - x9_2)) = j_ := ⟨_, rfl⟩
         replace H : (if 0 ≤ (ji19) then (if (ji19) < (l1.length : Int) then (if 0 ≤ x9_2 then (if x9_2 < (y489.length : Int) then (topiaryref15_Paths.l1 k2 l1 x5_1 x6_1 y489 ((rd l1 (ji19)) == (rd y489 x9_2)) (wrap64 (x9_2 + 1)) l0_0 l0_1) else (none)) else (none)) else (none)) else (none)) = some r := by first | (rw [hji19] at H; exact H) | (simp only [hji19] at H ⊢; exact H)
         have hji19w : (IntKind.i64.wrap ((wrap64 ((l1.length : Int) - 1)) - x9_2)) = ji19 := (i64_w _).trans hji19
         by_cases c20 : 0 ≤ (ji19)
         ·rw [if_pos c20] at H
          have c20b0 : decide (0 ≤ (ji19)) = true := decide_eq_true c20
          clear c20
          by_cases c21 : (ji19) < (l1.length : Int)
          ·rw [if_pos c21] at H
           have c21b0 : decide ((ji19) < (l1.length : Int)) = true := decide_eq_true c21
           clear c21
           by_cases c22 : 0 ≤ x9_2
           ·rw [if_pos c22] at H
            have c22b0 : decide (0 ≤ x9_2) = true := decide_eq_true c22
            clear c22
            by_cases c23 : x9_2 < (y489.length : Int)
            ·rw [if_pos c23] at H
             have c23b0 : decide (x9_2 < (y489.length : Int)) = true := decide_eq_true c23
             clear c23
             have H' := Aside0.mk H
             clear H
             have p492 : 0 ≤ ((ji19) : Int) := of_decide_eq_true as_
             have q492 : (ji19) < (l1.length : Int) := of_decide_eq_true as_
             obtain ⟨ad492, e492, hx492_0⟩ := Kd.at_int HR1.out (ji19) p492 q492
             cases e492
             replace hx492_0 := (HB.out.cell (World.block_lt_of_cell? w _ hx492_0)).trans hx492_0
             replace p492 := eq_true p492
             replace q492 := eq_true q492
             have p493 : 0 ≤ (x9_2 : Int) := of_decide_eq_true as_
             have q493 : x9_2 < (y489.length : Int) := of_decide_eq_true as_
             obtain ⟨ad493, e493, hx493_0⟩ := Kd.at_int (Kd.R_reads' HO_7.out).2.2 x9_2 p493 q493
             cases e493
             replace p493 := eq_true p493
             replace q493 := eq_true q493
             go_wp2
             repeat (go_quiet (fail); try go_wp2)
             go_roundg k2
             case measure => have := HK1.out; have := HK2.out; omega
             case rel => exact ⟨(((rd l1 (ji19)) == (rd y489 x9_2))), (wrap64 (x9_2 + 1)), (by first | rfl | (simp; done) | (simp only [← hji19] <;> (first | rfl | simp)) | (simp [*]; done)), sm_, H', ⟨by have := HK1.out; have := HK2.out; omega⟩, ⟨rr_ HO_5.out⟩, ⟨rr_ HO_7.out⟩, ⟨bk_ BK481.out⟩, ⟨bs_ HB.out GE481.out⟩⟩
            ·rw [if_neg c23] at H
             exact absurd H (by simp)
           ·rw [if_neg c22] at H
            exact absurd H (by simp)
          ·rw [if_neg c21] at H
           exact absurd H (by simp)
         ·rw [if_neg c20] at H
          exact absurd H (by simp)
        ·replace c18 := Bool.eq_false_iff.mpr c18
         subst c18
         rw [if_neg (show ¬ (false = true) by decide)] at H
         have H1 := H
         clear H
         have H := H1
         clear H1
         have H' := Aside0.mk H
         clear H
         go_wp2
         repeat (go_quiet (fail); try go_wp2)
         go_roundg k2
         case measure => have := HK1.out; have := HK2.out; omega
         case rel => exact ⟨(x5_1), (wrap64 (x6_1 + 1)), sm_, H', ⟨by have := HK1.out; have := HK2.out; omega⟩, ⟨by (with_reducible repeat (first | apply Kd.R_alloc | apply Kd.R_drewN | apply Kd.R_drew)); exact Kd.R_mono HO_5.out (fun _ hk => trivial)⟩, ⟨bk_ BK481.out⟩, ⟨bs_ HB.out GE481.out⟩⟩
       ·rw [if_neg c17] at H
        have c17b0 : decide (x9_2 < (l1.length : Int)) = false := decide_eq_false c17
        clear c17
        by_cases c24 : x8_2 = true
        ·subst c24
         rw [if_pos rfl] at H
         have H1 := H
         clear H
         have H := H1
         clear H1
         by_cases c25 : x5_1.length < 17592186044416
         ·rw [if_pos c25] at H
          have LMc25 := Aside0.mk c25
          clear c25
          obtain ⟨y494, hy494⟩ : ∃ y_ : List Int, y_ = (x5_1 ++ [x6_1]) := ⟨_, rfl⟩
          replace H : (topiaryref15_Paths.l0 k2 l1 y494 (wrap64 (x6_1 + 1)) l0_0 l0_1) = some r := by first | (rw [hy494]; with_reducible exact H) | (have H2_ := (Option.bind_some _ _).symm.trans H; rw [hy494]; with_reducible exact H2_) | (have H2_ := (Option.bind_some _ _).symm.trans H; with_reducible exact H2_) | with_reducible exact H | (rw [hy494]; exact H) | exact H
          have Ny494 := Aside0.mk hy494
          clear hy494
          have H' := Aside0.mk H
          clear H
          go_wp2_with (first | ((with_reducible refine gate_builtin (b := .append) (xs := #[.tmp 54, .tmp 56]) rfl ?_); at_builtin; refine Kd.R_append (Kd.int .i64) (w0 := w) w.heap.size rfl (.tmp 54) (.tmp 56) 29 3 (.int .i64 0) 8 rfl Try.underlying29 info3 rfl (by decide) (by omega) u5 x5_1 x6_1 [.int .i64 x6_1] (fun k_ => some k_ ≠ (.slice Ao16 y489.length co16 : Value).ownBlock) (fun _ => False) rfl rfl ?aP (fun _ hk => hk.elim) ?aF ?aO ?aB ?aS ?aL ?_; (case aP => exact rfl); (case aB => exact (bs_ HB.out GE481.out)); (case aF => exact (fun k_ hk => Kd.fresh' (Kd.R_lt (rr_ HO_7.out)) k_ hk)); (case aO => exact (rr_ HO_5.out)); (case aS => exact (below_size (bs_ HB.out GE481.out))); (case aL => have := LMc25.out; omega); intro v495 w26 ho hb hg hat; rw [← Ny494.out] at ho; have n0_ := Aside0.mk (Kd.R_after (ok := (fun _ => True)) (by (with_reducible repeat (first | apply Kd.R_alloc | apply Kd.R_drewN | apply Kd.R_drew)); exact Kd.R_mono HO_7.out (fun _ hk => ⟨trivial, hk⟩)) hg hat); have n1_ := Aside0.mk (blk_grown (g := gb481) (o := .cells #[.slice A0_0 l0_0.length c0_0, .slice A0_1 l0_1.length c0_1] 25 (0, 0)) (bk_ BK481.out) hg (Kd.R_ne HO_5.out BK481.out (by decide))); have n2_ := Aside0.mk (hb); have n3_ := Aside0.mk (ho); clear HO_7; clear BK481; clear HB; clear HO_5; have HO_7 := n0_; have BK481 := n1_; have HB := n2_; have HO496 := n3_; clear n0_ n1_ n2_ n3_; clear ho hb hg hat))
          repeat (go_quiet (first | ((with_reducible refine gate_builtin (b := .append) (xs := #[.tmp 54, .tmp 56]) rfl ?_); at_builtin; refine Kd.R_append (Kd.int .i64) (w0 := w) w.heap.size rfl (.tmp 54) (.tmp 56) 29 3 (.int .i64 0) 8 rfl Try.underlying29 info3 rfl (by decide) (by omega) u5 x5_1 x6_1 [.int .i64 x6_1] (fun k_ => some k_ ≠ (.slice Ao16 y489.length co16 : Value).ownBlock) (fun _ => False) rfl rfl ?aP (fun _ hk => hk.elim) ?aF ?aO ?aB ?aS ?aL ?_; (case aP => exact rfl); (case aB => exact (bs_ HB.out GE481.out)); (case aF => exact (fun k_ hk => Kd.fresh' (Kd.R_lt (rr_ HO_7.out)) k_ hk)); (case aO => exact (rr_ HO_5.out)); (case aS => exact (below_size (bs_ HB.out GE481.out))); (case aL => have := LMc25.out; omega); intro v495 w26 ho hb hg hat; rw [← Ny494.out] at ho; have n0_ := Aside0.mk (Kd.R_after (ok := (fun _ => True)) (by (with_reducible repeat (first | apply Kd.R_alloc | apply Kd.R_drewN | apply Kd.R_drew)); exact Kd.R_mono HO_7.out (fun _ hk => ⟨trivial, hk⟩)) hg hat); have n1_ := Aside0.mk (blk_grown (g := gb481) (o := .cells #[.slice A0_0 l0_0.length c0_0, .slice A0_1 l0_1.length c0_1] 25 (0, 0)) (bk_ BK481.out) hg (Kd.R_ne HO_5.out BK481.out (by decide))); have n2_ := Aside0.mk (hb); have n3_ := Aside0.mk (ho); clear HO_7; clear BK481; clear HB; clear HO_5; have HO_7 := n0_; have BK481 := n1_; have HB := n2_; have HO496 := n3_; clear n0_ n1_ n2_ n3_; clear ho hb hg hat)); try go_wp2_with (first | ((with_reducible refine gate_builtin (b := .append) (xs := #[.tmp 54, .tmp 56]) rfl ?_); at_builtin; refine Kd.R_append (Kd.int .i64) (w0 := w) w.heap.size rfl (.tmp 54) (.tmp 56) 29 3 (.int .i64 0) 8 rfl Try.underlying29 info3 rfl (by decide) (by omega) u5 x5_1 x6_1 [.int .i64 x6_1] (fun k_ => some k_ ≠ (.slice Ao16 y489.length co16 : Value).ownBlock) (fun _ => False) rfl rfl ?aP (fun _ hk => hk.elim) ?aF ?aO ?aB ?aS ?aL ?_; (case aP => exact rfl); (case aB => exact (bs_ HB.out GE481.out)); (case aF => exact (fun k_ hk => Kd.fresh' (Kd.R_lt (rr_ HO_7.out)) k_ hk)); (case aO => exact (rr_ HO_5.out)); (case aS => exact (below_size (bs_ HB.out GE481.out))); (case aL => have := LMc25.out; omega); intro v495 w26 ho hb hg hat; rw [← Ny494.out] at ho; have n0_ := Aside0.mk (Kd.R_after (ok := (fun _ => True)) (by (with_reducible repeat (first | apply Kd.R_alloc | apply Kd.R_drewN | apply Kd.R_drew)); exact Kd.R_mono HO_7.out (fun _ hk => ⟨trivial, hk⟩)) hg hat); have n1_ := Aside0.mk (blk_grown (g := gb481) (o := .cells #[.slice A0_0 l0_0.length c0_0, .slice A0_1 l0_1.length c0_1] 25 (0, 0)) (bk_ BK481.out) hg (Kd.R_ne HO_5.out BK481.out (by decide))); have n2_ := Aside0.mk (hb); have n3_ := Aside0.mk (ho); clear HO_7; clear BK481; clear HB; clear HO_5; have HO_7 := n0_; have BK481 := n1_; have HB := n2_; have HO496 := n3_; clear n0_ n1_ n2_ n3_; clear ho hb hg hat)))
          go_roundg k2
          case measure => have := HK1.out; have := HK2.out; omega
          case rel => exact ⟨(y494), (wrap64 (x6_1 + 1)), sm_, H', ⟨by have := HK1.out; have := HK2.out; omega⟩, ⟨by (with_reducible repeat (first | apply Kd.R_alloc | apply Kd.R_drewN | apply Kd.R_drew)); exact Kd.R_mono HO496.out (fun _ hk => trivial)⟩, ⟨bk_ BK481.out⟩, ⟨bs_ HB.out GE481.out⟩⟩
         ·rw [if_neg c25] at H
          exact absurd H (by simp)
        ·replace c24 := Bool.eq_false_iff.mpr c24
         subst c24
         rw [if_neg (show ¬ (false = true) by decide)] at H
         have H1 := H
         clear H
         have H := H1
         clear H1
         have H' := Aside0.mk H
         clear H
         go_wp2
         repeat (go_quiet (fail); try go_wp2)
         go_roundg k2
         case measure => have := HK1.out; have := HK2.out; omega
         case rel => exact ⟨(x5_1), (wrap64 (x6_1 + 1)), sm_, H', ⟨by have := HK1.out; have := HK2.out; omega⟩, ⟨by (with_reducible repeat (first | apply Kd.R_alloc | apply Kd.R_drewN | apply Kd.R_drew)); exact Kd.R_mono HO_5.out (fun _ hk => trivial)⟩, ⟨bk_ BK481.out⟩, ⟨bs_ HB.out GE481.out⟩⟩
    ·rw [if_neg c7] at H
     exact absurd H (by simp)
   ·rw [if_neg c4] at H
    have c4b0 : decide (x6_1 < (l0_1.length : Int)) = false := decide_eq_false c4
    clear c4
    obtain rfl := Option.some.inj H
    have hcz27_0 : wr.cell? ⟨gb481, 0, none⟩ = some (.slice A0_0 l0_0.length c0_0) := (blk_cell BK481.out 0).trans rfl
    have hcz27_1 : wr.cell? ⟨gb481, 1, none⟩ = some (.slice A0_1 l0_1.length c0_1) := (blk_cell BK481.out 1).trans rfl
    have hfz27_0 := blk_frozen BK481.out 0
    have hfz27_1 := blk_frozen BK481.out 1
    go_wp2
    repeat (go_quiet (fail); try go_wp2)
    go_ret
    exact ⟨_, by first | rfl | (simp [errW_none, errW_some] <;> rfl) | (simp [*, errW_none, errW_some] <;> rfl), rr_ HO_5.out, bs_ HB.out GE481.out⟩
-- NOT PRINTED: function 6 (topiarylaw15_TreePaths)
end Go.Proofs.Ytoanmoddppmffaa.T
