/- What each function of the program comes to, and its walk: laid by a program. -/
import Derived.Test.YtoanmoddppmffaaJTx0
import Derived.Test.YtoanmoddppmffaaJTx2
import Derived.Test.YtoanmoddppmffaaJTx3
namespace Go.Proofs.Ytoanmoddppmffaa.T
open Go.RowKit Go.Proofs.YtoanmoddppmffaaW.PrintWords Go.Proofs.YtoanmoddppmffaaW.PrintLast Go.Proofs.YtoanmoddppmffaaW.PrintMore
set_option linter.unusedVariables false
set_option linter.unusedSimpArgs false
mutual
def tree_Paths.l0 : Nat → List Int → List Int → Int → Int → List ByteArray → List (S52) → Option (List Int)
 | 0, _, _, _, _, _, _ => none
 | k + 1, x1, x5, x12, x13, x458000, x458001 => if x13 < x12 then (if (x1.length : Int) > 0 then ((tree_Symbol.f k x458000 x458001 x13).bind fun t458 => (if 0 ≤ (wrap64 ((x1.length : Int) - 1)) then (if (wrap64 ((x1.length : Int) - 1)) < (x1.length : Int) then (if t458 = (rd x1 (wrap64 ((x1.length : Int) - 1))) then (if (wrap64 ((x1.length : Int) - 1)) ≤ (x1.length : Int) then (tree_Paths.j1 k x1 x5 x13 (x1.take ((wrap64 ((x1.length : Int) - 1)) : Int).toNat) x12 x13 x458000 x458001) else (none)) else (tree_Paths.l0 k x1 x5 x12 (wrap64 (x13 + 1)) x458000 x458001)) else (none)) else (none))) else (tree_Paths.j1 k x1 x5 x13 x1 x12 x13 x458000 x458001)) else (some x5)
def tree_Paths.j1 : Nat → List Int → List Int → Int → List Int → Int → Int → List ByteArray → List (S52) → Option (List Int)
 | 0, _, _, _, _, _, _, _, _ => none
 | k + 1, x1, x5, x6, x7, x12, x13, x458000, x458001 => (tree_Up.f x458000 x458001 x6).bind fun t465 => (tree_Paths.l1 k x1 x5 x6 x7 x12 x13 t465 (t465.length : Int) 0 x458000 x458001)
def tree_Paths.l1 : Nat → List Int → List Int → Int → List Int → Int → Int → List Int → Int → Int → List ByteArray → List (S52) → Option (List Int)
 | 0, _, _, _, _, _, _, _, _, _, _, _ => none
 | k + 1, x1, x5, x6, x7, x12, x13, x37, x38, x39, x458000, x458001 => if x39 < x38 then (if 0 ≤ x39 then (if x39 < (x37.length : Int) then (if (x7.length : Int) = 0 then (if x5.length < 17592186044416 then (tree_Paths.l0 k x1 (x5 ++ [x6]) x12 (wrap64 (x13 + 1)) x458000 x458001) else (none)) else (if 0 ≤ (wrap64 ((x7.length : Int) - 1)) then (if (wrap64 ((x7.length : Int) - 1)) < (x7.length : Int) then (if (rd x7 (wrap64 ((x7.length : Int) - 1))) = (rd x37 x39) then (if (wrap64 ((x7.length : Int) - 1)) ≤ (x7.length : Int) then (tree_Paths.l1 k x1 x5 x6 (x7.take ((wrap64 ((x7.length : Int) - 1)) : Int).toNat) x12 x13 x37 x38 (wrap64 (x39 + 1)) x458000 x458001) else (none)) else (tree_Paths.l0 k x1 x5 x12 (wrap64 (x13 + 1)) x458000 x458001)) else (none)) else (none))) else (none)) else (none)) else (if (x7.length : Int) = 0 then (if x5.length < 17592186044416 then (tree_Paths.l0 k x1 (x5 ++ [x6]) x12 (wrap64 (x13 + 1)) x458000 x458001) else (none)) else (tree_Paths.l0 k x1 x5 x12 (wrap64 (x13 + 1)) x458000 x458001))
end
def tree_Paths.f (k : Nat) (l0_0 : List ByteArray) (l0_1 : List (S52)) (l1 : List Int) : Option (List Int) := tree_Paths.l0 k l1 ([] : List Int) (l0_1.length : Int) 0 l0_0 l0_1
def tree_Paths.T7 : Bool × List (List Nat × List Nat) := (true, [([], []), ([], []), ([0, 1], [0, 1]), ([], []), ([], []), ([4], [4]), ([5], [5]), ([3, 6], [3, 6]), ([7], [7]), ([2, 8], [2, 8])])
def tree_Paths.B7 : List Nat := [0, 0, 3, 0, 0, 16, 48, 120, 248, 511]
theorem tree_Paths.tab7 : rtab .any (opsOf Try.f30 7) = tree_Paths.T7 := by kernel_rfl
theorem tree_Paths.bits7 : waitsOk tree_Paths.T7.2 tree_Paths.B7 = true := by kernel_rfl
set_option maxHeartbeats 8000000 in
set_option maxRecDepth 100000 in
theorem tree_Paths.calls (k : Nat) (A0_0 : Option Addr) (c0_0 : Nat) (l0_0 : List ByteArray) (A0_1 : Option Addr) (c0_1 : Nat) (l0_1 : List (S52)) (P1_ : Nat → Prop) (A1 : Option Addr) (c1 : Nat) (l1 : List Int) (r : List Int) (w : World) (hr0_0 : Kd.C Kd.string w A0_0 l0_0.length l0_0) (hc0_0 : l0_0.length ≤ c0_0) (hr0_1 : Kd.C k52 w A0_1 l0_1.length l0_1) (hc0_1 : l0_1.length ≤ c0_1) (hs1 : Kd.V (Kd.int .i64) 3 w w.heap.size (fun k_ => P1_ k_) (.slice A1 l1.length c1) l1) (h : tree_Paths.f k l0_0 l0_1 l1 = some r) :
  Calls Try.prog 30 #[.agg #[.slice A0_0 l0_0.length c0_0, .slice A0_1 l0_1.length c0_1], .slice A1 l1.length c1] w fun e w' => ∃ v0_ : Value, e = .returned (v0_) ∧ Kd.R (Kd.int .i64) 3 w' w.heap.size (fun k_ => (w.heap.size ≤ k_)) v0_ r ∧ Below w.heap.size w w' := by
 have hu25 := Try.underlying25
 have HR0_0 := Aside0.mk hr0_0
 have HC0_0 := Aside0.mk hc0_0
 clear hr0_0 hc0_0
 have HR0_1 := Aside0.mk hr0_1
 have HC0_1 := Aside0.mk hc0_1
 clear hr0_1 hc0_1
 have HO1 := Aside0.mk (show Kd.V (Kd.int .i64) 3 w w.heap.size (fun k_ => (P1_ k_ ∨ w.heap.size ≤ k_)) (.slice A1 l1.length c1) l1 from Kd.V_mono hs1 (fun k_ hk => .inl hk))
 have HB := Aside0.mk (Below.refl w.heap.size w)
 have H : (tree_Paths.l0 k l1 ([] : List Int) (l0_1.length : Int) 0 l0_0 l0_1) = some r := h
 clear h
 have H' := Aside0.mk H
 clear H
 go_enter Try.func30, Try.ntmps30
 go_wp2_with (first | ((with_reducible refine gate_dst (N := 2) rfl ?_); refine box_event ?hg (N := 2) ?hd (cs := #[.slice A0_0 l0_0.length c0_0, .slice A0_1 l0_1.length c0_1]) (t := 25) ?hr ?_; (case hd => rfl); (case hg => rfl); (case hr => first | (go_simp; done) | (go_simp; rfl)); intro gb457 hg w3 hbox hb; have n0_ := Aside0.mk (Kd.V_below (Kd.V_elderB (vv_ HO1.out) gb457 (Nat.le_of_eq hg.symm)) hb); have n1_ := Aside0.mk (below_step (bb_ HB.out) hb); have n2_ := Aside0.mk (hbox); have n3_ := Aside0.mk ((by rw [hg]; exact (below_size (bb_ HB.out)) : w.heap.size ≤ gb457)); have n4_ := Aside0.mk ((by rw [hg]; exact (below_size (bb_ HB.out)) : w.heap.size ≤ gb457)); clear HO1; clear HB; have HO1 := n0_; have HB := n1_; have BK457 := n2_; have GW457 := n3_; have GE457 := n4_; clear n0_ n1_ n2_ n3_ n4_; clear hb hbox hg; have hcz4_0 : w3.cell? ⟨gb457, 0, none⟩ = some (.slice A0_0 l0_0.length c0_0) := (blk_cell BK457.out 0).trans rfl; have hcz4_1 : w3.cell? ⟨gb457, 1, none⟩ = some (.slice A0_1 l0_1.length c0_1) := (blk_cell BK457.out 1).trans rfl; have hfz4_0 := blk_frozen BK457.out 0; have hfz4_1 := blk_frozen BK457.out 1))
 go_step3
 go_wp2_with (first | ((with_reducible refine gate_dst (N := 2) rfl ?_); refine box_event ?hg (N := 2) ?hd (cs := #[.slice A0_0 l0_0.length c0_0, .slice A0_1 l0_1.length c0_1]) (t := 25) ?hr ?_; (case hd => rfl); (case hg => rfl); (case hr => first | (go_simp; done) | (go_simp; rfl)); intro gb457 hg w3 hbox hb; have n0_ := Aside0.mk (Kd.V_below (Kd.V_elderB (vv_ HO1.out) gb457 (Nat.le_of_eq hg.symm)) hb); have n1_ := Aside0.mk (below_step (bb_ HB.out) hb); have n2_ := Aside0.mk (hbox); have n3_ := Aside0.mk ((by rw [hg]; exact (below_size (bb_ HB.out)) : w.heap.size ≤ gb457)); have n4_ := Aside0.mk ((by rw [hg]; exact (below_size (bb_ HB.out)) : w.heap.size ≤ gb457)); clear HO1; clear HB; have HO1 := n0_; have HB := n1_; have BK457 := n2_; have GW457 := n3_; have GE457 := n4_; clear n0_ n1_ n2_ n3_ n4_; clear hb hbox hg; have hcz4_0 : w3.cell? ⟨gb457, 0, none⟩ = some (.slice A0_0 l0_0.length c0_0) := (blk_cell BK457.out 0).trans rfl; have hcz4_1 : w3.cell? ⟨gb457, 1, none⟩ = some (.slice A0_1 l0_1.length c0_1) := (blk_cell BK457.out 1).trans rfl; have hfz4_0 := blk_frozen BK457.out 0; have hfz4_1 := blk_frozen BK457.out 1))
 go_step3
 go_wp2_with (first | ((with_reducible refine gate_dst (N := 2) rfl ?_); refine box_event ?hg (N := 2) ?hd (cs := #[.slice A0_0 l0_0.length c0_0, .slice A0_1 l0_1.length c0_1]) (t := 25) ?hr ?_; (case hd => rfl); (case hg => rfl); (case hr => first | (go_simp; done) | (go_simp; rfl)); intro gb457 hg w3 hbox hb; have n0_ := Aside0.mk (Kd.V_below (Kd.V_elderB (vv_ HO1.out) gb457 (Nat.le_of_eq hg.symm)) hb); have n1_ := Aside0.mk (below_step (bb_ HB.out) hb); have n2_ := Aside0.mk (hbox); have n3_ := Aside0.mk ((by rw [hg]; exact (below_size (bb_ HB.out)) : w.heap.size ≤ gb457)); have n4_ := Aside0.mk ((by rw [hg]; exact (below_size (bb_ HB.out)) : w.heap.size ≤ gb457)); clear HO1; clear HB; have HO1 := n0_; have HB := n1_; have BK457 := n2_; have GW457 := n3_; have GE457 := n4_; clear n0_ n1_ n2_ n3_ n4_; clear hb hbox hg; have hcz4_0 : w3.cell? ⟨gb457, 0, none⟩ = some (.slice A0_0 l0_0.length c0_0) := (blk_cell BK457.out 0).trans rfl; have hcz4_1 : w3.cell? ⟨gb457, 1, none⟩ = some (.slice A0_1 l0_1.length c0_1) := (blk_cell BK457.out 1).trans rfl; have hfz4_0 := blk_frozen BK457.out 0; have hfz4_1 := blk_frozen BK457.out 1))
 go_loopg [5, 13] k (fun kq v5 v13 w' => ∃ (x5_1 : List Int) (x13_1 : Int), v13 = .int .i64 x13_1 ∧ Aside0 (tree_Paths.l0 kq l1 x5_1 (l0_1.length : Int) x13_1 l0_0 l0_1 = some r) ∧ Aside0 (kq ≤ k) ∧ Aside0 (Kd.V (Kd.int .i64) 3 w' w.heap.size (fun k_ => (P1_ k_ ∨ w.heap.size ≤ k_) ∧ some k_ ≠ (v5 : Value).ownBlock ∧ k_ ≠ gb457) (.slice A1 l1.length c1) l1) ∧ Aside0 (Kd.R (Kd.int .i64) 3 w' w.heap.size (fun k_ => (w.heap.size ≤ k_)) v5 x5_1) ∧ Aside0 (w'.heap[gb457]? = some (.cells #[(.slice A0_0 l0_0.length c0_0), (.slice A0_1 l0_1.length c0_1)] 25 (0, 0))) ∧ Aside0 (Below w.heap.size w w'))
 case atStart => exact ⟨(([] : List Int)), (0), sm_, H', ⟨Nat.le_refl _⟩, ⟨by (with_reducible repeat (first | apply Kd.V_alloc | apply Kd.V_drewN | apply Kd.V_drew)); exact Kd.V_mono HO1.out (fun _ hk => ⟨hk.1, ⟨(by simp [Value.ownBlock]), hk.2⟩⟩)⟩, ⟨by first | exact Kd.R_nil _ _ _ _ _ | exact Kd.N_nil _ _ _ _ _ | exact Kd.V_nil _ _ _ _ _ | exact Kd.Q_nil _ _ _ _ _ | exact Kd.S_nil _ _ _ _ _⟩, ⟨bk_ BK457.out⟩, ⟨bs_ HB.out GE457.out⟩⟩
 case round =>
  clear H'
  try clear c1
  try clear p2
  try clear c3
  try clear hcz4_0
  try clear hcz4_1
  try clear hfz4_0
  try clear hfz4_1
  obtain ⟨x5_1, x13_1, rfl, HA, HK1, HO_1, HO_5, BK457, HB⟩ := hrel
  cases gk with
  | zero => exact absurd HA.out (by simp [tree_Paths.l0])
  | succ k1 =>
   have H := HA.out
   clear HA
   simp only [tree_Paths.l0] at H
   by_cases c5 : x13_1 < (l0_1.length : Int)
   ·rw [if_pos c5] at H
    have c5b0 : decide (x13_1 < (l0_1.length : Int)) = true := decide_eq_true c5
    clear c5
    have HC6 := Aside0.mk H
    clear H
    go_upto_if 19 with (fail)
    go_cut [7] (fun v7 wc => ∃ (kq : Nat) (x7_5 : List Int), Aside0 (tree_Paths.j1 kq l1 x5_1 x13_1 x7_5 (l0_1.length : Int) x13_1 l0_0 l0_1 = some r) ∧ Aside0 (kq ≤ k1) ∧ Aside0 (Kd.V (Kd.int .i64) 3 wc w.heap.size (fun k_ => (P1_ k_ ∨ w.heap.size ≤ k_) ∧ some k_ ≠ (u5 : Value).ownBlock ∧ k_ ≠ gb457) (.slice A1 l1.length c1) l1) ∧ Aside0 (Kd.R (Kd.int .i64) 3 wc w.heap.size (fun k_ => (w.heap.size ≤ k_)) u5 x5_1) ∧ Aside0 (Kd.V (Kd.int .i64) 3 wc w.heap.size (fun k_ => (P1_ k_ ∨ w.heap.size ≤ k_) ∧ some k_ ≠ (u5 : Value).ownBlock ∧ k_ ≠ gb457) v7 x7_5) ∧ Aside0 (wc.heap[gb457]? = some (.cells #[(.slice A0_0 l0_0.length c0_0), (.slice A0_1 l0_1.length c0_1)] 25 (0, 0))) ∧ Aside0 (Below w.heap.size w wc))
    case first =>
     have H := HC6.out
     clear HC6
     by_cases c7 : (l1.length : Int) > 0
     ·rw [if_pos c7] at H
      have c7b0 : decide (0 < (l1.length : Int)) = true := decide_eq_true c7
      have c7b1 : decide (0 < l1.length) = true := decide_eq_true (by omega)
      clear c7
      (first | rw [c7b0] | (simp only [i64_w, i32_w]; rw [c7b0]) | skip)
      (try rw [c7b1])
      replace H := Option.bind_eq_some_iff.mp H
      obtain ⟨t458, A80, H⟩ := H
      try dsimp only at H
      have A8 := Aside0.mk A80
      clear A80
      obtain ⟨ji9, hji9⟩ : ∃ j_ : Int, (wrap64 ((l1.length : Int) - 1)) = j_ := ⟨_, rfl⟩
      replace H : (if 0 ≤ (ji9) then (if (ji9) < (l1.length : Int) then (if t458 = (rd l1 (ji9)) then (if (ji9) ≤ (l1.length : Int) then (tree_Paths.j1 k1 l1 x5_1 x13_1 (l1.take ((ji9) : Int).toNat) (l0_1.length : Int) x13_1 l0_0 l0_1) else (none)) else (tree_Paths.l0 k1 l1 x5_1 (l0_1.length : Int) (wrap64 (x13_1 + 1)) l0_0 l0_1)) else (none)) else (none)) = some r := by first | (rw [hji9] at H; exact H) | (simp only [hji9] at H ⊢; exact H)
      (try rw [hji9] at A8)
      have hji9w : (IntKind.i64.wrap ((l1.length : Int) - 1)) = ji9 := (i64_w _).trans hji9
      by_cases c10 : 0 ≤ (ji9)
      ·rw [if_pos c10] at H
       have c10b0 : decide (0 ≤ (ji9)) = true := decide_eq_true c10
       clear c10
       by_cases c11 : (ji9) < (l1.length : Int)
       ·rw [if_pos c11] at H
        have c11b0 : decide ((ji9) < (l1.length : Int)) = true := decide_eq_true c11
        clear c11
        by_cases c12 : t458 = (rd l1 (ji9))
        ·rw [if_pos c12] at H
         have c12b0 : (t458 == (rd l1 (ji9))) = true := beq_iff_eq.mpr c12
         have c12b1 : (t458 != (rd l1 (ji9))) = false := bne_eq_false_iff_eq.mpr c12
         clear c12
         have c13b0 := eq_true (of_decide_eq_true as_ : 0 ≤ (ji9))
         by_cases c14 : (ji9) ≤ (l1.length : Int)
         ·rw [if_pos c14] at H
          have c14b0 := eq_true c14
          have c14b1 : decide ((ji9) ≤ (l1.length : Int)) = true := decide_eq_true c14
          clear c14
          obtain ⟨y460, hy460⟩ : ∃ y_ : List Int, y_ = (l1.take ((ji9) : Int).toNat) := ⟨_, rfl⟩
          replace H : (tree_Paths.j1 k1 l1 x5_1 x13_1 y460 (l0_1.length : Int) x13_1 l0_0 l0_1) = some r := by first | (rw [hy460]; with_reducible exact H) | (have H2_ := (Option.bind_some _ _).symm.trans H; rw [hy460]; with_reducible exact H2_) | (have H2_ := (Option.bind_some _ _).symm.trans H; with_reducible exact H2_) | with_reducible exact H | (rw [hy460]; exact H) | exact H
          have Ny460 := Aside0.mk hy460
          clear hy460
          have H' := Aside0.mk H
          clear H
          try go_wp2
          have n0_ := Aside0.mk (Kd.V_drew HO_1.out)
          have n1_ := Aside0.mk (Kd.R_drew HO_5.out)
          have n2_ := Aside0.mk (blk_drew BK457.out)
          have n3_ := Aside0.mk (below_drew1 HB.out)
          clear HO_1
          clear HO_5
          clear BK457
          clear HB
          have HO_1 := n0_
          have HO_5 := n1_
          have BK457 := n2_
          have HB := n3_
          clear n0_ n1_ n2_ n3_
          have p459 : 0 ≤ ((ji9) : Int) := of_decide_eq_true as_
          have q459 : (ji9) < (l1.length : Int) := of_decide_eq_true as_
          obtain ⟨ad459, e459, hx459_0⟩ := Kd.at_int (Kd.V_reads' HO_1.out).2.2 (ji9) p459 q459
          cases e459
          replace p459 := eq_true p459
          replace q459 := eq_true q459
          refine start_ (n := 10) (S := fun w' => w'.cell? ⟨gb457, 0, none⟩ = some (.slice A0_0 l0_0.length c0_0) ∧ w'.cell? ⟨gb457, 1, none⟩ = some (.slice A0_1 l0_1.length c0_1) ∧ w'.cell? (ad459.add ((ji9)).toNat) = some (.int .i64 (rd l1 (ji9)))) (ds := []) #[false, false, false, false, false, false, false, false, false, false] (by kernel_rfl) rfl rfl ⟨(blk_cell BK457.out 0).trans rfl, (blk_cell BK457.out 1).trans rfl, hx459_0⟩ (fun hHeld => ?_); refine with_tabW tree_Paths.tab7 tree_Paths.bits7 (fun HT_ HW_ => ?_)
          generalize wr.drew = w15 at HO_1 HO_5 BK457 HB hx459_0 hHeld ⊢
          refine pure_ (i := 1) (N := some 21) (v := ?_) (a' := ?_) #[false, true, false, false, false, false, false, false, false, false] rfl rfl (any_of HT_.out (by kernel_rfl)) (fun _ _ _ h => h) (Or.inl ⟨by rfl, ?_⟩) ?_ ?_
          rotate_left
          ·intro w'
           go_simp
           with_reducible rfl
          rotate_left
          ·simp only [Act.put, List.setIfInBounds_toArray, List.set_cons_zero, List.set_cons_succ, i64_w, i32_w]
           rfl
          refine pure_ (i := 3) (N := some 23) (v := ?_) (a' := ?_) #[false, true, false, true, false, false, false, false, false, false] rfl rfl (any_of HT_.out (by kernel_rfl)) (fun _ _ _ h => h) (Or.inl ⟨by rfl, ?_⟩) ?_ ?_
          rotate_left
          ·intro w'
           go_simp
           with_reducible rfl
          rotate_left
          ·simp only [Act.put, List.setIfInBounds_toArray, List.set_cons_zero, List.set_cons_succ, i64_w, i32_w]
           rfl
          refine pure_ (i := 4) (N := some 24) (v := ?_) (a' := ?_) #[false, true, false, true, true, false, false, false, false, false] rfl rfl (any_of HT_.out (by kernel_rfl)) (fun _ _ _ h => h) (Or.inl ⟨by rfl, ?_⟩) ?_ ?_
          rotate_left
          ·intro w'
           go_simp
           with_reducible rfl
          rotate_left
          ·simp only [Act.put, List.setIfInBounds_toArray, List.set_cons_zero, List.set_cons_succ, i64_w, i32_w]
           rfl
          refine pure_ (i := 5) (N := some 25) (v := ?_) (a' := ?_) #[false, true, false, true, true, true, false, false, false, false] rfl rfl (any_of HT_.out (by kernel_rfl)) (fun _ _ _ h => h) (Or.inl ⟨by rfl, ?_⟩) ?_ ?_
          rotate_left
          ·intro w'
           go_simp
           with_reducible rfl
          rotate_left
          ·simp only [Act.put, List.setIfInBounds_toArray, List.set_cons_zero, List.set_cons_succ, i64_w, i32_w]
           rfl
          refine pure_ (i := 6) (N := some 26) (v := ?_) (a' := ?_) #[false, true, false, true, true, true, true, false, false, false] rfl rfl (any_of HT_.out (by kernel_rfl)) (fun _ _ _ h => h) (Or.inl ⟨by rfl, ?_⟩) ?_ ?_
          rotate_left
          ·intro w'
           go_simp
           with_reducible rfl
          rotate_left
          ·simp only [Act.put, List.setIfInBounds_toArray, List.set_cons_zero, List.set_cons_succ, i64_w, i32_w]
           rfl
          refine pure_ (i := 7) (N := some 27) (v := ?_) (a' := ?_) #[false, true, false, true, true, true, true, true, false, false] rfl rfl (any_of HT_.out (by kernel_rfl)) (fun _ _ _ h => h) (Or.inl ⟨by rfl, ?_⟩) ?_ ?_
          rotate_left
          ·intro w'
           go_simp
           with_reducible rfl
          rotate_left
          ·simp only [Act.put, List.setIfInBounds_toArray, List.set_cons_zero, List.set_cons_succ, i64_w, i32_w]
           rfl
          refine take_ (i := 0) (N := some 20) (v := ?_) (a' := ?_) #[true, true, false, true, true, true, true, true, false, false] rfl rfl (take_ofW HT_.out HW_.out (by kernel_rfl)) (fun _ _ _ h => h) (Or.inl ⟨by rfl, ?_⟩) hHeld ?_ ?_
          rotate_left
          ·rintro w' ⟨s0, s1, s2⟩
           go_simp
           with_reducible rfl
          rotate_left
          ·simp only [Act.put, List.setIfInBounds_toArray, List.set_cons_zero, List.set_cons_succ, i64_w, i32_w]
           rfl
          refine take_ (i := 8) (N := some 28) (v := ?_) (a' := ?_) #[true, true, false, true, true, true, true, true, true, false] rfl rfl (take_ofW HT_.out HW_.out (by kernel_rfl)) (fun _ _ _ h => h) (Or.inl ⟨by rfl, ?_⟩) hHeld ?_ ?_
          rotate_left
          ·rintro w' ⟨s0, s1, s2⟩
           go_simp
           with_reducible rfl
          rotate_left
          ·simp only [Act.put, List.setIfInBounds_toArray, List.set_cons_zero, List.set_cons_succ, i64_w, i32_w]
           rfl
          refine one_ (i := 2) (N := some 22) #[true, true, true, true, true, true, true, true, true, false] rfl rfl (one_of HT_.out (by kernel_rfl)) (by decide) (fun K hK => ?_)
          refine goes_ Try.func16 (by kernel_rfl) rfl #[.agg #[.slice A0_0 l0_0.length c0_0, .slice A0_1 l0_1.length c0_1], .int .i64 x13_1] (by rfl) rfl rfl ar_ ?_
          with_reducible refine (tree_Symbol.calls k1 _ _ l0_0 _ _ l0_1 x13_1 t458 _ ?side1 ?side2 ?side3 ?side4 A8.out).mono ?_
          (case side1 => exact cc_ (Kd.C_below HR0_0.out HB.out))
          (case side2 => exact HC0_0.out)
          (case side3 => exact cc_ (Kd.C_below HR0_1.out HB.out))
          (case side4 => exact HC0_1.out)
          rintro e w16 ⟨rfl, hb⟩
          have HS2_ := (hb.cell (World.block_lt_of_cell? _ _ (hHeld.2.2))).trans (hHeld.2.2)
          refine ⟨_, rfl, ?_⟩
          have n0_ := Aside0.mk (Kd.V_below (vv_ HO_1.out) hb)
          have n1_ := Aside0.mk (Kd.R_below (rr_ HO_5.out) hb)
          have n2_ := Aside0.mk (blk_below (g := gb457) (o := .cells #[.slice A0_0 l0_0.length c0_0, .slice A0_1 l0_1.length c0_1] 25 (0, 0)) (bk_ BK457.out) hb)
          have n3_ := Aside0.mk (below_step (bs_ HB.out GE457.out) hb)
          clear HO_1
          clear HO_5
          clear BK457
          clear HB
          have HO_1 := n0_
          have HO_5 := n1_
          have BK457 := n2_
          have HB := n3_
          clear n0_ n1_ n2_ n3_
          (try clear hb)
          (try clear hb2)
          (try clear hk)
          (try clear hi)
          refine hK.out _ _ ⟨(blk_cell BK457.out 0).trans rfl, (blk_cell BK457.out 1).trans rfl, HS2_⟩ (fun hHeld => ?_)
          clear hK K
          refine norm_ (a' := ?_) ?_ ?_
          rotate_left
          ·show Act.put _ (some 22) _ = _
           simp only [Act.put, List.setIfInBounds_toArray, List.set_cons_zero, List.set_cons_succ, i64_w, i32_w]
           rfl
          refine pure_ (i := 9) (N := some 29) (v := ?_) (a' := ?_) #[true, true, true, true, true, true, true, true, true, true] rfl rfl (any_of HT_.out (by kernel_rfl)) (fun _ _ _ h => h) (Or.inl ⟨by rfl, ?_⟩) ?_ ?_
          rotate_left
          ·intro w'
           go_simp
           with_reducible rfl
          rotate_left
          ·simp only [Act.put, List.setIfInBounds_toArray, List.set_cons_zero, List.set_cons_succ, i64_w, i32_w]
           rfl
          refine done_ (done_of HT_.out (by kernel_rfl)) ?_
          have q17 : ((ji9) : Int) ≤ ((l1.length : Int) : Int) := of_decide_eq_true as_
          obtain ⟨i017, hi017, _, hsz17, _⟩ := info_parts info3
          have hroom17 : l1.length ≤ c1 := (Kd.V_reads' HO_1.out).2.1
          have hC17 : Kd.F (Kd.int .i64) _ _ (some ad459) l1.length l1 := (Kd.V_at (base := w.heap.size) HO_1.out).2.2
          have hcut17 := cut_to (P := Try.prog) 29 3 .i64 Try.underlying29 hi017 (some ad459) l1.length c1 (ji9) (of_decide_eq_true as_) q17 hroom17
          have hr17 := Kd.F_take (m := ((ji9) : Int).toNat) hC17 (by omega)
          have hy17 : y460.length = ((ji9) : Int).toNat := (by rw [Ny460.out, List.length_take]; omega)
          rw [← Ny460.out] at hr17
          rw [← hy17] at hcut17
          have HO464 := Aside0.mk (show Kd.V (Kd.int .i64) 3 _ w.heap.size _ (.slice (some ad459) y460.length c1) y460 from Kd.V_mk (by omega) hr17)
          have HC464 := Aside0.mk (show y460.length ≤ c1 from by omega)
          clear hr17 hC17 hroom17 hi017 hsz17
          have KY17 := Aside0.mk hy17
          clear hy17
          replace q17 := eq_true q17
          try go_wp2
          go_meet
          case rel => exact ⟨_, (y460), H', ⟨by have := HK1.out; first | omega | exact Nat.le_refl _⟩, ⟨vv_ HO_1.out⟩, ⟨rr_ HO_5.out⟩, ⟨vv_ HO464.out⟩, ⟨bk_ BK457.out⟩, ⟨bs_ HB.out GE457.out⟩⟩
         ·rw [if_neg c14] at H
          exact absurd H (by simp)
        ·rw [if_neg c12] at H
         have c12b0 : (t458 == (rd l1 (ji9))) = false := beq_eq_false_iff_ne.mpr c12
         have c12b1 : (t458 != (rd l1 (ji9))) = true := bne_iff_ne.mpr c12
         have H' := Aside0.mk H
         clear H
         try go_wp2
         have n0_ := Aside0.mk (Kd.V_drew HO_1.out)
         have n1_ := Aside0.mk (Kd.R_drew HO_5.out)
         have n2_ := Aside0.mk (blk_drew BK457.out)
         have n3_ := Aside0.mk (below_drew1 HB.out)
         clear HO_1
         clear HO_5
         clear BK457
         clear HB
         have HO_1 := n0_
         have HO_5 := n1_
         have BK457 := n2_
         have HB := n3_
         clear n0_ n1_ n2_ n3_
         have p459 : 0 ≤ ((ji9) : Int) := of_decide_eq_true as_
         have q459 : (ji9) < (l1.length : Int) := of_decide_eq_true as_
         obtain ⟨ad459, e459, hx459_0⟩ := Kd.at_int (Kd.V_reads' HO_1.out).2.2 (ji9) p459 q459
         cases e459
         replace p459 := eq_true p459
         replace q459 := eq_true q459
         refine start_ (n := 10) (S := fun w' => w'.cell? ⟨gb457, 0, none⟩ = some (.slice A0_0 l0_0.length c0_0) ∧ w'.cell? ⟨gb457, 1, none⟩ = some (.slice A0_1 l0_1.length c0_1) ∧ w'.cell? (ad459.add ((ji9)).toNat) = some (.int .i64 (rd l1 (ji9)))) (ds := []) #[false, false, false, false, false, false, false, false, false, false] (by kernel_rfl) rfl rfl ⟨(blk_cell BK457.out 0).trans rfl, (blk_cell BK457.out 1).trans rfl, hx459_0⟩ (fun hHeld => ?_); refine with_tabW tree_Paths.tab7 tree_Paths.bits7 (fun HT_ HW_ => ?_)
         generalize wr.drew = w18 at HO_1 HO_5 BK457 HB hx459_0 hHeld ⊢
         refine pure_ (i := 1) (N := some 21) (v := ?_) (a' := ?_) #[false, true, false, false, false, false, false, false, false, false] rfl rfl (any_of HT_.out (by kernel_rfl)) (fun _ _ _ h => h) (Or.inl ⟨by rfl, ?_⟩) ?_ ?_
         rotate_left
         ·intro w'
          go_simp
          with_reducible rfl
         rotate_left
         ·simp only [Act.put, List.setIfInBounds_toArray, List.set_cons_zero, List.set_cons_succ, i64_w, i32_w]
          rfl
         refine pure_ (i := 3) (N := some 23) (v := ?_) (a' := ?_) #[false, true, false, true, false, false, false, false, false, false] rfl rfl (any_of HT_.out (by kernel_rfl)) (fun _ _ _ h => h) (Or.inl ⟨by rfl, ?_⟩) ?_ ?_
         rotate_left
         ·intro w'
          go_simp
          with_reducible rfl
         rotate_left
         ·simp only [Act.put, List.setIfInBounds_toArray, List.set_cons_zero, List.set_cons_succ, i64_w, i32_w]
          rfl
         refine pure_ (i := 4) (N := some 24) (v := ?_) (a' := ?_) #[false, true, false, true, true, false, false, false, false, false] rfl rfl (any_of HT_.out (by kernel_rfl)) (fun _ _ _ h => h) (Or.inl ⟨by rfl, ?_⟩) ?_ ?_
         rotate_left
         ·intro w'
          go_simp
          with_reducible rfl
         rotate_left
         ·simp only [Act.put, List.setIfInBounds_toArray, List.set_cons_zero, List.set_cons_succ, i64_w, i32_w]
          rfl
         refine pure_ (i := 5) (N := some 25) (v := ?_) (a' := ?_) #[false, true, false, true, true, true, false, false, false, false] rfl rfl (any_of HT_.out (by kernel_rfl)) (fun _ _ _ h => h) (Or.inl ⟨by rfl, ?_⟩) ?_ ?_
         rotate_left
         ·intro w'
          go_simp
          with_reducible rfl
         rotate_left
         ·simp only [Act.put, List.setIfInBounds_toArray, List.set_cons_zero, List.set_cons_succ, i64_w, i32_w]
          rfl
         refine pure_ (i := 6) (N := some 26) (v := ?_) (a' := ?_) #[false, true, false, true, true, true, true, false, false, false] rfl rfl (any_of HT_.out (by kernel_rfl)) (fun _ _ _ h => h) (Or.inl ⟨by rfl, ?_⟩) ?_ ?_
         rotate_left
         ·intro w'
          go_simp
          with_reducible rfl
         rotate_left
         ·simp only [Act.put, List.setIfInBounds_toArray, List.set_cons_zero, List.set_cons_succ, i64_w, i32_w]
          rfl
         refine pure_ (i := 7) (N := some 27) (v := ?_) (a' := ?_) #[false, true, false, true, true, true, true, true, false, false] rfl rfl (any_of HT_.out (by kernel_rfl)) (fun _ _ _ h => h) (Or.inl ⟨by rfl, ?_⟩) ?_ ?_
         rotate_left
         ·intro w'
          go_simp
          with_reducible rfl
         rotate_left
         ·simp only [Act.put, List.setIfInBounds_toArray, List.set_cons_zero, List.set_cons_succ, i64_w, i32_w]
          rfl
         refine take_ (i := 0) (N := some 20) (v := ?_) (a' := ?_) #[true, true, false, true, true, true, true, true, false, false] rfl rfl (take_ofW HT_.out HW_.out (by kernel_rfl)) (fun _ _ _ h => h) (Or.inl ⟨by rfl, ?_⟩) hHeld ?_ ?_
         rotate_left
         ·rintro w' ⟨s0, s1, s2⟩
          go_simp
          with_reducible rfl
         rotate_left
         ·simp only [Act.put, List.setIfInBounds_toArray, List.set_cons_zero, List.set_cons_succ, i64_w, i32_w]
          rfl
         refine take_ (i := 8) (N := some 28) (v := ?_) (a' := ?_) #[true, true, false, true, true, true, true, true, true, false] rfl rfl (take_ofW HT_.out HW_.out (by kernel_rfl)) (fun _ _ _ h => h) (Or.inl ⟨by rfl, ?_⟩) hHeld ?_ ?_
         rotate_left
         ·rintro w' ⟨s0, s1, s2⟩
          go_simp
          with_reducible rfl
         rotate_left
         ·simp only [Act.put, List.setIfInBounds_toArray, List.set_cons_zero, List.set_cons_succ, i64_w, i32_w]
          rfl
         refine one_ (i := 2) (N := some 22) #[true, true, true, true, true, true, true, true, true, false] rfl rfl (one_of HT_.out (by kernel_rfl)) (by decide) (fun K hK => ?_)
         refine goes_ Try.func16 (by kernel_rfl) rfl #[.agg #[.slice A0_0 l0_0.length c0_0, .slice A0_1 l0_1.length c0_1], .int .i64 x13_1] (by rfl) rfl rfl ar_ ?_
         with_reducible refine (tree_Symbol.calls k1 _ _ l0_0 _ _ l0_1 x13_1 t458 _ ?side1 ?side2 ?side3 ?side4 A8.out).mono ?_
         (case side1 => exact cc_ (Kd.C_below HR0_0.out HB.out))
         (case side2 => exact HC0_0.out)
         (case side3 => exact cc_ (Kd.C_below HR0_1.out HB.out))
         (case side4 => exact HC0_1.out)
         rintro e w19 ⟨rfl, hb⟩
         have HS2_ := (hb.cell (World.block_lt_of_cell? _ _ (hHeld.2.2))).trans (hHeld.2.2)
         refine ⟨_, rfl, ?_⟩
         have n0_ := Aside0.mk (Kd.V_below (vv_ HO_1.out) hb)
         have n1_ := Aside0.mk (Kd.R_below (rr_ HO_5.out) hb)
         have n2_ := Aside0.mk (blk_below (g := gb457) (o := .cells #[.slice A0_0 l0_0.length c0_0, .slice A0_1 l0_1.length c0_1] 25 (0, 0)) (bk_ BK457.out) hb)
         have n3_ := Aside0.mk (below_step (bs_ HB.out GE457.out) hb)
         clear HO_1
         clear HO_5
         clear BK457
         clear HB
         have HO_1 := n0_
         have HO_5 := n1_
         have BK457 := n2_
         have HB := n3_
         clear n0_ n1_ n2_ n3_
         (try clear hb)
         (try clear hb2)
         (try clear hk)
         (try clear hi)
         refine hK.out _ _ ⟨(blk_cell BK457.out 0).trans rfl, (blk_cell BK457.out 1).trans rfl, HS2_⟩ (fun hHeld => ?_)
         clear hK K
         refine norm_ (a' := ?_) ?_ ?_
         rotate_left
         ·show Act.put _ (some 22) _ = _
          simp only [Act.put, List.setIfInBounds_toArray, List.set_cons_zero, List.set_cons_succ, i64_w, i32_w]
          rfl
         refine pure_ (i := 9) (N := some 29) (v := ?_) (a' := ?_) #[true, true, true, true, true, true, true, true, true, true] rfl rfl (any_of HT_.out (by kernel_rfl)) (fun _ _ _ h => h) (Or.inl ⟨by rfl, ?_⟩) ?_ ?_
         rotate_left
         ·intro w'
          go_simp
          with_reducible rfl
         rotate_left
         ·simp only [Act.put, List.setIfInBounds_toArray, List.set_cons_zero, List.set_cons_succ, i64_w, i32_w]
          rfl
         refine done_ (done_of HT_.out (by kernel_rfl)) ?_
         try go_wp2
         go_roundg k1
         case measure => have := HK1.out; omega
         case rel => exact ⟨(x5_1), (wrap64 (x13_1 + 1)), sm_, H', ⟨by have := HK1.out; omega⟩, ⟨vv_ HO_1.out⟩, ⟨rr_ HO_5.out⟩, ⟨bk_ BK457.out⟩, ⟨bs_ HB.out GE457.out⟩⟩
       ·rw [if_neg c11] at H
        exact absurd H (by simp)
      ·rw [if_neg c10] at H
       exact absurd H (by simp)
     ·rw [if_neg c7] at H
      have c7b0 : decide (0 < (l1.length : Int)) = false := decide_eq_false c7
      have c7b1 : decide (0 < l1.length) = false := decide_eq_false (by omega)
      clear c7
      (first | rw [c7b0] | (simp only [i64_w, i32_w]; rw [c7b0]) | skip)
      (try rw [c7b1])
      have H' := Aside0.mk H
      clear H
      go_wp2
      go_meet
      case rel => exact ⟨_, (l1), H', ⟨by have := HK1.out; first | omega | exact Nat.le_refl _⟩, ⟨vv_ HO_1.out⟩, ⟨rr_ HO_5.out⟩, ⟨vv_ HO_1.out⟩, ⟨bk_ BK457.out⟩, ⟨bs_ HB.out GE457.out⟩⟩
    case rest =>
     clear HC6
     try clear c1
     try clear q1
     try clear p2
     try clear c3
     try clear p4
     try clear q4
     try clear hx4
     try clear c5
     try clear c5b0
     try clear p6
     try clear c7
     try clear c7b0
     try clear c7b1
     try clear c10
     try clear c10b0
     try clear c11
     try clear c11b0
     try clear c12
     try clear c12b0
     try clear c12b1
     try clear c13
     try clear c13b0
     try clear c14
     try clear c14b0
     try clear c14b1
     try clear c16
     try clear q17
     try clear hcz4_0
     try clear hcz4_1
     try clear hfz4_0
     try clear hfz4_1
     try clear hx459_0
     try clear p2
     try clear p459
     try clear q17
     try clear q459
     obtain ⟨kq, x7_5, HA, HJ5, HO_1, HO_5, HO_7, BK457, HB⟩ := hcut
     cases kq with
     | zero => exact absurd HA.out (by simp [tree_Paths.j1])
     | succ kj5 =>
      have H := HA.out
      clear HA
      simp only [tree_Paths.j1] at H
      replace H := Option.bind_eq_some_iff.mp H
      obtain ⟨t465, A200, H⟩ := H
      try dsimp only at H
      have A20 := Aside0.mk A200
      clear A200
      have H' := Aside0.mk H
      clear H
      have hcz21_0 : wc.cell? ⟨gb457, 0, none⟩ = some (.slice A0_0 l0_0.length c0_0) := (blk_cell BK457.out 0).trans rfl
      have hcz21_1 : wc.cell? ⟨gb457, 1, none⟩ = some (.slice A0_1 l0_1.length c0_1) := (blk_cell BK457.out 1).trans rfl
      have hfz21_0 := blk_frozen BK457.out 0
      have hfz21_1 := blk_frozen BK457.out 1
      go_wp2_with (first | ((with_reducible refine gate_callee (f := 24) rfl ?_); refine goesL_ (some 37) rfl rfl Try.func24 (by kernel_rfl) rfl #[.agg #[.slice A0_0 l0_0.length c0_0, .slice A0_1 l0_1.length c0_1], .int .i64 x13_1] rfl ar_ ?_; (with_reducible refine (tree_Up.calls _ _ l0_0 _ _ l0_1 x13_1 t465 _ ?side1 ?side2 ?side3 ?side4 A20.out).mono ?_); (case side1 => exact cc_ (Kd.C_below HR0_0.out HB.out)); (case side2 => exact HC0_0.out); (case side3 => exact cc_ (Kd.C_below HR0_1.out HB.out)); (case side4 => exact HC0_1.out); rintro e w22 ⟨v466, rfl, ho0, hb⟩; refine ⟨_, rfl, ?_⟩; have n0_ := Aside0.mk (Kd.V_elder' (vv_ HO_1.out) (Kd.R_base ho0) hb); have n1_ := Aside0.mk (Kd.R_elder' (rr_ HO_5.out) (Kd.R_base ho0) hb); have n2_ := Aside0.mk (Kd.V_elder' (vv_ HO_7.out) (Kd.R_base ho0) hb); have n3_ := Aside0.mk (Kd.R_lower (Kd.R_new' (Kd.R_newM (M := fun k_ => (w.heap.size ≤ k_)) ho0 (below_size (bs_ HB.out GE457.out)) (fun k_ h_ => h_)) (Kd.R_lt (rr_ HO_5.out))) (below_size (bs_ HB.out GE457.out))); have n4_ := Aside0.mk (blk_below (g := gb457) (o := .cells #[.slice A0_0 l0_0.length c0_0, .slice A0_1 l0_1.length c0_1] 25 (0, 0)) (bk_ BK457.out) hb); have n5_ := Aside0.mk (below_step (bs_ HB.out GE457.out) hb); clear HO_1; clear HO_5; clear HO_7; clear BK457; clear HB; have HO_1 := n0_; have HO_5 := n1_; have HO_7 := n2_; have HO467 := n3_; have BK457 := n4_; have HB := n5_; clear n0_ n1_ n2_ n3_ n4_ n5_; (try clear hb); (try clear hb2); (try clear hk); (try clear hi); (try clear ho0); obtain ⟨Ao23, co23, eo23⟩ := Kd.R_slice HO467.out; subst eo23))
      go_loopg [7, 39] kj5 (fun kq v7 v39 w' => ∃ (x7_3 : List Int) (x39_3 : Int), v39 = .int .i64 x39_3 ∧ Aside0 (tree_Paths.l1 kq l1 x5_1 x13_1 x7_3 (l0_1.length : Int) x13_1 t465 (t465.length : Int) x39_3 l0_0 l0_1 = some r) ∧ Aside0 (kq ≤ kj5) ∧ Aside0 (Kd.V (Kd.int .i64) 3 w' w.heap.size (fun k_ => (P1_ k_ ∨ w.heap.size ≤ k_) ∧ some k_ ≠ (u5 : Value).ownBlock ∧ some k_ ≠ ((.slice Ao23 t465.length co23) : Value).ownBlock ∧ k_ ≠ gb457) (.slice A1 l1.length c1) l1) ∧ Aside0 (Kd.R (Kd.int .i64) 3 w' w.heap.size (fun k_ => (w.heap.size ≤ k_) ∧ some k_ ≠ ((.slice Ao23 t465.length co23) : Value).ownBlock) u5 x5_1) ∧ Aside0 (Kd.V (Kd.int .i64) 3 w' w.heap.size (fun k_ => (P1_ k_ ∨ w.heap.size ≤ k_) ∧ some k_ ≠ (u5 : Value).ownBlock ∧ some k_ ≠ ((.slice Ao23 t465.length co23) : Value).ownBlock ∧ k_ ≠ gb457) v7 x7_3) ∧ Aside0 (Kd.R (Kd.int .i64) 3 w' w.heap.size (fun k_ => (w.heap.size ≤ k_) ∧ some k_ ≠ (u5 : Value).ownBlock) (.slice Ao23 t465.length co23) t465) ∧ Aside0 (w'.heap[gb457]? = some (.cells #[(.slice A0_0 l0_0.length c0_0), (.slice A0_1 l0_1.length c0_1)] 25 (0, 0))) ∧ Aside0 (Below w.heap.size w w'))
      case atStart => exact ⟨(x7_5), (0), sm_, H', ⟨Nat.le_refl _⟩, ⟨by (with_reducible repeat (first | apply Kd.V_alloc | apply Kd.V_drewN | apply Kd.V_drew)); exact Kd.V_mono HO_1.out (fun _ hk => ⟨hk.1.1, ⟨hk.1.2.1, ⟨hk.2, hk.1.2.2⟩⟩⟩)⟩, ⟨rr_ HO_5.out⟩, ⟨by (with_reducible repeat (first | apply Kd.V_alloc | apply Kd.V_drewN | apply Kd.V_drew)); exact Kd.V_mono HO_7.out (fun _ hk => ⟨hk.1.1, ⟨hk.1.2.1, ⟨hk.2, hk.1.2.2⟩⟩⟩)⟩, ⟨by (with_reducible repeat (first | apply Kd.R_alloc | apply Kd.R_drewN | apply Kd.R_drew)); exact Kd.R_mono HO467.out (fun _ hk => ⟨hk.1.1, hk.2⟩)⟩, ⟨bk_ BK457.out⟩, ⟨bs_ HB.out GE457.out⟩⟩
      case round =>
       clear H'
       try clear c1
       try clear q1
       try clear c2
       try clear p2
       try clear c3
       try clear p4
       try clear q4
       try clear hx4
       try clear c5
       try clear c5b0
       try clear p6
       try clear c7
       try clear c7b0
       try clear c7b1
       try clear c10
       try clear c10b0
       try clear c11
       try clear c11b0
       try clear c12
       try clear c12b0
       try clear c12b1
       try clear c13
       try clear c13b0
       try clear c14
       try clear c14b0
       try clear c14b1
       try clear c16
       try clear q17
       try clear hcz21_0
       try clear hcz21_1
       try clear hcz4_0
       try clear hcz4_1
       try clear hfz21_0
       try clear hfz21_1
       try clear hfz4_0
       try clear hfz4_1
       try clear hx459_0
       try clear p2
       try clear p4
       try clear p459
       try clear p6
       try clear q1
       try clear q17
       try clear q4
       try clear q459
       obtain ⟨x7_3, x39_3, rfl, HA, HK3, HO_1, HO_5, HO_7, HO_37, BK457, HB⟩ := hrel
       cases gk with
       | zero => exact absurd HA.out (by simp [tree_Paths.l1])
       | succ k3 =>
        have H := HA.out
        clear HA
        simp only [tree_Paths.l1] at H
        by_cases c24 : x39_3 < (t465.length : Int)
        ·rw [if_pos c24] at H
         have c24b0 : decide (x39_3 < (t465.length : Int)) = true := decide_eq_true c24
         clear c24
         by_cases c25 : 0 ≤ x39_3
         ·rw [if_pos c25] at H
          have c25b0 : decide (0 ≤ x39_3) = true := decide_eq_true c25
          clear c25
          by_cases c26 : x39_3 < (t465.length : Int)
          ·rw [if_pos c26] at H
           have c26b0 : decide (x39_3 < (t465.length : Int)) = true := decide_eq_true c26
           clear c26
           by_cases c27 : (x7_3.length : Int) = 0
           ·rw [if_pos c27] at H
            have c27b0 : ((x7_3.length : Int) == 0) = true := beq_iff_eq.mpr c27
            have c27b1 : ((x7_3.length : Int) != 0) = false := bne_eq_false_iff_eq.mpr c27
            clear c27
            by_cases c28 : x5_1.length < 17592186044416
            ·rw [if_pos c28] at H
             have LMc28 := Aside0.mk c28
             clear c28
             obtain ⟨y472, hy472⟩ : ∃ y_ : List Int, y_ = (x5_1 ++ [x13_1]) := ⟨_, rfl⟩
             replace H : (tree_Paths.l0 k3 l1 y472 (l0_1.length : Int) (wrap64 (x13_1 + 1)) l0_0 l0_1) = some r := by first | (rw [hy472]; with_reducible exact H) | (have H2_ := (Option.bind_some _ _).symm.trans H; rw [hy472]; with_reducible exact H2_) | (have H2_ := (Option.bind_some _ _).symm.trans H; with_reducible exact H2_) | with_reducible exact H | (rw [hy472]; exact H) | exact H
             have Ny472 := Aside0.mk hy472
             clear hy472
             have H' := Aside0.mk H
             clear H
             have p471 : 0 ≤ (x39_3 : Int) := of_decide_eq_true as_
             have q471 : x39_3 < (t465.length : Int) := of_decide_eq_true as_
             obtain ⟨ad471, e471, hx471_0⟩ := Kd.at_int (Kd.R_reads' HO_37.out).2.2 x39_3 p471 q471
             cases e471
             replace p471 := eq_true p471
             replace q471 := eq_true q471
             obtain ⟨Ao29, co29, eo29⟩ := Kd.V_slice HO_7.out
             subst eo29
             go_wp2_with (first | ((with_reducible refine gate_builtin (b := .append) (xs := #[.tmp 63, .tmp 65]) rfl ?_); at_builtin; refine Kd.R_append (Kd.int .i64) (w0 := w) w.heap.size rfl (.tmp 63) (.tmp 65) 29 3 (.int .i64 0) 8 rfl Try.underlying29 info3 rfl (by decide) (by omega) u5 x5_1 x13_1 [.int .i64 x13_1] (fun k_ => (w.heap.size ≤ k_) ∧ some k_ ≠ (.slice (some ad471) t465.length co23 : Value).ownBlock) (fun _ => False) rfl rfl ?aP (fun _ hk => hk.elim) ?aF ?aO ?aB ?aS ?aL ?_; (case aP => exact rfl); (case aB => exact (bs_ HB.out GE457.out)); (case aF => exact (fun k_ hk => ⟨(Nat.le_trans (below_size (bs_ HB.out GE457.out)) hk), Kd.fresh' (Kd.R_lt (rr_ HO_37.out)) k_ hk⟩)); (case aO => exact (rr_ HO_5.out)); (case aS => exact (below_size (bs_ HB.out GE457.out))); (case aL => have := LMc28.out; omega); intro v473 w30 ho hb hg hat; rw [← Ny472.out] at ho; have n0_ := Aside0.mk (Kd.V_afterv (ok := (fun k_ => (P1_ k_ ∨ w.heap.size ≤ k_) ∧ some k_ ≠ (.slice (some ad471) t465.length co23 : Value).ownBlock ∧ k_ ≠ gb457)) (by (with_reducible repeat (first | apply Kd.V_alloc | apply Kd.V_drewN | apply Kd.V_drew)); exact Kd.V_mono HO_1.out (fun _ hk => ⟨⟨hk.1, ⟨hk.2.2.1, hk.2.2.2⟩⟩, hk.2.1⟩)) hg hat); have n1_ := Aside0.mk (Kd.V_afterv (ok := (fun k_ => (P1_ k_ ∨ w.heap.size ≤ k_) ∧ some k_ ≠ (.slice (some ad471) t465.length co23 : Value).ownBlock ∧ k_ ≠ gb457)) (by (with_reducible repeat (first | apply Kd.V_alloc | apply Kd.V_drewN | apply Kd.V_drew)); exact Kd.V_mono HO_7.out (fun _ hk => ⟨⟨hk.1, ⟨hk.2.2.1, hk.2.2.2⟩⟩, hk.2.1⟩)) hg hat); have n2_ := Aside0.mk (Kd.R_after (ok := (fun k_ => (w.heap.size ≤ k_))) (rr_ HO_37.out) hg hat); have n3_ := Aside0.mk (blk_grown (g := gb457) (o := .cells #[.slice A0_0 l0_0.length c0_0, .slice A0_1 l0_1.length c0_1] 25 (0, 0)) (bk_ BK457.out) hg (Kd.R_ne HO_5.out BK457.out (by decide))); have n4_ := Aside0.mk (hb); have n5_ := Aside0.mk (ho); clear HO_1; clear HO_7; clear HO_37; clear BK457; clear HB; clear HO_5; have HO_1 := n0_; have HO_7 := n1_; have HO_37 := n2_; have BK457 := n3_; have HB := n4_; have HO474 := n5_; clear n0_ n1_ n2_ n3_ n4_ n5_; clear ho hb hg hat))
             go_roundg k3
             case measure => have := HK1.out; have := HJ5.out; have := HK3.out; omega
             case rel => exact ⟨(y472), (wrap64 (x13_1 + 1)), sm_, H', ⟨by have := HK1.out; have := HJ5.out; have := HK3.out; omega⟩, ⟨by (with_reducible repeat (first | apply Kd.V_alloc | apply Kd.V_drewN | apply Kd.V_drew)); exact Kd.V_mono HO_1.out (fun _ hk => ⟨hk.1.1, ⟨hk.2, hk.1.2.2⟩⟩)⟩, ⟨by (with_reducible repeat (first | apply Kd.R_alloc | apply Kd.R_drewN | apply Kd.R_drew)); exact Kd.R_mono HO474.out (fun _ hk => hk.1)⟩, ⟨bk_ BK457.out⟩, ⟨bs_ HB.out GE457.out⟩⟩
            ·rw [if_neg c28] at H
             exact absurd H (by simp)
           ·rw [if_neg c27] at H
            have c27b0 : ((x7_3.length : Int) == 0) = false := beq_eq_false_iff_ne.mpr c27
            have c27b1 : ((x7_3.length : Int) != 0) = true := bne_iff_ne.mpr c27
            have c27b2 : ¬ (x7_3 = []) := fun h_ => c27 (by rw [h_]; rfl)
            obtain ⟨ji31, hji31⟩ : ∃ j_ : Int, (wrap64 ((x7_3.length : Int) - 1)) = j_ := ⟨_, rfl⟩
            replace H : (if 0 ≤ (ji31) then (if (ji31) < (x7_3.length : Int) then (if (rd x7_3 (ji31)) = (rd t465 x39_3) then (if (ji31) ≤ (x7_3.length : Int) then (tree_Paths.l1 k3 l1 x5_1 x13_1 (x7_3.take ((ji31) : Int).toNat) (l0_1.length : Int) x13_1 t465 (t465.length : Int) (wrap64 (x39_3 + 1)) l0_0 l0_1) else (none)) else (tree_Paths.l0 k3 l1 x5_1 (l0_1.length : Int) (wrap64 (x13_1 + 1)) l0_0 l0_1)) else (none)) else (none)) = some r := by first | (rw [hji31] at H; exact H) | (simp only [hji31] at H ⊢; exact H)
            have hji31w : (IntKind.i64.wrap ((x7_3.length : Int) - 1)) = ji31 := (i64_w _).trans hji31
            by_cases c32 : 0 ≤ (ji31)
            ·rw [if_pos c32] at H
             have c32b0 : decide (0 ≤ (ji31)) = true := decide_eq_true c32
             clear c32
             by_cases c33 : (ji31) < (x7_3.length : Int)
             ·rw [if_pos c33] at H
              have c33b0 : decide ((ji31) < (x7_3.length : Int)) = true := decide_eq_true c33
              clear c33
              by_cases c34 : (rd x7_3 (ji31)) = (rd t465 x39_3)
              ·rw [if_pos c34] at H
               have c34b0 : ((rd x7_3 (ji31)) == (rd t465 x39_3)) = true := beq_iff_eq.mpr c34
               have c34b1 : ((rd x7_3 (ji31)) != (rd t465 x39_3)) = false := bne_eq_false_iff_eq.mpr c34
               clear c34
               have c35b0 := eq_true (of_decide_eq_true as_ : 0 ≤ (ji31))
               by_cases c36 : (ji31) ≤ (x7_3.length : Int)
               ·rw [if_pos c36] at H
                have c36b0 := eq_true c36
                have c36b1 : decide ((ji31) ≤ (x7_3.length : Int)) = true := decide_eq_true c36
                clear c36
                obtain ⟨y476, hy476⟩ : ∃ y_ : List Int, y_ = (x7_3.take ((ji31) : Int).toNat) := ⟨_, rfl⟩
                replace H : (tree_Paths.l1 k3 l1 x5_1 x13_1 y476 (l0_1.length : Int) x13_1 t465 (t465.length : Int) (wrap64 (x39_3 + 1)) l0_0 l0_1) = some r := by first | (rw [hy476]; with_reducible exact H) | (have H2_ := (Option.bind_some _ _).symm.trans H; rw [hy476]; with_reducible exact H2_) | (have H2_ := (Option.bind_some _ _).symm.trans H; with_reducible exact H2_) | with_reducible exact H | (rw [hy476]; exact H) | exact H
                have Ny476 := Aside0.mk hy476
                clear hy476
                have H' := Aside0.mk H
                clear H
                have p471 : 0 ≤ (x39_3 : Int) := of_decide_eq_true as_
                have q471 : x39_3 < (t465.length : Int) := of_decide_eq_true as_
                obtain ⟨ad471, e471, hx471_0⟩ := Kd.at_int (Kd.R_reads' HO_37.out).2.2 x39_3 p471 q471
                cases e471
                replace p471 := eq_true p471
                replace q471 := eq_true q471
                obtain ⟨Ao37, co37, eo37⟩ := Kd.V_slice HO_7.out
                subst eo37
                have p475 : 0 ≤ ((ji31) : Int) := of_decide_eq_true as_
                have q475 : (ji31) < (x7_3.length : Int) := of_decide_eq_true as_
                obtain ⟨ad475, e475, hx475_0⟩ := Kd.at_int (Kd.V_reads' HO_7.out).2.2 (ji31) p475 q475
                cases e475
                replace p475 := eq_true p475
                replace q475 := eq_true q475
                have q38 : ((ji31) : Int) ≤ ((x7_3.length : Int) : Int) := of_decide_eq_true as_
                obtain ⟨i038, hi038, _, hsz38, _⟩ := info_parts info3
                have hroom38 : x7_3.length ≤ co37 := (Kd.V_reads' HO_7.out).2.1
                have hC38 : Kd.F (Kd.int .i64) _ _ (some ad475) x7_3.length x7_3 := (Kd.V_at (base := w.heap.size) HO_7.out).2.2
                have hcut38 := cut_to (P := Try.prog) 29 3 .i64 Try.underlying29 hi038 (some ad475) x7_3.length co37 (ji31) (of_decide_eq_true as_) q38 hroom38
                have hr38 := Kd.F_take (m := ((ji31) : Int).toNat) hC38 (by omega)
                have hy38 : y476.length = ((ji31) : Int).toNat := (by rw [Ny476.out, List.length_take]; omega)
                rw [← Ny476.out] at hr38
                rw [← hy38] at hcut38
                have HO480 := Aside0.mk (show Kd.V (Kd.int .i64) 3 _ w.heap.size _ (.slice (some ad475) y476.length co37) y476 from Kd.V_mk (by omega) hr38)
                have HC480 := Aside0.mk (show y476.length ≤ co37 from by omega)
                clear hr38 hC38 hroom38 hi038 hsz38
                have KY38 := Aside0.mk hy38
                clear hy38
                replace q38 := eq_true q38
                go_wp2
                go_roundg k3
                case measure => have := HK1.out; have := HJ5.out; have := HK3.out; omega
                case rel => exact ⟨(y476), (wrap64 (x39_3 + 1)), sm_, H', ⟨by have := HK1.out; have := HJ5.out; have := HK3.out; omega⟩, ⟨vv_ HO_1.out⟩, ⟨rr_ HO_5.out⟩, ⟨vv_ HO480.out⟩, ⟨rr_ HO_37.out⟩, ⟨bk_ BK457.out⟩, ⟨bs_ HB.out GE457.out⟩⟩
               ·rw [if_neg c36] at H
                exact absurd H (by simp)
              ·rw [if_neg c34] at H
               have c34b0 : ((rd x7_3 (ji31)) == (rd t465 x39_3)) = false := beq_eq_false_iff_ne.mpr c34
               have c34b1 : ((rd x7_3 (ji31)) != (rd t465 x39_3)) = true := bne_iff_ne.mpr c34
               have H' := Aside0.mk H
               clear H
               have p471 : 0 ≤ (x39_3 : Int) := of_decide_eq_true as_
               have q471 : x39_3 < (t465.length : Int) := of_decide_eq_true as_
               obtain ⟨ad471, e471, hx471_0⟩ := Kd.at_int (Kd.R_reads' HO_37.out).2.2 x39_3 p471 q471
               cases e471
               replace p471 := eq_true p471
               replace q471 := eq_true q471
               obtain ⟨Ao39, co39, eo39⟩ := Kd.V_slice HO_7.out
               subst eo39
               have p475 : 0 ≤ ((ji31) : Int) := of_decide_eq_true as_
               have q475 : (ji31) < (x7_3.length : Int) := of_decide_eq_true as_
               obtain ⟨ad475, e475, hx475_0⟩ := Kd.at_int (Kd.V_reads' HO_7.out).2.2 (ji31) p475 q475
               cases e475
               replace p475 := eq_true p475
               replace q475 := eq_true q475
               go_wp2
               go_roundg k3
               case measure => have := HK1.out; have := HJ5.out; have := HK3.out; omega
               case rel => exact ⟨(x5_1), (wrap64 (x13_1 + 1)), sm_, H', ⟨by have := HK1.out; have := HJ5.out; have := HK3.out; omega⟩, ⟨by (with_reducible repeat (first | apply Kd.V_alloc | apply Kd.V_drewN | apply Kd.V_drew)); exact Kd.V_mono HO_1.out (fun _ hk => ⟨hk.1, ⟨hk.2.1, hk.2.2.2⟩⟩)⟩, ⟨by (with_reducible repeat (first | apply Kd.R_alloc | apply Kd.R_drewN | apply Kd.R_drew)); exact Kd.R_mono HO_5.out (fun _ hk => hk.1)⟩, ⟨bk_ BK457.out⟩, ⟨bs_ HB.out GE457.out⟩⟩
             ·rw [if_neg c33] at H
              exact absurd H (by simp)
            ·rw [if_neg c32] at H
             exact absurd H (by simp)
          ·rw [if_neg c26] at H
           exact absurd H (by simp)
         ·rw [if_neg c25] at H
          exact absurd H (by simp)
        ·rw [if_neg c24] at H
         have c24b0 : decide (x39_3 < (t465.length : Int)) = false := decide_eq_false c24
         clear c24
         by_cases c40 : (x7_3.length : Int) = 0
         ·rw [if_pos c40] at H
          have c40b0 : ((x7_3.length : Int) == 0) = true := beq_iff_eq.mpr c40
          have c40b1 : ((x7_3.length : Int) != 0) = false := bne_eq_false_iff_eq.mpr c40
          clear c40
          by_cases c41 : x5_1.length < 17592186044416
          ·rw [if_pos c41] at H
           have LMc41 := Aside0.mk c41
           clear c41
           obtain ⟨y468, hy468⟩ : ∃ y_ : List Int, y_ = (x5_1 ++ [x13_1]) := ⟨_, rfl⟩
           replace H : (tree_Paths.l0 k3 l1 y468 (l0_1.length : Int) (wrap64 (x13_1 + 1)) l0_0 l0_1) = some r := by first | (rw [hy468]; with_reducible exact H) | (have H2_ := (Option.bind_some _ _).symm.trans H; rw [hy468]; with_reducible exact H2_) | (have H2_ := (Option.bind_some _ _).symm.trans H; with_reducible exact H2_) | with_reducible exact H | (rw [hy468]; exact H) | exact H
           have Ny468 := Aside0.mk hy468
           clear hy468
           have H' := Aside0.mk H
           clear H
           obtain ⟨Ao42, co42, eo42⟩ := Kd.V_slice HO_7.out
           subst eo42
           go_wp2_with (first | ((with_reducible refine gate_builtin (b := .append) (xs := #[.tmp 63, .tmp 65]) rfl ?_); at_builtin; refine Kd.R_append (Kd.int .i64) (w0 := w) w.heap.size rfl (.tmp 63) (.tmp 65) 29 3 (.int .i64 0) 8 rfl Try.underlying29 info3 rfl (by decide) (by omega) u5 x5_1 x13_1 [.int .i64 x13_1] (fun k_ => (w.heap.size ≤ k_) ∧ some k_ ≠ (.slice Ao23 t465.length co23 : Value).ownBlock) (fun _ => False) rfl rfl ?aP (fun _ hk => hk.elim) ?aF ?aO ?aB ?aS ?aL ?_; (case aP => exact rfl); (case aB => exact (bs_ HB.out GE457.out)); (case aF => exact (fun k_ hk => ⟨(Nat.le_trans (below_size (bs_ HB.out GE457.out)) hk), Kd.fresh' (Kd.R_lt (rr_ HO_37.out)) k_ hk⟩)); (case aO => exact (rr_ HO_5.out)); (case aS => exact (below_size (bs_ HB.out GE457.out))); (case aL => have := LMc41.out; omega); intro v469 w43 ho hb hg hat; rw [← Ny468.out] at ho; have n0_ := Aside0.mk (Kd.V_afterv (ok := (fun k_ => (P1_ k_ ∨ w.heap.size ≤ k_) ∧ some k_ ≠ (.slice Ao23 t465.length co23 : Value).ownBlock ∧ k_ ≠ gb457)) (by (with_reducible repeat (first | apply Kd.V_alloc | apply Kd.V_drewN | apply Kd.V_drew)); exact Kd.V_mono HO_1.out (fun _ hk => ⟨⟨hk.1, ⟨hk.2.2.1, hk.2.2.2⟩⟩, hk.2.1⟩)) hg hat); have n1_ := Aside0.mk (Kd.V_afterv (ok := (fun k_ => (P1_ k_ ∨ w.heap.size ≤ k_) ∧ some k_ ≠ (.slice Ao23 t465.length co23 : Value).ownBlock ∧ k_ ≠ gb457)) (by (with_reducible repeat (first | apply Kd.V_alloc | apply Kd.V_drewN | apply Kd.V_drew)); exact Kd.V_mono HO_7.out (fun _ hk => ⟨⟨hk.1, ⟨hk.2.2.1, hk.2.2.2⟩⟩, hk.2.1⟩)) hg hat); have n2_ := Aside0.mk (Kd.R_after (ok := (fun k_ => (w.heap.size ≤ k_))) (rr_ HO_37.out) hg hat); have n3_ := Aside0.mk (blk_grown (g := gb457) (o := .cells #[.slice A0_0 l0_0.length c0_0, .slice A0_1 l0_1.length c0_1] 25 (0, 0)) (bk_ BK457.out) hg (Kd.R_ne HO_5.out BK457.out (by decide))); have n4_ := Aside0.mk (hb); have n5_ := Aside0.mk (ho); clear HO_1; clear HO_7; clear HO_37; clear BK457; clear HB; clear HO_5; have HO_1 := n0_; have HO_7 := n1_; have HO_37 := n2_; have BK457 := n3_; have HB := n4_; have HO470 := n5_; clear n0_ n1_ n2_ n3_ n4_ n5_; clear ho hb hg hat))
           go_roundg k3
           case measure => have := HK1.out; have := HJ5.out; have := HK3.out; omega
           case rel => exact ⟨(y468), (wrap64 (x13_1 + 1)), sm_, H', ⟨by have := HK1.out; have := HJ5.out; have := HK3.out; omega⟩, ⟨by (with_reducible repeat (first | apply Kd.V_alloc | apply Kd.V_drewN | apply Kd.V_drew)); exact Kd.V_mono HO_1.out (fun _ hk => ⟨hk.1.1, ⟨hk.2, hk.1.2.2⟩⟩)⟩, ⟨by (with_reducible repeat (first | apply Kd.R_alloc | apply Kd.R_drewN | apply Kd.R_drew)); exact Kd.R_mono HO470.out (fun _ hk => hk.1)⟩, ⟨bk_ BK457.out⟩, ⟨bs_ HB.out GE457.out⟩⟩
          ·rw [if_neg c41] at H
           exact absurd H (by simp)
         ·rw [if_neg c40] at H
          have c40b0 : ((x7_3.length : Int) == 0) = false := beq_eq_false_iff_ne.mpr c40
          have c40b1 : ((x7_3.length : Int) != 0) = true := bne_iff_ne.mpr c40
          have c40b2 : ¬ (x7_3 = []) := fun h_ => c40 (by rw [h_]; rfl)
          have H' := Aside0.mk H
          clear H
          obtain ⟨Ao44, co44, eo44⟩ := Kd.V_slice HO_7.out
          subst eo44
          go_wp2
          go_roundg k3
          case measure => have := HK1.out; have := HJ5.out; have := HK3.out; omega
          case rel => exact ⟨(x5_1), (wrap64 (x13_1 + 1)), sm_, H', ⟨by have := HK1.out; have := HJ5.out; have := HK3.out; omega⟩, ⟨by (with_reducible repeat (first | apply Kd.V_alloc | apply Kd.V_drewN | apply Kd.V_drew)); exact Kd.V_mono HO_1.out (fun _ hk => ⟨hk.1, ⟨hk.2.1, hk.2.2.2⟩⟩)⟩, ⟨by (with_reducible repeat (first | apply Kd.R_alloc | apply Kd.R_drewN | apply Kd.R_drew)); exact Kd.R_mono HO_5.out (fun _ hk => hk.1)⟩, ⟨bk_ BK457.out⟩, ⟨bs_ HB.out GE457.out⟩⟩
   ·rw [if_neg c5] at H
    have c5b0 : decide (x13_1 < (l0_1.length : Int)) = false := decide_eq_false c5
    clear c5
    obtain rfl := Option.some.inj H
    go_wp2
    go_ret
    exact ⟨_, by first | rfl | (simp [errW_none, errW_some] <;> rfl) | (simp [*, errW_none, errW_some] <;> rfl), rr_ HO_5.out, bs_ HB.out GE457.out⟩
end Go.Proofs.Ytoanmoddppmffaa.T
