/- What each function of the program comes to, and its walk: laid by a program. -/
import Derived.Test.YtoanmoddppmffaaCTx0
import Derived.Test.YtoanmoddppmffaaCTx1
import Derived.Test.YtoanmoddppmffaaCTx3
import Derived.Test.YtoanmoddppmffaaCTx15
namespace Go.Proofs.Ytoanmoddppmffaa.T
open Go.RowKit Go.Proofs.YtoanmoddppmffaaW.PrintWords Go.Proofs.YtoanmoddppmffaaW.PrintLast Go.Proofs.YtoanmoddppmffaaW.PrintMore
set_option linter.unusedVariables false
set_option linter.unusedSimpArgs false
def tree_Depth.f (l0_0 : List ByteArray) (l0_1 : List (S52)) (a1 : Int) : Option (Int) := if a1 < 0 then (some (-1)) else (if a1 ≥ (l0_1.length : Int) then (some (-1)) else ((tree_Up.f l0_0 l0_1 a1).bind fun t368 => (some (t368.length : Int))))
set_option maxHeartbeats 8000000 in
set_option maxRecDepth 100000 in
theorem tree_Depth.calls (A0_0 : Option Addr) (c0_0 : Nat) (l0_0 : List ByteArray) (A0_1 : Option Addr) (c0_1 : Nat) (l0_1 : List (S52)) (a1 : Int) (r : Int) (w : World) (hr0_0 : Kd.C Kd.string w A0_0 l0_0.length l0_0) (hc0_0 : l0_0.length ≤ c0_0) (hr0_1 : Kd.C k52 w A0_1 l0_1.length l0_1) (hc0_1 : l0_1.length ≤ c0_1) (h : tree_Depth.f l0_0 l0_1 a1 = some r) :
  Calls Try.prog 25 #[.agg #[.slice A0_0 l0_0.length c0_0, .slice A0_1 l0_1.length c0_1], .int .i64 a1] w fun e w' => e = .returned (.int .i64 r) ∧ Below w.heap.size w w' := by
 have hu25 := Try.underlying25
 have HR0_0 := Aside0.mk hr0_0
 have HC0_0 := Aside0.mk hc0_0
 clear hr0_0 hc0_0
 have HR0_1 := Aside0.mk hr0_1
 have HC0_1 := Aside0.mk hc0_1
 clear hr0_1 hc0_1
 have HB := Aside0.mk (Below.refl w.heap.size w)
 have H : (if a1 < 0 then (some (-1)) else (if a1 ≥ (l0_1.length : Int) then (some (-1)) else ((tree_Up.f l0_0 l0_1 a1).bind fun t368 => (some (t368.length : Int))))) = some r := h
 clear h
 by_cases c3 : a1 < 0
 ·rw [if_pos c3] at H
  have c3b0 : decide (a1 < 0) = true := decide_eq_true c3
  clear c3
  obtain rfl := Option.some.inj H
  go_enter Try.func25, Try.ntmps25
  go_wp2_with (first | ((with_reducible refine gate_dst (N := 2) rfl ?_); (try (refine gate_guard (by rfl) ?_; dsimp only)); refine box_event ?hg (N := 2) ?hd (cs := #[.slice A0_0 l0_0.length c0_0, .slice A0_1 l0_1.length c0_1]) (t := 25) ?hr ?_; (case hd => rfl); (case hg => rfl); (case hr => first | (go_simp; done) | (go_simp; rfl)); intro gb367 hg w4 hbox hb; have n0_ := Aside0.mk (below_step (bb_ HB.out) hb); have n1_ := Aside0.mk (hbox); have n2_ := Aside0.mk ((by rw [hg]; exact (below_size (bb_ HB.out)) : w.heap.size ≤ gb367)); have n3_ := Aside0.mk ((by rw [hg]; exact (below_size (bb_ HB.out)) : w.heap.size ≤ gb367)); clear HB; have HB := n0_; have BK367 := n1_; have GW367 := n2_; have GE367 := n3_; clear n0_ n1_ n2_ n3_; clear hb hbox hg))
  go_ret
  exact ⟨by first | rfl | (simp [errW_none, errW_some] <;> rfl) | (simp [*, errW_none, errW_some] <;> rfl), by repeat (first | (with_reducible first | exact HB.out | apply below_alloc | apply pw_below_drewN | apply below_drew1 | refine below_set ?_ GE367.out) | exact HB.out)⟩
 ·rw [if_neg c3] at H
  have c3b0 : decide (a1 < 0) = false := decide_eq_false c3
  clear c3
  by_cases c5 : a1 ≥ (l0_1.length : Int)
  ·rw [if_pos c5] at H
   have c5b0 : decide ((l0_1.length : Int) ≤ a1) = true := decide_eq_true c5
   clear c5
   obtain rfl := Option.some.inj H
   go_enter Try.func25, Try.ntmps25
   go_wp2_with (first | ((with_reducible refine gate_dst (N := 2) rfl ?_); (try (refine gate_guard (by rfl) ?_; dsimp only)); refine box_event ?hg (N := 2) ?hd (cs := #[.slice A0_0 l0_0.length c0_0, .slice A0_1 l0_1.length c0_1]) (t := 25) ?hr ?_; (case hd => rfl); (case hg => rfl); (case hr => first | (go_simp; done) | (go_simp; rfl)); intro gb367 hg w6 hbox hb; have n0_ := Aside0.mk (below_step (bb_ HB.out) hb); have n1_ := Aside0.mk (hbox); have n2_ := Aside0.mk ((by rw [hg]; exact (below_size (bb_ HB.out)) : w.heap.size ≤ gb367)); have n3_ := Aside0.mk ((by rw [hg]; exact (below_size (bb_ HB.out)) : w.heap.size ≤ gb367)); clear HB; have HB := n0_; have BK367 := n1_; have GW367 := n2_; have GE367 := n3_; clear n0_ n1_ n2_ n3_; clear hb hbox hg; have hcz7_0 : w6.cell? ⟨gb367, 0, none⟩ = some (.slice A0_0 l0_0.length c0_0) := (blk_cell BK367.out 0).trans rfl; have hcz7_1 : w6.cell? ⟨gb367, 1, none⟩ = some (.slice A0_1 l0_1.length c0_1) := (blk_cell BK367.out 1).trans rfl; have hfz7_0 := blk_frozen BK367.out 0; have hfz7_1 := blk_frozen BK367.out 1))
   go_ret
   exact ⟨by first | rfl | (simp [errW_none, errW_some] <;> rfl) | (simp [*, errW_none, errW_some] <;> rfl), by repeat (first | (with_reducible first | exact HB.out | apply below_alloc | apply pw_below_drewN | apply below_drew1 | refine below_set ?_ GE367.out) | exact HB.out)⟩
  ·rw [if_neg c5] at H
   have c5b0 : decide ((l0_1.length : Int) ≤ a1) = false := decide_eq_false c5
   clear c5
   replace H := Option.bind_eq_some_iff.mp H
   obtain ⟨t368, A80, H⟩ := H
   replace H : (some (t368.length : Int)) = some r := H
   have A8 := Aside0.mk A80
   clear A80
   obtain rfl := Option.some.inj H
   go_enter Try.func25, Try.ntmps25
   go_wp2_with (first | ((with_reducible refine gate_dst (N := 2) rfl ?_); (try (refine gate_guard (by rfl) ?_; dsimp only)); refine box_event ?hg (N := 2) ?hd (cs := #[.slice A0_0 l0_0.length c0_0, .slice A0_1 l0_1.length c0_1]) (t := 25) ?hr ?_; (case hd => rfl); (case hg => rfl); (case hr => first | (go_simp; done) | (go_simp; rfl)); intro gb367 hg w9 hbox hb; have n0_ := Aside0.mk (below_step (bb_ HB.out) hb); have n1_ := Aside0.mk (hbox); have n2_ := Aside0.mk ((by rw [hg]; exact (below_size (bb_ HB.out)) : w.heap.size ≤ gb367)); have n3_ := Aside0.mk ((by rw [hg]; exact (below_size (bb_ HB.out)) : w.heap.size ≤ gb367)); clear HB; have HB := n0_; have BK367 := n1_; have GW367 := n2_; have GE367 := n3_; clear n0_ n1_ n2_ n3_; clear hb hbox hg; have hcz10_0 : w9.cell? ⟨gb367, 0, none⟩ = some (.slice A0_0 l0_0.length c0_0) := (blk_cell BK367.out 0).trans rfl; have hcz10_1 : w9.cell? ⟨gb367, 1, none⟩ = some (.slice A0_1 l0_1.length c0_1) := (blk_cell BK367.out 1).trans rfl; have hfz10_0 := blk_frozen BK367.out 0; have hfz10_1 := blk_frozen BK367.out 1) | ((with_reducible refine gate_callee (f := 24) rfl ?_); refine goesL_ (some 16) rfl rfl Try.func24 (by kernel_rfl) rfl #[.agg #[.slice A0_0 l0_0.length c0_0, .slice A0_1 l0_1.length c0_1], .int .i64 a1] rfl ar_ ?_; (with_reducible refine (tree_Up.calls _ _ l0_0 _ _ l0_1 a1 t368 _ ?side1 ?side2 ?side3 ?side4 A8.out).mono ?_); (case side1 => repeat (first | exact (Kd.C_below HR0_0.out HB.out) | (with_reducible refine Kd.C_alloc ?_ _) | (with_reducible refine Kd.C_drewN ?_ _) | (with_reducible refine Kd.C_drew ?_))); (case side2 => exact HC0_0.out); (case side3 => repeat (first | exact (Kd.C_below HR0_1.out HB.out) | (with_reducible refine Kd.C_alloc ?_ _) | (with_reducible refine Kd.C_drewN ?_ _) | (with_reducible refine Kd.C_drew ?_))); (case side4 => exact HC0_1.out); rintro e w11 ⟨v369, rfl, ho0, hb⟩; refine ⟨_, rfl, ?_⟩; have n0_ := Aside0.mk (Kd.R_lower ho0 (below_size (bs_ HB.out GE367.out))); have n1_ := Aside0.mk (blk_below (g := gb367) (o := .cells #[.slice A0_0 l0_0.length c0_0, .slice A0_1 l0_1.length c0_1] 25 (0, 0)) (bk_ BK367.out) hb); have n2_ := Aside0.mk (below_step (bs_ HB.out GE367.out) hb); clear BK367; clear HB; have HO370 := n0_; have BK367 := n1_; have HB := n2_; clear n0_ n1_ n2_; (try clear hb); (try clear hb2); (try clear hk); (try clear hi); (try clear ho0); obtain ⟨Ao12, co12, eo12⟩ := Kd.R_slice HO370.out; subst eo12))
   go_ret
   exact ⟨by first | rfl | (simp [errW_none, errW_some] <;> rfl) | (simp [*, errW_none, errW_some] <;> rfl), by repeat (first | (with_reducible first | exact HB.out | apply below_alloc | apply pw_below_drewN | apply below_drew1 | refine below_set ?_ GE367.out) | exact HB.out)⟩
mutual
def tree_End.j0 : Nat → Int → Bool → List ByteArray → List (S52) → Option (Int)
 | 0, _, _, _, _ => none
 | k + 1, x1, x17, x372000, x372001 => if x17 = true then (some (-1)) else (if 0 ≤ (x372001.length : Int) then (if ((x372001.length : Int) : Int).toNat ≤ 281474976710656 then ((some (List.replicate ((x372001.length : Int) : Int).toNat false : List Bool)).bind fun y372 => (if 0 ≤ x1 then (if x1 < (y372.length : Int) then (tree_End.l0 k (wrap64 (x1 + 1)) (y372.set (x1 : Int).toNat true) (wrap64 (x1 + 1)) x372000 x372001) else (none)) else (none))) else (none)) else (none))
def tree_End.l0 : Nat → Int → List Bool → Int → List ByteArray → List (S52) → Option (Int)
 | 0, _, _, _, _, _ => none
 | k + 1, x5, x6, x7, x372000, x372001 => if x7 < (x372001.length : Int) then ((tree_Parent.f k x372000 x372001 x7).bind fun t376 => (if t376 ≥ 0 then (if 0 ≤ t376 then (if t376 < (x6.length : Int) then (if 0 ≤ x7 then (if x7 < (x6.length : Int) then ((some (x6.set (x7 : Int).toNat (rdOf false x6 t376) : List Bool)).bind fun y378 => (if rdOf false y378 x7 = true then (tree_End.l0 k (wrap64 (x7 + 1)) y378 (wrap64 (x7 + 1)) x372000 x372001) else (tree_End.l0 k x5 y378 (wrap64 (x7 + 1)) x372000 x372001))) else (none)) else (none)) else (none)) else (none)) else (if 0 ≤ x7 then (if x7 < (x6.length : Int) then ((some (x6.set (x7 : Int).toNat false : List Bool)).bind fun y380 => (if rdOf false y380 x7 = true then (tree_End.l0 k (wrap64 (x7 + 1)) y380 (wrap64 (x7 + 1)) x372000 x372001) else (tree_End.l0 k x5 y380 (wrap64 (x7 + 1)) x372000 x372001))) else (none)) else (none)))) else (some x5)
end
def tree_End.f (k : Nat) (l0_0 : List ByteArray) (l0_1 : List (S52)) (a1 : Int) : Option (Int) := if a1 < 0 then (tree_End.j0 k a1 true l0_0 l0_1) else (tree_End.j0 k a1 (decide (a1 ≥ (l0_1.length : Int))) l0_0 l0_1)
set_option maxHeartbeats 8000000 in
set_option maxRecDepth 100000 in
theorem tree_End.calls (k : Nat) (A0_0 : Option Addr) (c0_0 : Nat) (l0_0 : List ByteArray) (A0_1 : Option Addr) (c0_1 : Nat) (l0_1 : List (S52)) (a1 : Int) (r : Int) (w : World) (hr0_0 : Kd.C Kd.string w A0_0 l0_0.length l0_0) (hc0_0 : l0_0.length ≤ c0_0) (hr0_1 : Kd.C k52 w A0_1 l0_1.length l0_1) (hc0_1 : l0_1.length ≤ c0_1) (h : tree_End.f k l0_0 l0_1 a1 = some r) :
  Calls Try.prog 26 #[.agg #[.slice A0_0 l0_0.length c0_0, .slice A0_1 l0_1.length c0_1], .int .i64 a1] w fun e w' => e = .returned (.int .i64 r) ∧ Below w.heap.size w w' := by
 have hu25 := Try.underlying25
 have HR0_0 := Aside0.mk hr0_0
 have HC0_0 := Aside0.mk hc0_0
 clear hr0_0 hc0_0
 have HR0_1 := Aside0.mk hr0_1
 have HC0_1 := Aside0.mk hc0_1
 clear hr0_1 hc0_1
 have HB := Aside0.mk (Below.refl w.heap.size w)
 have H : (if a1 < 0 then (tree_End.j0 k a1 true l0_0 l0_1) else (tree_End.j0 k a1 (decide (a1 ≥ (l0_1.length : Int))) l0_0 l0_1)) = some r := h
 clear h
 have HC3 := Aside0.mk H
 clear H
 go_enter Try.func26, Try.ntmps26
 go_upto_region 1 with (first | ((with_reducible refine gate_dst (N := 2) rfl ?_); (try (refine gate_guard (by rfl) ?_; dsimp only)); refine box_event ?hg (N := 2) ?hd (cs := #[.slice A0_0 l0_0.length c0_0, .slice A0_1 l0_1.length c0_1]) (t := 25) ?hr ?_; (case hd => rfl); (case hg => rfl); (case hr => first | (go_simp; done) | (go_simp; rfl)); intro gb371 hg w4 hbox hb; have n0_ := Aside0.mk (below_step (bb_ HB.out) hb); have n1_ := Aside0.mk (hbox); have n2_ := Aside0.mk ((by rw [hg]; exact (below_size (bb_ HB.out)) : w.heap.size ≤ gb371)); have n3_ := Aside0.mk ((by rw [hg]; exact (below_size (bb_ HB.out)) : w.heap.size ≤ gb371)); clear HB; have HB := n0_; have BK371 := n1_; have GW371 := n2_; have GE371 := n3_; clear n0_ n1_ n2_ n3_; clear hb hbox hg))
 (try simp only [Act.put, List.setIfInBounds_toArray, List.set_cons_zero, List.set_cons_succ])
 go_cut [17] (fun v17 wc => ∃ (kq : Nat) (x17_2 : Bool), v17 = .bool x17_2 ∧ Aside0 (tree_End.j0 kq a1 x17_2 l0_0 l0_1 = some r) ∧ Aside0 (kq ≤ k) ∧ Aside0 (wc.heap[gb371]? = some (.cells #[(.slice A0_0 l0_0.length c0_0), (.slice A0_1 l0_1.length c0_1)] 25 (0, 0))) ∧ Aside0 (Below w.heap.size w wc))
 case first =>
  have H := HC3.out
  clear HC3
  by_cases c5 : a1 < 0
  ·rw [if_pos c5] at H
   have c5b0 : decide (a1 < 0) = true := decide_eq_true c5
   clear c5
   (first | rw [c5b0] | (simp only [i64_w, i32_w]; rw [c5b0]) | skip)
   have H' := Aside0.mk H
   clear H
   go_wp2
   go_meet
   case rel => exact ⟨_, (true), sm_, H', ⟨by first | omega | exact Nat.le_refl _⟩, ⟨by exact bk_ BK371.out⟩, ⟨by repeat (first | (with_reducible first | exact HB.out | apply below_alloc | apply pw_below_drewN | apply below_drew1 | refine below_set ?_ GE371.out) | exact HB.out)⟩⟩
  ·rw [if_neg c5] at H
   have c5b0 : decide (a1 < 0) = false := decide_eq_false c5
   clear c5
   (first | rw [c5b0] | (simp only [i64_w, i32_w]; rw [c5b0]) | skip)
   have H' := Aside0.mk H
   clear H
   have hcz6_0 : w4.cell? ⟨gb371, 0, none⟩ = some (.slice A0_0 l0_0.length c0_0) := (blk_cell BK371.out 0).trans rfl
   have hcz6_1 : w4.cell? ⟨gb371, 1, none⟩ = some (.slice A0_1 l0_1.length c0_1) := (blk_cell BK371.out 1).trans rfl
   have hfz6_0 := blk_frozen BK371.out 0
   have hfz6_1 := blk_frozen BK371.out 1
   go_wp2
   go_meet
   case rel => exact ⟨_, (decide (a1 ≥ (l0_1.length : Int))), sm_, H', ⟨by first | omega | exact Nat.le_refl _⟩, ⟨by exact bk_ BK371.out⟩, ⟨by repeat (first | (with_reducible first | exact HB.out | apply below_alloc | apply pw_below_drewN | apply below_drew1 | refine below_set ?_ GE371.out) | exact HB.out)⟩⟩
 case rest =>
  clear HC3
  try clear c2
  try clear p2
  try clear c5
  try clear c5b0
  try clear hcz6_0
  try clear hcz6_1
  try clear hfz6_0
  try clear hfz6_1
  obtain ⟨kq, x17_2, rfl, HA, HJ2, BK371, HB⟩ := hcut
  cases kq with
  | zero => exact absurd HA.out (by simp [tree_End.j0])
  | succ kj2 =>
   have H := HA.out
   clear HA
   simp only [tree_End.j0] at H
   by_cases c7 : x17_2 = true
   ·subst c7
    have H1 : (some (-1)) = some r := by rw [if_pos rfl] at H; exact H
    clear H
    have H := H1
    clear H1
    obtain rfl := Option.some.inj H
    go_wp2
    go_ret
    exact ⟨by first | rfl | (simp [errW_none, errW_some] <;> rfl) | (simp [*, errW_none, errW_some] <;> rfl), by repeat (first | (with_reducible first | exact HB.out | apply below_alloc | apply pw_below_drewN | apply below_drew1 | refine below_set ?_ GE371.out) | exact HB.out)⟩
   ·replace c7 := Bool.eq_false_iff.mpr c7
    subst c7
    have H1 : (if 0 ≤ (l0_1.length : Int) then (if ((l0_1.length : Int) : Int).toNat ≤ 281474976710656 then ((some (List.replicate ((l0_1.length : Int) : Int).toNat false : List Bool)).bind fun y372 => (if 0 ≤ a1 then (if a1 < (y372.length : Int) then (tree_End.l0 kj2 (wrap64 (a1 + 1)) (y372.set (a1 : Int).toNat true) (wrap64 (a1 + 1)) l0_0 l0_1) else (none)) else (none))) else (none)) else (none)) = some r := by rw [if_neg (show ¬ (false = true) by decide)] at H; exact H
    clear H
    have H := H1
    clear H1
    by_cases c8 : 0 ≤ (l0_1.length : Int)
    ·rw [if_pos c8] at H
     have c8b0 := eq_true c8
     have c8b1 : decide (0 ≤ (l0_1.length : Int)) = true := decide_eq_true c8
     clear c8
     by_cases c9 : ((l0_1.length : Int) : Int).toNat ≤ 281474976710656
     ·rw [if_pos c9] at H
      have c9b0 := eq_true c9
      have c9b1 : decide (((l0_1.length : Int) : Int).toNat ≤ 281474976710656) = true := decide_eq_true c9
      clear c9
      obtain ⟨y372, hy372⟩ : ∃ y_ : List Bool, y_ = (List.replicate ((l0_1.length : Int) : Int).toNat false) := ⟨_, rfl⟩
      replace H : (if 0 ≤ a1 then (if a1 < (y372.length : Int) then (tree_End.l0 kj2 (wrap64 (a1 + 1)) (y372.set (a1 : Int).toNat true) (wrap64 (a1 + 1)) l0_0 l0_1) else (none)) else (none)) = some r := by first | (rw [hy372]; with_reducible exact H) | (have H2_ := (Option.bind_some _ _).symm.trans H; rw [hy372]; with_reducible exact H2_) | (have H2_ := (Option.bind_some _ _).symm.trans H; with_reducible exact H2_) | with_reducible exact H | (rw [hy372]; exact H) | exact H
      have Ny372 := Aside0.mk hy372
      clear hy372
      by_cases c10 : 0 ≤ a1
      ·rw [if_pos c10] at H
       have c10b0 : decide (0 ≤ a1) = true := decide_eq_true c10
       clear c10
       by_cases c11 : a1 < (y372.length : Int)
       ·rw [if_pos c11] at H
        have c11b0 : decide (a1 < (y372.length : Int)) = true := decide_eq_true c11
        clear c11
        obtain ⟨y375, hy375⟩ : ∃ y_ : List Bool, y_ = (y372.set (a1 : Int).toNat true) := ⟨_, rfl⟩
        replace H : (tree_End.l0 kj2 (wrap64 (a1 + 1)) y375 (wrap64 (a1 + 1)) l0_0 l0_1) = some r := by first | (rw [hy375]; with_reducible exact H) | (have H2_ := (Option.bind_some _ _).symm.trans H; rw [hy375]; with_reducible exact H2_) | (have H2_ := (Option.bind_some _ _).symm.trans H; with_reducible exact H2_) | with_reducible exact H | (rw [hy375]; exact H) | exact H
        have Ny375 := Aside0.mk hy375
        clear hy375
        have H' := Aside0.mk H
        clear H
        have hcz13_0 : wc.cell? ⟨gb371, 0, none⟩ = some (.slice A0_0 l0_0.length c0_0) := (blk_cell BK371.out 0).trans rfl
        have hcz13_1 : wc.cell? ⟨gb371, 1, none⟩ = some (.slice A0_1 l0_1.length c0_1) := (blk_cell BK371.out 1).trans rfl
        have hfz13_0 := blk_frozen BK371.out 0
        have hfz13_1 := blk_frozen BK371.out 1
        go_wp2_with (first | ((with_reducible refine gate_dst (N := 23) rfl ?_); (try (refine gate_guard (by rfl) ?_; dsimp only)); refine Kd.R_make Kd.bool _ 4 rfl (N := 23) rfl 43 _ _ rfl (l0_1.length : Int) rfl rfl Try.underlying43 (.bool false) 1 info4 rfl (by decide) (by omega) false (ok := fun _ => True) (okp := fun _ => True) rfl (fun _ hk => hk) trivial (of_decide_eq_true as_) (Nat.le_trans (Nat.mul_le_mul_right _ (of_decide_eq_true as_ : (l0_1.length : Int).toNat ≤ 281474976710656)) (by omega)) (Below.refl _ _) (Nat.le_refl _) ?_; intro v373 w14 ho15 hb hg_ hnew_; clear hg_ hnew_; (first | rw [← Ny372.out] at ho15 | (simp only [Int.reduceToNat] at ho15; rw [← Ny372.out] at ho15)); have n0_ := Aside0.mk (Kd.R_lower ho15 (below_size (bs_ HB.out GE371.out))); have n1_ := Aside0.mk (blk_below (g := gb371) (o := .cells #[.slice A0_0 l0_0.length c0_0, .slice A0_1 l0_1.length c0_1] 25 (0, 0)) (bk_ BK371.out) hb); have n2_ := Aside0.mk (below_step (bs_ HB.out GE371.out) hb); clear BK371; clear HB; have HO374 := n0_; have BK371 := n1_; have HB := n2_; clear n0_ n1_ n2_; clear hb ho15; have p12 : 0 ≤ (a1 : Int) := of_decide_eq_true as_; have q12 : (a1 : Int) < ((y372.length : Int) : Int) := of_decide_eq_true as_; obtain ⟨go12, co12, eo12, gb12, gl12, cl12, HG12⟩ := Kd.R_form HO374.out (by omega); (first | cases eo12 | (injection eo12 with ea_ en_ ec_; (first | subst ea_ | (injection ea_ with ea_; subst ea_)); subst ec_; clear en_)); have GB12 := Aside0.mk gb12; have GG12 := Aside0.mk HG12; clear gb12 gl12 HG12; obtain ⟨hx12_0, hf12_0⟩ := Kd.R_celln false HO374.out (a1 : Int) p12 q12; replace p12 := eq_true p12; replace q12 := eq_true q12; obtain ⟨hy16_, hz16_⟩ := Kd.R_celln false HO374.out (a1 : Int) (of_decide_eq_true as_) (of_decide_eq_true as_); have HP16 := Kd.R_putg HO374.out (a1 : Int) true) | ((with_reducible refine gate_store (t := 4) (p := 26) rfl ?_); refine store_event (t := 4) (p := 26) (v := ?vo_w17) (w1 := (w14.setCell ⟨go12, (a1 : Int).toNat, none⟩ (.bool true))) ?hg ?ho ?hn ?hr ?_; (case ho => rfl); (case hg => rfl); (case hn => rfl); (case hr => first | (go_simp; done) | (go_simp; rfl)); intro w17 hw; have hg : w14.grownBy w17 (some go12) := (by rw [hw]; exact HP16.2); have hp_ : Kd.R Kd.bool 4 w17 w.heap.size (fun _ => True) (.slice (some ⟨go12, 0, none⟩) y372.length co12) y375 := (by rw [hw, Ny375.out]; exact HP16.1); clear HP16; have n0_ := Aside0.mk (blk_grown (g := gb371) (o := .cells #[.slice A0_0 l0_0.length c0_0, .slice A0_1 l0_1.length c0_1] 25 (0, 0)) (bk_ BK371.out) hg (Kd.R_ne HO374.out BK371.out (by decide))); have n1_ := Aside0.mk (hp_); have n2_ := Aside0.mk ((by rw [hw]; exact below_set (HB.out) GB12.out : Below w.heap.size w w17)); clear BK371; clear HO374; clear HB; have BK371 := n0_; have HO374 := n1_; have HB := n2_; clear n0_ n1_ n2_; clear hg hw hp_))
        go_loopg [5, 7] kj2 (fun kq v5 v7 w' => ∃ (x5_2 : Int) (x6_2 : List Bool) (x7_2 : Int), v5 = .int .i64 x5_2 ∧ v7 = .int .i64 x7_2 ∧ Aside0 (tree_End.l0 kq x5_2 x6_2 x7_2 l0_0 l0_1 = some r) ∧ Aside0 (kq ≤ kj2) ∧ Aside0 (Kd.R Kd.bool 4 w' w.heap.size (fun _ => True) (.slice (some ⟨go12, 0, none⟩) y372.length co12) x6_2) ∧ Aside0 (w'.heap[gb371]? = some (.cells #[(.slice A0_0 l0_0.length c0_0), (.slice A0_1 l0_1.length c0_1)] 25 (0, 0))) ∧ Aside0 (Below w.heap.size w w'))
        case atStart => exact ⟨(wrap64 (a1 + 1)), (y375), (wrap64 (a1 + 1)), sm_, sm_, H', ⟨Nat.le_refl _⟩, ⟨by exact rr_ HO374.out⟩, ⟨by exact bk_ BK371.out⟩, ⟨by repeat (first | (with_reducible first | exact HB.out | apply below_alloc | apply pw_below_drewN | apply below_drew1 | refine below_set ?_ GE371.out) | exact HB.out)⟩⟩
        case round =>
         clear H'
         try clear c1
         try clear p1
         try clear q1
         try clear hx1
         try clear c2
         try clear p2
         try clear c5
         try clear c5b0
         try clear p6
         try clear c7
         try clear c8
         try clear c8b0
         try clear c8b1
         try clear c9
         try clear c9b0
         try clear c9b1
         try clear c10
         try clear c10b0
         try clear c11
         try clear c11b0
         try clear p12
         try clear q12
         try clear hx12
         try clear hf12
         try clear hcz13_0
         try clear hcz13_1
         try clear hcz6_0
         try clear hcz6_1
         try clear hfz13_0
         try clear hfz13_1
         try clear hfz6_0
         try clear hfz6_1
         try clear hx12_0
         try clear p12
         try clear p2
         try clear q12
         obtain ⟨x5_2, x6_2, x7_2, rfl, rfl, HA, HK2, HO_6, BK371, HB⟩ := hrel
         have hl6_2 := (Kd.R_reads' HO_6.out).1
         rw [hl6_2] at HO_6
         (try simp only [hl6_2])
         (try simp only [hl6_2] at BK371)
         cases gk with
         | zero => exact absurd HA.out (by simp [tree_End.l0])
         | succ k2 =>
          have H := HA.out
          clear HA
          simp only [tree_End.l0] at H
          by_cases c18 : x7_2 < (l0_1.length : Int)
          ·rw [if_pos c18] at H
           have c18b0 : decide (x7_2 < (l0_1.length : Int)) = true := decide_eq_true c18
           clear c18
           replace H := Option.bind_eq_some_iff.mp H
           obtain ⟨t376, A190, H⟩ := H
           replace H : (if t376 ≥ 0 then (if 0 ≤ t376 then (if t376 < (x6_2.length : Int) then (if 0 ≤ x7_2 then (if x7_2 < (x6_2.length : Int) then ((some (x6_2.set (x7_2 : Int).toNat (rdOf false x6_2 t376) : List Bool)).bind fun y378 => (if rdOf false y378 x7_2 = true then (tree_End.l0 k2 (wrap64 (x7_2 + 1)) y378 (wrap64 (x7_2 + 1)) l0_0 l0_1) else (tree_End.l0 k2 x5_2 y378 (wrap64 (x7_2 + 1)) l0_0 l0_1))) else (none)) else (none)) else (none)) else (none)) else (if 0 ≤ x7_2 then (if x7_2 < (x6_2.length : Int) then ((some (x6_2.set (x7_2 : Int).toNat false : List Bool)).bind fun y380 => (if rdOf false y380 x7_2 = true then (tree_End.l0 k2 (wrap64 (x7_2 + 1)) y380 (wrap64 (x7_2 + 1)) l0_0 l0_1) else (tree_End.l0 k2 x5_2 y380 (wrap64 (x7_2 + 1)) l0_0 l0_1))) else (none)) else (none))) = some r := H
           have A19 := Aside0.mk A190
           clear A190
           by_cases c20 : t376 ≥ 0
           ·rw [if_pos c20] at H
            have c20b0 : decide (0 ≤ t376) = true := decide_eq_true c20
            clear c20
            by_cases c21 : 0 ≤ t376
            ·rw [if_pos c21] at H
             have c21b0 : decide (0 ≤ t376) = true := decide_eq_true c21
             clear c21
             by_cases c22 : t376 < (x6_2.length : Int)
             ·rw [if_pos c22] at H
              have c22b0 : decide (t376 < (x6_2.length : Int)) = true := decide_eq_true c22
              clear c22
              by_cases c23 : 0 ≤ x7_2
              ·rw [if_pos c23] at H
               have c23b0 : decide (0 ≤ x7_2) = true := decide_eq_true c23
               clear c23
               by_cases c24 : x7_2 < (x6_2.length : Int)
               ·rw [if_pos c24] at H
                have c24b0 : decide (x7_2 < (x6_2.length : Int)) = true := decide_eq_true c24
                clear c24
                obtain ⟨y378, hy378⟩ : ∃ y_ : List Bool, y_ = (x6_2.set (x7_2 : Int).toNat (rdOf false x6_2 t376)) := ⟨_, rfl⟩
                replace H : (if rdOf false y378 x7_2 = true then (tree_End.l0 k2 (wrap64 (x7_2 + 1)) y378 (wrap64 (x7_2 + 1)) l0_0 l0_1) else (tree_End.l0 k2 x5_2 y378 (wrap64 (x7_2 + 1)) l0_0 l0_1)) = some r := by first | (rw [hy378]; with_reducible exact H) | (have H2_ := (Option.bind_some _ _).symm.trans H; rw [hy378]; with_reducible exact H2_) | (have H2_ := (Option.bind_some _ _).symm.trans H; with_reducible exact H2_) | with_reducible exact H | (rw [hy378]; exact H) | exact H
                have Ny378 := Aside0.mk hy378
                clear hy378
                obtain ⟨bq26, hbq26⟩ : ∃ b_ : Bool, b_ = (rdOf false y378 x7_2) := ⟨_, rfl⟩
                replace H : (if bq26 = true then (tree_End.l0 k2 (wrap64 (x7_2 + 1)) y378 (wrap64 (x7_2 + 1)) l0_0 l0_1) else (tree_End.l0 k2 x5_2 y378 (wrap64 (x7_2 + 1)) l0_0 l0_1)) = some r := by rw [← hbq26] at H; exact H
                have Nbq26 := Aside0.mk hbq26
                clear hbq26
                by_cases c27 : bq26 = true
                ·subst c27
                 have H1 : (tree_End.l0 k2 (wrap64 (x7_2 + 1)) y378 (wrap64 (x7_2 + 1)) l0_0 l0_1) = some r := by rw [if_pos rfl] at H; exact H
                 clear H
                 have H := H1
                 clear H1
                 have H' := Aside0.mk H
                 clear H
                 have hcz28_0 : wr.cell? ⟨gb371, 0, none⟩ = some (.slice A0_0 l0_0.length c0_0) := (blk_cell BK371.out 0).trans rfl
                 have hcz28_1 : wr.cell? ⟨gb371, 1, none⟩ = some (.slice A0_1 l0_1.length c0_1) := (blk_cell BK371.out 1).trans rfl
                 have hfz28_0 := blk_frozen BK371.out 0
                 have hfz28_1 := blk_frozen BK371.out 1
                 go_wp2_with (first | ((with_reducible refine gate_callee (f := 17) rfl ?_); refine goesL_ (some 38) rfl rfl Try.func17 (by kernel_rfl) rfl #[.agg #[.slice A0_0 l0_0.length c0_0, .slice A0_1 l0_1.length c0_1], .int .i64 x7_2] rfl ar_ ?_; (with_reducible refine (tree_Parent.calls k2 _ _ l0_0 _ _ l0_1 x7_2 t376 _ ?side1 ?side2 ?side3 ?side4 A19.out).mono ?_); (case side1 => repeat (first | exact (Kd.C_below HR0_0.out HB.out) | (with_reducible refine Kd.C_alloc ?_ _) | (with_reducible refine Kd.C_drewN ?_ _) | (with_reducible refine Kd.C_drew ?_))); (case side2 => exact HC0_0.out); (case side3 => repeat (first | exact (Kd.C_below HR0_1.out HB.out) | (with_reducible refine Kd.C_alloc ?_ _) | (with_reducible refine Kd.C_drewN ?_ _) | (with_reducible refine Kd.C_drew ?_))); (case side4 => exact HC0_1.out); rintro e w29 ⟨rfl, hb⟩; refine ⟨_, rfl, ?_⟩; have n0_ := Aside0.mk (Kd.R_below (rr_ HO_6.out) hb); have n1_ := Aside0.mk (blk_below (g := gb371) (o := .cells #[.slice A0_0 l0_0.length c0_0, .slice A0_1 l0_1.length c0_1] 25 (0, 0)) (bk_ BK371.out) hb); have n2_ := Aside0.mk (below_step (bs_ HB.out GE371.out) hb); clear HO_6; clear BK371; clear HB; have HO_6 := n0_; have BK371 := n1_; have HB := n2_; clear n0_ n1_ n2_; (try clear hb); (try clear hb2); (try clear hk); (try clear hi); have p377 : 0 ≤ (t376 : Int) := of_decide_eq_true as_; have q377 : t376 < (x6_2.length : Int) := of_decide_eq_true as_; obtain ⟨ad377, e377, hx377_0⟩ := Kd.at_bool (Kd.R_reads' HO_6.out).2.2 t376 p377 q377; (try rw [← Nbq26.out] at hx377_0); obtain rfl : (⟨go12, 0, none⟩ : Addr) = ad377 := (by injection e377); (first | simp only [add_plain] at hx377_0 | simp only [add_at] at hx377_0 | simp only [Addr.add, Nat.zero_add] at hx377_0 | skip); replace p377 := eq_true p377; replace q377 := eq_true q377; have p25 : 0 ≤ (x7_2 : Int) := of_decide_eq_true as_; have q25 : (x7_2 : Int) < ((x6_2.length : Int) : Int) := of_decide_eq_true as_; obtain ⟨hx25_0, hf25_0⟩ := Kd.R_celln false HO_6.out (x7_2 : Int) p25 q25; replace p25 := eq_true p25; replace q25 := eq_true q25; obtain ⟨hy30_, hz30_⟩ := Kd.R_celln false HO_6.out (x7_2 : Int) (of_decide_eq_true as_) (of_decide_eq_true as_); have HP30 := Kd.R_putg HO_6.out (x7_2 : Int) (rdOf false x6_2 t376)) | ((with_reducible refine gate_store (t := 4) (p := 49) rfl ?_); refine store_event (t := 4) (p := 49) (v := ?vo_w31) (w1 := (w29.setCell ⟨go12, (x7_2 : Int).toNat, none⟩ (.bool (rdOf false x6_2 t376)))) ?hg ?ho ?hn ?hr ?_; (case ho => rfl); (case hg => rfl); (case hn => rfl); (case hr => first | (go_simp; done) | (go_simp; rfl)); intro w31 hw; have hg : w29.grownBy w31 (some go12) := (by rw [hw]; exact HP30.2); have hp_ : Kd.R Kd.bool 4 w31 w.heap.size (fun _ => True) (.slice (some ⟨go12, 0, none⟩) x6_2.length co12) y378 := (by rw [hw, Ny378.out]; exact HP30.1); clear HP30; have n0_ := Aside0.mk (hp_); have n1_ := Aside0.mk (blk_grown (g := gb371) (o := .cells #[.slice A0_0 l0_0.length c0_0, .slice A0_1 l0_1.length c0_1] 25 (0, 0)) (bk_ BK371.out) hg (Kd.R_ne HO_6.out BK371.out (by decide))); have n2_ := Aside0.mk ((by rw [hw]; exact below_set (HB.out) GB12.out : Below w.heap.size w w31)); clear HO_6; clear BK371; clear HB; have HO_6 := n0_; have BK371 := n1_; have HB := n2_; clear n0_ n1_ n2_; clear hg hw hp_; have p379 : 0 ≤ (x7_2 : Int) := of_decide_eq_true as_; have q379 : x7_2 < (y378.length : Int) := (by have h_ : (x7_2 : Int) < ((x6_2.length : Int) : Int) := of_decide_eq_true as_; first | (have e_ := (Kd.R_reads' HO_6.out).1; omega) | simpa only [Ny378.out, List.length_set] using h_); have ql379 : ((x7_2 : Int) < ((x6_2.length : Int) : Int)) = True := eq_true (of_decide_eq_true as_); obtain ⟨ad379, e379, hx379_0⟩ := Kd.at_bool (Kd.R_reads' HO_6.out).2.2 x7_2 p379 q379; (try rw [← Nbq26.out] at hx379_0); obtain rfl : (⟨go12, 0, none⟩ : Addr) = ad379 := (by injection e379); (first | simp only [add_plain] at hx379_0 | simp only [add_at] at hx379_0 | simp only [Addr.add, Nat.zero_add] at hx379_0 | skip); replace p379 := eq_true p379; replace q379 := eq_true q379))
                 (try simp only [← hl6_2])
                 go_roundg k2
                 case measure => have := HJ2.out; have := HK2.out; omega
                 case rel => exact ⟨(wrap64 (x7_2 + 1)), (y378), (wrap64 (x7_2 + 1)), sm_, sm_, H', ⟨by have := HJ2.out; have := HK2.out; omega⟩, ⟨by (try simp only [hl6_2]); exact rr_ HO_6.out⟩, ⟨by (try simp only [hl6_2]); exact bk_ BK371.out⟩, ⟨by repeat (first | (with_reducible first | exact HB.out | apply below_alloc | apply pw_below_drewN | apply below_drew1 | refine below_set ?_ GE371.out) | exact HB.out)⟩⟩
                ·replace c27 := Bool.eq_false_iff.mpr c27
                 subst c27
                 have H1 : (tree_End.l0 k2 x5_2 y378 (wrap64 (x7_2 + 1)) l0_0 l0_1) = some r := by rw [if_neg (show ¬ (false = true) by decide)] at H; exact H
                 clear H
                 have H := H1
                 clear H1
                 have H' := Aside0.mk H
                 clear H
                 have hcz32_0 : wr.cell? ⟨gb371, 0, none⟩ = some (.slice A0_0 l0_0.length c0_0) := (blk_cell BK371.out 0).trans rfl
                 have hcz32_1 : wr.cell? ⟨gb371, 1, none⟩ = some (.slice A0_1 l0_1.length c0_1) := (blk_cell BK371.out 1).trans rfl
                 have hfz32_0 := blk_frozen BK371.out 0
                 have hfz32_1 := blk_frozen BK371.out 1
                 go_wp2_with (first | ((with_reducible refine gate_callee (f := 17) rfl ?_); refine goesL_ (some 38) rfl rfl Try.func17 (by kernel_rfl) rfl #[.agg #[.slice A0_0 l0_0.length c0_0, .slice A0_1 l0_1.length c0_1], .int .i64 x7_2] rfl ar_ ?_; (with_reducible refine (tree_Parent.calls k2 _ _ l0_0 _ _ l0_1 x7_2 t376 _ ?side1 ?side2 ?side3 ?side4 A19.out).mono ?_); (case side1 => repeat (first | exact (Kd.C_below HR0_0.out HB.out) | (with_reducible refine Kd.C_alloc ?_ _) | (with_reducible refine Kd.C_drewN ?_ _) | (with_reducible refine Kd.C_drew ?_))); (case side2 => exact HC0_0.out); (case side3 => repeat (first | exact (Kd.C_below HR0_1.out HB.out) | (with_reducible refine Kd.C_alloc ?_ _) | (with_reducible refine Kd.C_drewN ?_ _) | (with_reducible refine Kd.C_drew ?_))); (case side4 => exact HC0_1.out); rintro e w33 ⟨rfl, hb⟩; refine ⟨_, rfl, ?_⟩; have n0_ := Aside0.mk (Kd.R_below (rr_ HO_6.out) hb); have n1_ := Aside0.mk (blk_below (g := gb371) (o := .cells #[.slice A0_0 l0_0.length c0_0, .slice A0_1 l0_1.length c0_1] 25 (0, 0)) (bk_ BK371.out) hb); have n2_ := Aside0.mk (below_step (bs_ HB.out GE371.out) hb); clear HO_6; clear BK371; clear HB; have HO_6 := n0_; have BK371 := n1_; have HB := n2_; clear n0_ n1_ n2_; (try clear hb); (try clear hb2); (try clear hk); (try clear hi); have p377 : 0 ≤ (t376 : Int) := of_decide_eq_true as_; have q377 : t376 < (x6_2.length : Int) := of_decide_eq_true as_; obtain ⟨ad377, e377, hx377_0⟩ := Kd.at_bool (Kd.R_reads' HO_6.out).2.2 t376 p377 q377; (try rw [← Nbq26.out] at hx377_0); obtain rfl : (⟨go12, 0, none⟩ : Addr) = ad377 := (by injection e377); (first | simp only [add_plain] at hx377_0 | simp only [add_at] at hx377_0 | simp only [Addr.add, Nat.zero_add] at hx377_0 | skip); replace p377 := eq_true p377; replace q377 := eq_true q377; have p25 : 0 ≤ (x7_2 : Int) := of_decide_eq_true as_; have q25 : (x7_2 : Int) < ((x6_2.length : Int) : Int) := of_decide_eq_true as_; obtain ⟨hx25_0, hf25_0⟩ := Kd.R_celln false HO_6.out (x7_2 : Int) p25 q25; replace p25 := eq_true p25; replace q25 := eq_true q25; obtain ⟨hy34_, hz34_⟩ := Kd.R_celln false HO_6.out (x7_2 : Int) (of_decide_eq_true as_) (of_decide_eq_true as_); have HP34 := Kd.R_putg HO_6.out (x7_2 : Int) (rdOf false x6_2 t376)) | ((with_reducible refine gate_store (t := 4) (p := 49) rfl ?_); refine store_event (t := 4) (p := 49) (v := ?vo_w35) (w1 := (w33.setCell ⟨go12, (x7_2 : Int).toNat, none⟩ (.bool (rdOf false x6_2 t376)))) ?hg ?ho ?hn ?hr ?_; (case ho => rfl); (case hg => rfl); (case hn => rfl); (case hr => first | (go_simp; done) | (go_simp; rfl)); intro w35 hw; have hg : w33.grownBy w35 (some go12) := (by rw [hw]; exact HP34.2); have hp_ : Kd.R Kd.bool 4 w35 w.heap.size (fun _ => True) (.slice (some ⟨go12, 0, none⟩) x6_2.length co12) y378 := (by rw [hw, Ny378.out]; exact HP34.1); clear HP34; have n0_ := Aside0.mk (hp_); have n1_ := Aside0.mk (blk_grown (g := gb371) (o := .cells #[.slice A0_0 l0_0.length c0_0, .slice A0_1 l0_1.length c0_1] 25 (0, 0)) (bk_ BK371.out) hg (Kd.R_ne HO_6.out BK371.out (by decide))); have n2_ := Aside0.mk ((by rw [hw]; exact below_set (HB.out) GB12.out : Below w.heap.size w w35)); clear HO_6; clear BK371; clear HB; have HO_6 := n0_; have BK371 := n1_; have HB := n2_; clear n0_ n1_ n2_; clear hg hw hp_; have p379 : 0 ≤ (x7_2 : Int) := of_decide_eq_true as_; have q379 : x7_2 < (y378.length : Int) := (by have h_ : (x7_2 : Int) < ((x6_2.length : Int) : Int) := of_decide_eq_true as_; first | (have e_ := (Kd.R_reads' HO_6.out).1; omega) | simpa only [Ny378.out, List.length_set] using h_); have ql379 : ((x7_2 : Int) < ((x6_2.length : Int) : Int)) = True := eq_true (of_decide_eq_true as_); obtain ⟨ad379, e379, hx379_0⟩ := Kd.at_bool (Kd.R_reads' HO_6.out).2.2 x7_2 p379 q379; (try rw [← Nbq26.out] at hx379_0); obtain rfl : (⟨go12, 0, none⟩ : Addr) = ad379 := (by injection e379); (first | simp only [add_plain] at hx379_0 | simp only [add_at] at hx379_0 | simp only [Addr.add, Nat.zero_add] at hx379_0 | skip); replace p379 := eq_true p379; replace q379 := eq_true q379))
                 (try simp only [← hl6_2])
                 go_roundg k2
                 case measure => have := HJ2.out; have := HK2.out; omega
                 case rel => exact ⟨(x5_2), (y378), (wrap64 (x7_2 + 1)), sm_, sm_, H', ⟨by have := HJ2.out; have := HK2.out; omega⟩, ⟨by (try simp only [hl6_2]); exact rr_ HO_6.out⟩, ⟨by (try simp only [hl6_2]); exact bk_ BK371.out⟩, ⟨by repeat (first | (with_reducible first | exact HB.out | apply below_alloc | apply pw_below_drewN | apply below_drew1 | refine below_set ?_ GE371.out) | exact HB.out)⟩⟩
               ·rw [if_neg c24] at H
                exact absurd H (by simp)
              ·rw [if_neg c23] at H
               exact absurd H (by simp)
             ·rw [if_neg c22] at H
              exact absurd H (by simp)
            ·rw [if_neg c21] at H
             exact absurd H (by simp)
           ·rw [if_neg c20] at H
            have c20b0 : decide (0 ≤ t376) = false := decide_eq_false c20
            clear c20
            by_cases c36 : 0 ≤ x7_2
            ·rw [if_pos c36] at H
             have c36b0 : decide (0 ≤ x7_2) = true := decide_eq_true c36
             clear c36
             by_cases c37 : x7_2 < (x6_2.length : Int)
             ·rw [if_pos c37] at H
              have c37b0 : decide (x7_2 < (x6_2.length : Int)) = true := decide_eq_true c37
              clear c37
              obtain ⟨y380, hy380⟩ : ∃ y_ : List Bool, y_ = (x6_2.set (x7_2 : Int).toNat false) := ⟨_, rfl⟩
              replace H : (if rdOf false y380 x7_2 = true then (tree_End.l0 k2 (wrap64 (x7_2 + 1)) y380 (wrap64 (x7_2 + 1)) l0_0 l0_1) else (tree_End.l0 k2 x5_2 y380 (wrap64 (x7_2 + 1)) l0_0 l0_1)) = some r := by first | (rw [hy380]; with_reducible exact H) | (have H2_ := (Option.bind_some _ _).symm.trans H; rw [hy380]; with_reducible exact H2_) | (have H2_ := (Option.bind_some _ _).symm.trans H; with_reducible exact H2_) | with_reducible exact H | (rw [hy380]; exact H) | exact H
              have Ny380 := Aside0.mk hy380
              clear hy380
              obtain ⟨bq39, hbq39⟩ : ∃ b_ : Bool, b_ = (rdOf false y380 x7_2) := ⟨_, rfl⟩
              replace H : (if bq39 = true then (tree_End.l0 k2 (wrap64 (x7_2 + 1)) y380 (wrap64 (x7_2 + 1)) l0_0 l0_1) else (tree_End.l0 k2 x5_2 y380 (wrap64 (x7_2 + 1)) l0_0 l0_1)) = some r := by rw [← hbq39] at H; exact H
              have Nbq39 := Aside0.mk hbq39
              clear hbq39
              by_cases c40 : bq39 = true
              ·subst c40
               have H1 : (tree_End.l0 k2 (wrap64 (x7_2 + 1)) y380 (wrap64 (x7_2 + 1)) l0_0 l0_1) = some r := by rw [if_pos rfl] at H; exact H
               clear H
               have H := H1
               clear H1
               have H' := Aside0.mk H
               clear H
               have hcz41_0 : wr.cell? ⟨gb371, 0, none⟩ = some (.slice A0_0 l0_0.length c0_0) := (blk_cell BK371.out 0).trans rfl
               have hcz41_1 : wr.cell? ⟨gb371, 1, none⟩ = some (.slice A0_1 l0_1.length c0_1) := (blk_cell BK371.out 1).trans rfl
               have hfz41_0 := blk_frozen BK371.out 0
               have hfz41_1 := blk_frozen BK371.out 1
               go_wp2_with (first | ((with_reducible refine gate_callee (f := 17) rfl ?_); refine goesL_ (some 38) rfl rfl Try.func17 (by kernel_rfl) rfl #[.agg #[.slice A0_0 l0_0.length c0_0, .slice A0_1 l0_1.length c0_1], .int .i64 x7_2] rfl ar_ ?_; (with_reducible refine (tree_Parent.calls k2 _ _ l0_0 _ _ l0_1 x7_2 t376 _ ?side1 ?side2 ?side3 ?side4 A19.out).mono ?_); (case side1 => repeat (first | exact (Kd.C_below HR0_0.out HB.out) | (with_reducible refine Kd.C_alloc ?_ _) | (with_reducible refine Kd.C_drewN ?_ _) | (with_reducible refine Kd.C_drew ?_))); (case side2 => exact HC0_0.out); (case side3 => repeat (first | exact (Kd.C_below HR0_1.out HB.out) | (with_reducible refine Kd.C_alloc ?_ _) | (with_reducible refine Kd.C_drewN ?_ _) | (with_reducible refine Kd.C_drew ?_))); (case side4 => exact HC0_1.out); rintro e w42 ⟨rfl, hb⟩; refine ⟨_, rfl, ?_⟩; have n0_ := Aside0.mk (Kd.R_below (rr_ HO_6.out) hb); have n1_ := Aside0.mk (blk_below (g := gb371) (o := .cells #[.slice A0_0 l0_0.length c0_0, .slice A0_1 l0_1.length c0_1] 25 (0, 0)) (bk_ BK371.out) hb); have n2_ := Aside0.mk (below_step (bs_ HB.out GE371.out) hb); clear HO_6; clear BK371; clear HB; have HO_6 := n0_; have BK371 := n1_; have HB := n2_; clear n0_ n1_ n2_; (try clear hb); (try clear hb2); (try clear hk); (try clear hi); have p38 : 0 ≤ (x7_2 : Int) := of_decide_eq_true as_; have q38 : (x7_2 : Int) < ((x6_2.length : Int) : Int) := of_decide_eq_true as_; obtain ⟨hx38_0, hf38_0⟩ := Kd.R_celln false HO_6.out (x7_2 : Int) p38 q38; replace p38 := eq_true p38; replace q38 := eq_true q38; obtain ⟨hy43_, hz43_⟩ := Kd.R_celln false HO_6.out (x7_2 : Int) (of_decide_eq_true as_) (of_decide_eq_true as_); have HP43 := Kd.R_putg HO_6.out (x7_2 : Int) false) | ((with_reducible refine gate_store (t := 4) (p := 49) rfl ?_); refine store_event (t := 4) (p := 49) (v := ?vo_w44) (w1 := (w42.setCell ⟨go12, (x7_2 : Int).toNat, none⟩ (.bool false))) ?hg ?ho ?hn ?hr ?_; (case ho => rfl); (case hg => rfl); (case hn => rfl); (case hr => first | (go_simp; done) | (go_simp; rfl)); intro w44 hw; have hg : w42.grownBy w44 (some go12) := (by rw [hw]; exact HP43.2); have hp_ : Kd.R Kd.bool 4 w44 w.heap.size (fun _ => True) (.slice (some ⟨go12, 0, none⟩) x6_2.length co12) y380 := (by rw [hw, Ny380.out]; exact HP43.1); clear HP43; have n0_ := Aside0.mk (hp_); have n1_ := Aside0.mk (blk_grown (g := gb371) (o := .cells #[.slice A0_0 l0_0.length c0_0, .slice A0_1 l0_1.length c0_1] 25 (0, 0)) (bk_ BK371.out) hg (Kd.R_ne HO_6.out BK371.out (by decide))); have n2_ := Aside0.mk ((by rw [hw]; exact below_set (HB.out) GB12.out : Below w.heap.size w w44)); clear HO_6; clear BK371; clear HB; have HO_6 := n0_; have BK371 := n1_; have HB := n2_; clear n0_ n1_ n2_; clear hg hw hp_; have p381 : 0 ≤ (x7_2 : Int) := of_decide_eq_true as_; have q381 : x7_2 < (y380.length : Int) := (by have h_ : (x7_2 : Int) < ((x6_2.length : Int) : Int) := of_decide_eq_true as_; first | (have e_ := (Kd.R_reads' HO_6.out).1; omega) | simpa only [Ny380.out, List.length_set] using h_); have ql381 : ((x7_2 : Int) < ((x6_2.length : Int) : Int)) = True := eq_true (of_decide_eq_true as_); obtain ⟨ad381, e381, hx381_0⟩ := Kd.at_bool (Kd.R_reads' HO_6.out).2.2 x7_2 p381 q381; (try rw [← Nbq39.out] at hx381_0); obtain rfl : (⟨go12, 0, none⟩ : Addr) = ad381 := (by injection e381); (first | simp only [add_plain] at hx381_0 | simp only [add_at] at hx381_0 | simp only [Addr.add, Nat.zero_add] at hx381_0 | skip); replace p381 := eq_true p381; replace q381 := eq_true q381))
               (try simp only [← hl6_2])
               go_roundg k2
               case measure => have := HJ2.out; have := HK2.out; omega
               case rel => exact ⟨(wrap64 (x7_2 + 1)), (y380), (wrap64 (x7_2 + 1)), sm_, sm_, H', ⟨by have := HJ2.out; have := HK2.out; omega⟩, ⟨by (try simp only [hl6_2]); exact rr_ HO_6.out⟩, ⟨by (try simp only [hl6_2]); exact bk_ BK371.out⟩, ⟨by repeat (first | (with_reducible first | exact HB.out | apply below_alloc | apply pw_below_drewN | apply below_drew1 | refine below_set ?_ GE371.out) | exact HB.out)⟩⟩
              ·replace c40 := Bool.eq_false_iff.mpr c40
               subst c40
               have H1 : (tree_End.l0 k2 x5_2 y380 (wrap64 (x7_2 + 1)) l0_0 l0_1) = some r := by rw [if_neg (show ¬ (false = true) by decide)] at H; exact H
               clear H
               have H := H1
               clear H1
               have H' := Aside0.mk H
               clear H
               have hcz45_0 : wr.cell? ⟨gb371, 0, none⟩ = some (.slice A0_0 l0_0.length c0_0) := (blk_cell BK371.out 0).trans rfl
               have hcz45_1 : wr.cell? ⟨gb371, 1, none⟩ = some (.slice A0_1 l0_1.length c0_1) := (blk_cell BK371.out 1).trans rfl
               have hfz45_0 := blk_frozen BK371.out 0
               have hfz45_1 := blk_frozen BK371.out 1
               go_wp2_with (first | ((with_reducible refine gate_callee (f := 17) rfl ?_); refine goesL_ (some 38) rfl rfl Try.func17 (by kernel_rfl) rfl #[.agg #[.slice A0_0 l0_0.length c0_0, .slice A0_1 l0_1.length c0_1], .int .i64 x7_2] rfl ar_ ?_; (with_reducible refine (tree_Parent.calls k2 _ _ l0_0 _ _ l0_1 x7_2 t376 _ ?side1 ?side2 ?side3 ?side4 A19.out).mono ?_); (case side1 => repeat (first | exact (Kd.C_below HR0_0.out HB.out) | (with_reducible refine Kd.C_alloc ?_ _) | (with_reducible refine Kd.C_drewN ?_ _) | (with_reducible refine Kd.C_drew ?_))); (case side2 => exact HC0_0.out); (case side3 => repeat (first | exact (Kd.C_below HR0_1.out HB.out) | (with_reducible refine Kd.C_alloc ?_ _) | (with_reducible refine Kd.C_drewN ?_ _) | (with_reducible refine Kd.C_drew ?_))); (case side4 => exact HC0_1.out); rintro e w46 ⟨rfl, hb⟩; refine ⟨_, rfl, ?_⟩; have n0_ := Aside0.mk (Kd.R_below (rr_ HO_6.out) hb); have n1_ := Aside0.mk (blk_below (g := gb371) (o := .cells #[.slice A0_0 l0_0.length c0_0, .slice A0_1 l0_1.length c0_1] 25 (0, 0)) (bk_ BK371.out) hb); have n2_ := Aside0.mk (below_step (bs_ HB.out GE371.out) hb); clear HO_6; clear BK371; clear HB; have HO_6 := n0_; have BK371 := n1_; have HB := n2_; clear n0_ n1_ n2_; (try clear hb); (try clear hb2); (try clear hk); (try clear hi); have p38 : 0 ≤ (x7_2 : Int) := of_decide_eq_true as_; have q38 : (x7_2 : Int) < ((x6_2.length : Int) : Int) := of_decide_eq_true as_; obtain ⟨hx38_0, hf38_0⟩ := Kd.R_celln false HO_6.out (x7_2 : Int) p38 q38; replace p38 := eq_true p38; replace q38 := eq_true q38; obtain ⟨hy47_, hz47_⟩ := Kd.R_celln false HO_6.out (x7_2 : Int) (of_decide_eq_true as_) (of_decide_eq_true as_); have HP47 := Kd.R_putg HO_6.out (x7_2 : Int) false) | ((with_reducible refine gate_store (t := 4) (p := 49) rfl ?_); refine store_event (t := 4) (p := 49) (v := ?vo_w48) (w1 := (w46.setCell ⟨go12, (x7_2 : Int).toNat, none⟩ (.bool false))) ?hg ?ho ?hn ?hr ?_; (case ho => rfl); (case hg => rfl); (case hn => rfl); (case hr => first | (go_simp; done) | (go_simp; rfl)); intro w48 hw; have hg : w46.grownBy w48 (some go12) := (by rw [hw]; exact HP47.2); have hp_ : Kd.R Kd.bool 4 w48 w.heap.size (fun _ => True) (.slice (some ⟨go12, 0, none⟩) x6_2.length co12) y380 := (by rw [hw, Ny380.out]; exact HP47.1); clear HP47; have n0_ := Aside0.mk (hp_); have n1_ := Aside0.mk (blk_grown (g := gb371) (o := .cells #[.slice A0_0 l0_0.length c0_0, .slice A0_1 l0_1.length c0_1] 25 (0, 0)) (bk_ BK371.out) hg (Kd.R_ne HO_6.out BK371.out (by decide))); have n2_ := Aside0.mk ((by rw [hw]; exact below_set (HB.out) GB12.out : Below w.heap.size w w48)); clear HO_6; clear BK371; clear HB; have HO_6 := n0_; have BK371 := n1_; have HB := n2_; clear n0_ n1_ n2_; clear hg hw hp_; have p381 : 0 ≤ (x7_2 : Int) := of_decide_eq_true as_; have q381 : x7_2 < (y380.length : Int) := (by have h_ : (x7_2 : Int) < ((x6_2.length : Int) : Int) := of_decide_eq_true as_; first | (have e_ := (Kd.R_reads' HO_6.out).1; omega) | simpa only [Ny380.out, List.length_set] using h_); have ql381 : ((x7_2 : Int) < ((x6_2.length : Int) : Int)) = True := eq_true (of_decide_eq_true as_); obtain ⟨ad381, e381, hx381_0⟩ := Kd.at_bool (Kd.R_reads' HO_6.out).2.2 x7_2 p381 q381; (try rw [← Nbq39.out] at hx381_0); obtain rfl : (⟨go12, 0, none⟩ : Addr) = ad381 := (by injection e381); (first | simp only [add_plain] at hx381_0 | simp only [add_at] at hx381_0 | simp only [Addr.add, Nat.zero_add] at hx381_0 | skip); replace p381 := eq_true p381; replace q381 := eq_true q381))
               (try simp only [← hl6_2])
               go_roundg k2
               case measure => have := HJ2.out; have := HK2.out; omega
               case rel => exact ⟨(x5_2), (y380), (wrap64 (x7_2 + 1)), sm_, sm_, H', ⟨by have := HJ2.out; have := HK2.out; omega⟩, ⟨by (try simp only [hl6_2]); exact rr_ HO_6.out⟩, ⟨by (try simp only [hl6_2]); exact bk_ BK371.out⟩, ⟨by repeat (first | (with_reducible first | exact HB.out | apply below_alloc | apply pw_below_drewN | apply below_drew1 | refine below_set ?_ GE371.out) | exact HB.out)⟩⟩
             ·rw [if_neg c37] at H
              exact absurd H (by simp)
            ·rw [if_neg c36] at H
             exact absurd H (by simp)
          ·rw [if_neg c18] at H
           have c18b0 : decide (x7_2 < (l0_1.length : Int)) = false := decide_eq_false c18
           clear c18
           obtain rfl := Option.some.inj H
           have hcz49_0 : wr.cell? ⟨gb371, 0, none⟩ = some (.slice A0_0 l0_0.length c0_0) := (blk_cell BK371.out 0).trans rfl
           have hcz49_1 : wr.cell? ⟨gb371, 1, none⟩ = some (.slice A0_1 l0_1.length c0_1) := (blk_cell BK371.out 1).trans rfl
           have hfz49_0 := blk_frozen BK371.out 0
           have hfz49_1 := blk_frozen BK371.out 1
           go_wp2
           go_ret
           exact ⟨by first | rfl | (simp [errW_none, errW_some] <;> rfl) | (simp [*, errW_none, errW_some] <;> rfl), by repeat (first | (with_reducible first | exact HB.out | apply below_alloc | apply pw_below_drewN | apply below_drew1 | refine below_set ?_ GE371.out) | exact HB.out)⟩
       ·rw [if_neg c11] at H
        exact absurd H (by simp)
      ·rw [if_neg c10] at H
       exact absurd H (by simp)
     ·rw [if_neg c9] at H
      exact absurd H (by simp)
    ·rw [if_neg c8] at H
     exact absurd H (by simp)
end Go.Proofs.Ytoanmoddppmffaa.T
