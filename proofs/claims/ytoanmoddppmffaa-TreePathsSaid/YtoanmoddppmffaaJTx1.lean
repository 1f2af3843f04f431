/- What each function of the program comes to, and its walk: laid by a program. -/
import Derived.Test.YtoanmoddppmffaaJTx0
namespace Go.Proofs.Ytoanmoddppmffaa.T
open Go.RowKit Go.Proofs.YtoanmoddppmffaaW.PrintWords Go.Proofs.YtoanmoddppmffaaW.PrintLast Go.Proofs.YtoanmoddppmffaaW.PrintMore
set_option linter.unusedVariables false
set_option linter.unusedSimpArgs false
def topiaryref02_Same.l0 : Nat → List Int → List Int → Int → Option (Bool)
 | 0, _, _, _ => none
 | k + 1, x0, x1, x5 => if x5 < (x0.length : Int) then (if 0 ≤ x5 then (if x5 < (x1.length : Int) then (if (rd x0 x5) = (rd x1 x5) then (topiaryref02_Same.l0 k x0 x1 (wrap64 (x5 + 1))) else (some false)) else (none)) else (none)) else (some true)
def topiaryref02_Same.f (k : Nat) (l0 : List Int) (l1 : List Int) : Option (Bool) := if (l0.length : Int) = (l1.length : Int) then (topiaryref02_Same.l0 k l0 l1 0) else (some false)
theorem topiaryref02_Same.mono_l : ∀ k, (∀ y0 y1 y2, LeO (topiaryref02_Same.l0 k y0 y1 y2) (topiaryref02_Same.l0 (k + 1) y0 y1 y2))
 | 0 => fun _ _ _ r h => by simp [topiaryref02_Same.l0] at h
 | k + 1 => by
  have ih0 := topiaryref02_Same.mono_l k
  ·intro y0 y1 y2
   unfold topiaryref02_Same.l0
   repeat' first
   | (with_reducible exact ih0 _ _ _)
   | (with_reducible exact LeO.refl _)
   | (with_reducible exact LeO.none _)
   | (with_reducible refine LeO.ite ?_ ?_)
   | (with_reducible refine LeO.bind ?_ (fun _ => ?_))
   | exact ih0 _ _ _
   | exact LeO.none _
   | refine LeO.ite ?_ ?_
   | refine LeO.bind ?_ (fun _ => ?_)
theorem topiaryref02_Same.mono : ∀ a0 a1 k, LeO (topiaryref02_Same.f k a0 a1) (topiaryref02_Same.f (k + 1) a0 a1) := by
 intro a0 a1 k
 have ih0 := topiaryref02_Same.mono_l k
 unfold topiaryref02_Same.f
 repeat' first
   | (with_reducible exact ih0 _ _ _)
   | (with_reducible exact LeO.refl _)
   | (with_reducible exact LeO.none _)
   | (with_reducible refine LeO.ite ?_ ?_)
   | (with_reducible refine LeO.bind ?_ (fun _ => ?_))
   | exact ih0 _ _ _
   | exact LeO.none _
   | refine LeO.ite ?_ ?_
   | refine LeO.bind ?_ (fun _ => ?_)
set_option maxHeartbeats 8000000 in
set_option maxRecDepth 100000 in
theorem topiaryref02_Same.calls (k : Nat) (A0 : Option Addr) (c0 : Nat) (l0 : List Int) (A1 : Option Addr) (c1 : Nat) (l1 : List Int) (r : Bool) (w : World) (hr0 : Kd.C (Kd.int .i64) w A0 l0.length l0) (hc0 : l0.length ≤ c0) (hr1 : Kd.C (Kd.int .i64) w A1 l1.length l1) (hc1 : l1.length ≤ c1) (h : topiaryref02_Same.f k l0 l1 = some r) :
  Calls Try.prog 13 #[.slice A0 l0.length c0, .slice A1 l1.length c1] w fun e w' => e = .returned (.bool r) ∧ Drawn0 w w' := by
 have HR0 := Aside0.mk hr0
 have HC0 := Aside0.mk hc0
 clear hr0 hc0
 have HR1 := Aside0.mk hr1
 have HC1 := Aside0.mk hc1
 clear hr1 hc1
 have H : (if (l0.length : Int) = (l1.length : Int) then (topiaryref02_Same.l0 k l0 l1 0) else (some false)) = some r := h
 clear h
 by_cases c3 : (l0.length : Int) = (l1.length : Int)
 ·rw [if_pos c3] at H
  have c3b0 : ((l0.length : Int) == (l1.length : Int)) = true := beq_iff_eq.mpr c3
  have c3b1 : ((l0.length : Int) != (l1.length : Int)) = false := bne_eq_false_iff_eq.mpr c3
  have c3b2 : (l0.length == l1.length) = true := by first | simpa using c3 | (simp at c3 ⊢; omega)
  clear c3
  have H' := Aside0.mk H
  clear H
  go_enter Try.func13, Try.ntmps13
  go_wp2
  repeat (go_quiet (fail); try go_wp2)
  go_loopg [5] k (fun kq v5 w' => ∃ (x5_1 : Int), v5 = .int .i64 x5_1 ∧ Aside0 (topiaryref02_Same.l0 kq l0 l1 x5_1 = some r) ∧ Aside0 (kq ≤ k) ∧ Drawn0 w w')
  case atStart => exact ⟨(0), sm_, H', ⟨Nat.le_refl _⟩, dd_⟩
  case round =>
   clear H'
   try clear c1
   try clear p2
   try clear c3
   try clear c3b0
   try clear c3b1
   try clear c3b2
   obtain ⟨x5_1, rfl, HA, HK1, ⟨m1, rfl⟩⟩ := hrel
   cases gk with
   | zero => exact absurd HA.out (by simp [topiaryref02_Same.l0])
   | succ k1 =>
    have H := HA.out
    clear HA
    simp only [topiaryref02_Same.l0] at H
    by_cases c4 : x5_1 < (l0.length : Int)
    ·rw [if_pos c4] at H
     have c4b0 : decide (x5_1 < (l0.length : Int)) = true := decide_eq_true c4
     clear c4
     by_cases c5 : 0 ≤ x5_1
     ·rw [if_pos c5] at H
      have c5b0 : decide (0 ≤ x5_1) = true := decide_eq_true c5
      clear c5
      by_cases c6 : x5_1 < (l1.length : Int)
      ·rw [if_pos c6] at H
       have c6b0 : decide (x5_1 < (l1.length : Int)) = true := decide_eq_true c6
       clear c6
       by_cases c7 : (rd l0 x5_1) = (rd l1 x5_1)
       ·rw [if_pos c7] at H
        have c7b0 : ((rd l0 x5_1) == (rd l1 x5_1)) = true := beq_iff_eq.mpr c7
        have c7b1 : ((rd l0 x5_1) != (rd l1 x5_1)) = false := bne_eq_false_iff_eq.mpr c7
        clear c7
        have H' := Aside0.mk H
        clear H
        have p101 : 0 ≤ (x5_1 : Int) := of_decide_eq_true as_
        have q101 : x5_1 < (l0.length : Int) := of_decide_eq_true as_
        obtain ⟨ad101, e101, hx101_0⟩ := Kd.at_int HR0.out x5_1 p101 q101
        cases e101
        replace p101 := eq_true p101
        replace q101 := eq_true q101
        have p102 : 0 ≤ (x5_1 : Int) := of_decide_eq_true as_
        have q102 : x5_1 < (l1.length : Int) := of_decide_eq_true as_
        obtain ⟨ad102, e102, hx102_0⟩ := Kd.at_int HR1.out x5_1 p102 q102
        cases e102
        replace p102 := eq_true p102
        replace q102 := eq_true q102
        go_wp2
        repeat (go_quiet (fail); try go_wp2)
        go_roundg k1
        case measure => have := HK1.out; omega
        case rel => exact ⟨(wrap64 (x5_1 + 1)), sm_, H', ⟨by have := HK1.out; omega⟩, dd_⟩
       ·rw [if_neg c7] at H
        have c7b0 : ((rd l0 x5_1) == (rd l1 x5_1)) = false := beq_eq_false_iff_ne.mpr c7
        have c7b1 : ((rd l0 x5_1) != (rd l1 x5_1)) = true := bne_iff_ne.mpr c7
        obtain rfl := Option.some.inj H
        have p101 : 0 ≤ (x5_1 : Int) := of_decide_eq_true as_
        have q101 : x5_1 < (l0.length : Int) := of_decide_eq_true as_
        obtain ⟨ad101, e101, hx101_0⟩ := Kd.at_int HR0.out x5_1 p101 q101
        cases e101
        replace p101 := eq_true p101
        replace q101 := eq_true q101
        have p102 : 0 ≤ (x5_1 : Int) := of_decide_eq_true as_
        have q102 : x5_1 < (l1.length : Int) := of_decide_eq_true as_
        obtain ⟨ad102, e102, hx102_0⟩ := Kd.at_int HR1.out x5_1 p102 q102
        cases e102
        replace p102 := eq_true p102
        replace q102 := eq_true q102
        go_wp2
        repeat (go_quiet (fail); try go_wp2)
        go_ret
        exact ⟨sm_, dd_⟩
      ·rw [if_neg c6] at H
       exact absurd H (by simp)
     ·rw [if_neg c5] at H
      exact absurd H (by simp)
    ·rw [if_neg c4] at H
     have c4b0 : decide (x5_1 < (l0.length : Int)) = false := decide_eq_false c4
     clear c4
     obtain rfl := Option.some.inj H
     go_wp2
     repeat (go_quiet (fail); try go_wp2)
     go_ret
     exact ⟨sm_, dd_⟩
 ·rw [if_neg c3] at H
  have c3b0 : ((l0.length : Int) == (l1.length : Int)) = false := beq_eq_false_iff_ne.mpr c3
  have c3b1 : ((l0.length : Int) != (l1.length : Int)) = true := bne_iff_ne.mpr c3
  have c3b2 : (l0.length == l1.length) = false := by first | simpa using c3 | (simp at c3 ⊢; omega)
  obtain rfl := Option.some.inj H
  go_enter Try.func13, Try.ntmps13
  go_wp2
  repeat (go_quiet (fail); try go_wp2)
  go_ret
  exact ⟨sm_, dd_⟩
def tree_Parent.j0 : Nat → Int → Bool → List ByteArray → List (S52) → Option (Int)
 | 0, _, _, _, _ => none
 | k + 1, x1, x14, x104000, x104001 => if x14 = true then (some (-1)) else (if 0 ≤ x1 then (if x1 < (x104001.length : Int) then (if ((rd_T52 x104001 x1).f2) < 0 then (some (-1)) else (if ((rd_T52 x104001 x1).f2) ≥ x1 then (some (-1)) else (some ((rd_T52 x104001 x1).f2)))) else (none)) else (none))
def tree_Parent.f (k : Nat) (l0_0 : List ByteArray) (l0_1 : List (S52)) (a1 : Int) : Option (Int) := if a1 < 0 then (tree_Parent.j0 k a1 true l0_0 l0_1) else (tree_Parent.j0 k a1 (decide (a1 ≥ (l0_1.length : Int))) l0_0 l0_1)
set_option maxHeartbeats 8000000 in
set_option maxRecDepth 100000 in
theorem tree_Parent.calls (k : Nat) (A0_0 : Option Addr) (c0_0 : Nat) (l0_0 : List ByteArray) (A0_1 : Option Addr) (c0_1 : Nat) (l0_1 : List (S52)) (a1 : Int) (r : Int) (w : World) (hr0_0 : Kd.C Kd.string w A0_0 l0_0.length l0_0) (hc0_0 : l0_0.length ≤ c0_0) (hr0_1 : Kd.C k52 w A0_1 l0_1.length l0_1) (hc0_1 : l0_1.length ≤ c0_1) (h : tree_Parent.f k l0_0 l0_1 a1 = some r) :
  Calls Try.prog 17 #[.agg #[.slice A0_0 l0_0.length c0_0, .slice A0_1 l0_1.length c0_1], .int .i64 a1] w fun e w' => e = .returned (.int .i64 r) ∧ Below w.heap.size w w' := by
 have hu25 := Try.underlying25
 have HR0_0 := Aside0.mk hr0_0
 have HC0_0 := Aside0.mk hc0_0
 clear hr0_0 hc0_0
 have HR0_1 := Aside0.mk hr0_1
 have HC0_1 := Aside0.mk hc0_1
 clear hr0_1 hc0_1
 have HB := Aside0.mk (Below.refl w.heap.size w)
 have H : (if a1 < 0 then (tree_Parent.j0 k a1 true l0_0 l0_1) else (tree_Parent.j0 k a1 (decide (a1 ≥ (l0_1.length : Int))) l0_0 l0_1)) = some r := h
 clear h
 have HC3 := Aside0.mk H
 clear H
 go_enter Try.func17, Try.ntmps17
 go_upto_region 1 with (first | ((with_reducible refine gate_dst (N := 2) rfl ?_); (try (refine gate_guard (by rfl) ?_; dsimp only)); refine box_event ?hg (N := 2) ?hd (cs := #[.slice A0_0 l0_0.length c0_0, .slice A0_1 l0_1.length c0_1]) (t := 25) ?hr ?_; (case hd => rfl); (case hg => rfl); (case hr => first | (go_simp; done) | (go_simp; rfl)); intro gb103 hg w4 hbox hb; have n0_ := Aside0.mk (below_step (bb_ HB.out) hb); have n1_ := Aside0.mk (hbox); have n2_ := Aside0.mk ((by rw [hg]; exact (below_size (bb_ HB.out)) : w.heap.size ≤ gb103)); have n3_ := Aside0.mk ((by rw [hg]; exact (below_size (bb_ HB.out)) : w.heap.size ≤ gb103)); clear HB; have HB := n0_; have BK103 := n1_; have GW103 := n2_; have GE103 := n3_; clear n0_ n1_ n2_ n3_; clear hb hbox hg))
 (try simp only [Act.put, List.setIfInBounds_toArray, List.set_cons_zero, List.set_cons_succ])
 go_cut [14] (fun v14 wc => ∃ (kq : Nat) (x14_2 : Bool), v14 = .bool x14_2 ∧ Aside0 (tree_Parent.j0 kq a1 x14_2 l0_0 l0_1 = some r) ∧ Aside0 (kq ≤ k) ∧ Aside0 (wc.heap[gb103]? = some (.cells #[(.slice A0_0 l0_0.length c0_0), (.slice A0_1 l0_1.length c0_1)] 25 (0, 0))) ∧ Aside0 (Below w.heap.size w wc))
 case first =>
  have H := HC3.out
  clear HC3
  by_cases c5 : a1 < 0
  ·rw [if_pos c5] at H
   have c5b0 : decide (a1 < 0) = true := decide_eq_true c5
   clear c5
   (first | rw [c5b0] | (simp only [i64_w, i32_w]; rw [c5b0]) | skip)
   have H' := Aside0.mk H
   clear H
   go_wp2
   go_meet
   case rel => exact ⟨_, (true), sm_, H', ⟨by first | omega | exact Nat.le_refl _⟩, ⟨bk_ BK103.out⟩, ⟨bs_ HB.out GE103.out⟩⟩
  ·rw [if_neg c5] at H
   have c5b0 : decide (a1 < 0) = false := decide_eq_false c5
   clear c5
   (first | rw [c5b0] | (simp only [i64_w, i32_w]; rw [c5b0]) | skip)
   have H' := Aside0.mk H
   clear H
   have hcz6_0 : w4.cell? ⟨gb103, 0, none⟩ = some (.slice A0_0 l0_0.length c0_0) := (blk_cell BK103.out 0).trans rfl
   have hcz6_1 : w4.cell? ⟨gb103, 1, none⟩ = some (.slice A0_1 l0_1.length c0_1) := (blk_cell BK103.out 1).trans rfl
   have hfz6_0 := blk_frozen BK103.out 0
   have hfz6_1 := blk_frozen BK103.out 1
   go_wp2
   go_meet
   case rel => exact ⟨_, (decide (a1 ≥ (l0_1.length : Int))), sm_, H', ⟨by first | omega | exact Nat.le_refl _⟩, ⟨bk_ BK103.out⟩, ⟨bs_ HB.out GE103.out⟩⟩
 case rest =>
  clear HC3
  try clear c1
  try clear p2
  try clear c5
  try clear c5b0
  try clear hcz6_0
  try clear hcz6_1
  try clear hfz6_0
  try clear hfz6_1
  obtain ⟨kq, x14_2, rfl, HA, HJ2, BK103, HB⟩ := hcut
  cases kq with
  | zero => exact absurd HA.out (by simp [tree_Parent.j0])
  | succ kj2 =>
   have H := HA.out
   clear HA
   simp only [tree_Parent.j0] at H
   by_cases c7 : x14_2 = true
   ·subst c7
    rw [if_pos rfl] at H
    have H1 := H
    clear H
    have H := H1
    clear H1
    obtain rfl := Option.some.inj H
    go_wp2
    go_ret
    exact ⟨by first | rfl | (simp [errW_none, errW_some] <;> rfl) | (simp [*, errW_none, errW_some] <;> rfl), bs_ HB.out GE103.out⟩
   ·replace c7 := Bool.eq_false_iff.mpr c7
    subst c7
    rw [if_neg (show ¬ (false = true) by decide)] at H
    have H1 := H
    clear H
    have H := H1
    clear H1
    by_cases c8 : 0 ≤ a1
    ·rw [if_pos c8] at H
     have c8b0 : decide (0 ≤ a1) = true := decide_eq_true c8
     clear c8
     by_cases c9 : a1 < (l0_1.length : Int)
     ·rw [if_pos c9] at H
      have c9b0 : decide (a1 < (l0_1.length : Int)) = true := decide_eq_true c9
      clear c9
      by_cases c10 : ((rd_T52 l0_1 a1).f2) < 0
      ·rw [if_pos c10] at H
       have c10b0 : decide (((rd_T52 l0_1 a1).f2) < 0) = true := decide_eq_true c10
       clear c10
       obtain rfl := Option.some.inj H
       have hcz11_0 : wc.cell? ⟨gb103, 0, none⟩ = some (.slice A0_0 l0_0.length c0_0) := (blk_cell BK103.out 0).trans rfl
       have hcz11_1 : wc.cell? ⟨gb103, 1, none⟩ = some (.slice A0_1 l0_1.length c0_1) := (blk_cell BK103.out 1).trans rfl
       have hfz11_0 := blk_frozen BK103.out 0
       have hfz11_1 := blk_frozen BK103.out 1
       have p104 : 0 ≤ (a1 : Int) := of_decide_eq_true as_
       have q104 : a1 < (l0_1.length : Int) := of_decide_eq_true as_
       obtain ⟨ad104, e104, hx104_0, hx104_1, hx104_2, hx104_3⟩ := at_T52 HR0_1.out a1 p104 q104
       cases e104
       replace hx104_0 := (HB.out.cell (World.block_lt_of_cell? w _ hx104_0)).trans hx104_0
       replace hx104_1 := (HB.out.cell (World.block_lt_of_cell? w _ hx104_1)).trans hx104_1
       replace hx104_2 := (HB.out.cell (World.block_lt_of_cell? w _ hx104_2)).trans hx104_2
       replace hx104_3 := (HB.out.cell (World.block_lt_of_cell? w _ hx104_3)).trans hx104_3
       replace p104 := eq_true p104
       replace q104 := eq_true q104
       go_wp2
       go_ret
       exact ⟨by first | rfl | (simp [errW_none, errW_some] <;> rfl) | (simp [*, errW_none, errW_some] <;> rfl), bs_ HB.out GE103.out⟩
      ·rw [if_neg c10] at H
       have c10b0 : decide (((rd_T52 l0_1 a1).f2) < 0) = false := decide_eq_false c10
       clear c10
       by_cases c12 : ((rd_T52 l0_1 a1).f2) ≥ a1
       ·rw [if_pos c12] at H
        have c12b0 : decide (a1 ≤ ((rd_T52 l0_1 a1).f2)) = true := decide_eq_true c12
        clear c12
        obtain rfl := Option.some.inj H
        have hcz13_0 : wc.cell? ⟨gb103, 0, none⟩ = some (.slice A0_0 l0_0.length c0_0) := (blk_cell BK103.out 0).trans rfl
        have hcz13_1 : wc.cell? ⟨gb103, 1, none⟩ = some (.slice A0_1 l0_1.length c0_1) := (blk_cell BK103.out 1).trans rfl
        have hfz13_0 := blk_frozen BK103.out 0
        have hfz13_1 := blk_frozen BK103.out 1
        have p104 : 0 ≤ (a1 : Int) := of_decide_eq_true as_
        have q104 : a1 < (l0_1.length : Int) := of_decide_eq_true as_
        obtain ⟨ad104, e104, hx104_0, hx104_1, hx104_2, hx104_3⟩ := at_T52 HR0_1.out a1 p104 q104
        cases e104
        replace hx104_0 := (HB.out.cell (World.block_lt_of_cell? w _ hx104_0)).trans hx104_0
        replace hx104_1 := (HB.out.cell (World.block_lt_of_cell? w _ hx104_1)).trans hx104_1
        replace hx104_2 := (HB.out.cell (World.block_lt_of_cell? w _ hx104_2)).trans hx104_2
        replace hx104_3 := (HB.out.cell (World.block_lt_of_cell? w _ hx104_3)).trans hx104_3
        replace p104 := eq_true p104
        replace q104 := eq_true q104
        go_wp2
        go_ret
        exact ⟨by first | rfl | (simp [errW_none, errW_some] <;> rfl) | (simp [*, errW_none, errW_some] <;> rfl), bs_ HB.out GE103.out⟩
       ·rw [if_neg c12] at H
        have c12b0 : decide (a1 ≤ ((rd_T52 l0_1 a1).f2)) = false := decide_eq_false c12
        clear c12
        obtain rfl := Option.some.inj H
        have hcz14_0 : wc.cell? ⟨gb103, 0, none⟩ = some (.slice A0_0 l0_0.length c0_0) := (blk_cell BK103.out 0).trans rfl
        have hcz14_1 : wc.cell? ⟨gb103, 1, none⟩ = some (.slice A0_1 l0_1.length c0_1) := (blk_cell BK103.out 1).trans rfl
        have hfz14_0 := blk_frozen BK103.out 0
        have hfz14_1 := blk_frozen BK103.out 1
        have p104 : 0 ≤ (a1 : Int) := of_decide_eq_true as_
        have q104 : a1 < (l0_1.length : Int) := of_decide_eq_true as_
        obtain ⟨ad104, e104, hx104_0, hx104_1, hx104_2, hx104_3⟩ := at_T52 HR0_1.out a1 p104 q104
        cases e104
        replace hx104_0 := (HB.out.cell (World.block_lt_of_cell? w _ hx104_0)).trans hx104_0
        replace hx104_1 := (HB.out.cell (World.block_lt_of_cell? w _ hx104_1)).trans hx104_1
        replace hx104_2 := (HB.out.cell (World.block_lt_of_cell? w _ hx104_2)).trans hx104_2
        replace hx104_3 := (HB.out.cell (World.block_lt_of_cell? w _ hx104_3)).trans hx104_3
        replace p104 := eq_true p104
        replace q104 := eq_true q104
        go_wp2
        go_ret
        exact ⟨by first | rfl | (simp [errW_none, errW_some] <;> rfl) | (simp [*, errW_none, errW_some] <;> rfl), bs_ HB.out GE103.out⟩
     ·rw [if_neg c9] at H
      exact absurd H (by simp)
    ·rw [if_neg c8] at H
     exact absurd H (by simp)
set_option maxHeartbeats 400000 in
set_option maxRecDepth 100000 in
theorem see_yes (n : Nat) (k i : Int) (A0 : Option Addr) (c0 : Nat) (l0 : List ByteArray) (A1 : Option Addr) (c1 : Nat) (l1 : List S52) (gt gi go : Nat) (v : Value) (xs : List Int) (base : Nat) (W : World)
  (hr0 : Kd.C Kd.string W A0 l0.length l0) (hc0 : l0.length ≤ c0) (hr1 : Kd.C k52 W A1 l1.length l1) (hc1 : l1.length ≤ c1)
  (bt : W.heap[gt]? = some (.cells #[.slice A0 l0.length c0, .slice A1 l1.length c1] 25 (0, 0)))
  (bi : W.heap[gi]? = some (.cells #[.int .i64 i] 3 (0, 0)))
  (bo : W.heap[go]? = some (.cells #[v] 29 (0, 0)))
  (hO : Kd.R (Kd.int .i64) 3 W base (fun k_ => k_ ≠ gt ∧ k_ ≠ gi ∧ k_ ≠ go) v xs) (hbase : base ≤ W.heap.size) (hgo : base ≤ go)
  (h : tree_Parent.f n l0 l1 k = some i) (hlen : xs.length < 17592186044416) :
  Calls Try.prog 32 #[.int .i64 k, .pointer (some ⟨gt, 0, none⟩), .pointer (some ⟨gi, 0, none⟩), .pointer (some ⟨go, 0, none⟩)] W fun e W' =>
   e = .returned (.tuple #[]) ∧ ∃ v', W'.heap[gt]? = some (.cells #[.slice A0 l0.length c0, .slice A1 l1.length c1] 25 (0, 0)) ∧ W'.heap[gi]? = some (.cells #[.int .i64 i] 3 (0, 0)) ∧
    W'.heap[go]? = some (.cells #[v'] 29 (0, 0)) ∧ Kd.R (Kd.int .i64) 3 W' base (fun k_ => k_ ≠ gt ∧ k_ ≠ gi ∧ k_ ≠ go) v' (xs ++ [k]) ∧ Below base W W' := by
 have hu25 := Try.underlying25
 have HR0 := Aside0.mk hr0
 have HC0 := Aside0.mk hc0
 have HR1 := Aside0.mk hr1
 have HC1 := Aside0.mk hc1
 have HO := Aside0.mk hO
 have HH := Aside0.mk h
 have ct0 : W.cell? ⟨gt, 0, none⟩ = some (.slice A0 l0.length c0) := (blk_cell bt 0).trans rfl
 have ct1 : W.cell? ⟨gt, 1, none⟩ = some (.slice A1 l1.length c1) := (blk_cell bt 1).trans rfl
 have ci : W.cell? ⟨gi, 0, none⟩ = some (.int .i64 i) := (blk_cell bi 0).trans rfl
 have BT := Aside0.mk bt
 have BI := Aside0.mk bi
 have BO := Aside0.mk bo
 clear hr0 hc0 hr1 hc1 hO h bt bi bo
 go_enter Try.func32, Try.ntmps32
 go_wp2_with fail
 go_region_held3 (fun w' => w'.cell? ⟨gt, 0, none⟩ = some (.slice A0 l0.length c0) ∧ w'.cell? ⟨gt, 1, none⟩ = some (.slice A1 l1.length c1) ∧ w'.cell? ⟨gi, 0, none⟩ = some (.int .i64 i))
  (first | go_keep | exact ⟨pw_cell_below hb ct0, pw_cell_below hb ct1, pw_cell_below hb ci⟩)
  ((go_at_call 17; refine (tree_Parent.calls n _ _ l0 _ _ l1 k i _ ?_ HC0.out ?_ HC1.out HH.out).mono ?_; (repeat (first | exact HR0.out | (with_reducible refine Kd.C_drewN ?_ _) | (with_reducible refine Kd.C_drew ?_))); (repeat (first | exact HR1.out | (with_reducible refine Kd.C_drewN ?_ _) | (with_reducible refine Kd.C_drew ?_))); rintro e w' ⟨rfl, hb⟩))
 have co : w'.cell? ⟨go, 0, none⟩ = some v := pw_cell_below hb ((blk_cell BO.out 0).trans rfl)
 have HO1 := Aside0.mk (Kd.R_below (Kd.R_drew HO.out) hb)
 have BT1 := Aside0.mk (blk_below (blk_drew BT.out) hb)
 have BI1 := Aside0.mk (blk_below (blk_drew BI.out) hb)
 have BO1 := Aside0.mk (blk_below (blk_drew BO.out) hb)
 have HB1 := Aside0.mk ((Below.refl base W).drew.trans (hb.mono (by simpa using hbase)))
 have HS := Aside0.mk (show base ≤ w'.heap.size from Nat.le_trans hbase hb.size)
 clear HO BT BI BO hb
 go_wp2_with (first | ((with_reducible refine gate_builtin (b := .append) (xs := #[.tmp 10, .tmp 12]) rfl ?_); at_builtin; refine Kd.R_append (Kd.int .i64) (w0 := W) base rfl (.tmp 10) (.tmp 12) 29 3 (.int .i64 0) 8 rfl Try.underlying29 info3 rfl (by decide) (by omega) v xs k [.int .i64 k] (fun k_ => k_ ≠ gt ∧ k_ ≠ gi ∧ k_ ≠ go) (fun _ => False) rfl rfl ?aP (fun _ hk => hk.elim) ?aF ?aO ?aB ?aS ?aL ?_; (case aP => exact rfl); (case aB => exact HB1.out); (case aF => exact (fun k_ hk => ⟨Kd.freshB BT1.out k_ hk, Kd.freshB BI1.out k_ hk, Kd.freshB BO1.out k_ hk⟩)); (case aO => exact HO1.out); (case aS => exact HS.out); (case aL => omega); intro v1 w1 ho hb hg hat; obtain ⟨Ao, co', eo⟩ := Kd.R_slice ho; subst eo; have bo1 := Aside0.mk (blk_grown BO1.out hg (Kd.R_away HO1.out (fun _ hk => hk.2.2))); have bt1 := Aside0.mk (blk_grown BT1.out hg (Kd.R_away HO1.out (fun _ hk => hk.1))); have bi1 := Aside0.mk (blk_grown BI1.out hg (Kd.R_away HO1.out (fun _ hk => hk.2.1))); have co1 : w1.cell? ⟨go, 0, none⟩ = some v := (blk_cell bo1.out 0).trans rfl; have fo1 := blk_frozen bo1.out 0; have ho1 := Aside0.mk ho; have hb1 := Aside0.mk hb; clear ho hb hg hat))
 go_end0
 have e1 : (xs ++ [k]).length = xs.length + 1 := by simp
 rw [← e1]
 exact ⟨rfl, _, blk_far bt1.out (blk_ne bt1.out bo1.out (by decide)) _, blk_far bi1.out (blk_ne bi1.out bo1.out (by decide)) _, by simpa using blk_set bo1.out 0 _, Kd.R_far ho1.out (fun _ hk => hk.2.2) _, hb1.out.setCell hgo _⟩
set_option maxHeartbeats 400000 in
set_option maxRecDepth 100000 in
theorem see_no (n : Nat) (k i p : Int) (hp : p ≠ i) (A0 : Option Addr) (c0 : Nat) (l0 : List ByteArray) (A1 : Option Addr) (c1 : Nat) (l1 : List S52) (gt gi go : Nat) (W : World)
  (hr0 : Kd.C Kd.string W A0 l0.length l0) (hc0 : l0.length ≤ c0) (hr1 : Kd.C k52 W A1 l1.length l1) (hc1 : l1.length ≤ c1)
  (bt : W.heap[gt]? = some (.cells #[.slice A0 l0.length c0, .slice A1 l1.length c1] 25 (0, 0)))
  (bi : W.heap[gi]? = some (.cells #[.int .i64 i] 3 (0, 0)))
  (h : tree_Parent.f n l0 l1 k = some p) :
  Calls Try.prog 32 #[.int .i64 k, .pointer (some ⟨gt, 0, none⟩), .pointer (some ⟨gi, 0, none⟩), .pointer (some ⟨go, 0, none⟩)] W fun e W' =>
   e = .returned (.tuple #[]) ∧ Below W.heap.size W W' := by
 have hu25 := Try.underlying25
 have HR0 := Aside0.mk hr0
 have HC0 := Aside0.mk hc0
 have HR1 := Aside0.mk hr1
 have HC1 := Aside0.mk hc1
 have HH := Aside0.mk h
 have ct0 : W.cell? ⟨gt, 0, none⟩ = some (.slice A0 l0.length c0) := (blk_cell bt 0).trans rfl
 have ct1 : W.cell? ⟨gt, 1, none⟩ = some (.slice A1 l1.length c1) := (blk_cell bt 1).trans rfl
 have ci : W.cell? ⟨gi, 0, none⟩ = some (.int .i64 i) := (blk_cell bi 0).trans rfl
 have hpb : (p == i) = false := beq_eq_false_iff_ne.mpr hp
 clear hr0 hc0 hr1 hc1 h bt bi hp
 go_enter Try.func32, Try.ntmps32
 go_wp2_with fail
 go_region_held3 (fun w' => w'.cell? ⟨gt, 0, none⟩ = some (.slice A0 l0.length c0) ∧ w'.cell? ⟨gt, 1, none⟩ = some (.slice A1 l1.length c1) ∧ w'.cell? ⟨gi, 0, none⟩ = some (.int .i64 i))
  (first | go_keep | exact ⟨pw_cell_below hb ct0, pw_cell_below hb ct1, pw_cell_below hb ci⟩)
  ((go_at_call 17; refine (tree_Parent.calls n _ _ l0 _ _ l1 k p _ ?_ HC0.out ?_ HC1.out HH.out).mono ?_; (repeat (first | exact HR0.out | (with_reducible refine Kd.C_drewN ?_ _) | (with_reducible refine Kd.C_drew ?_))); (repeat (first | exact HR1.out | (with_reducible refine Kd.C_drewN ?_ _) | (with_reducible refine Kd.C_drew ?_))); rintro e w' ⟨rfl, hb⟩))
 have HB := Aside0.mk (below_step ((Below.refl W.heap.size W).drew) hb)
 clear hb
 go_wp2_with fail
 go_end0
 exact ⟨rfl, HB.out⟩
def parOf (l1 : List S52) (i : Int) : Int := if 0 ≤ i ∧ i < (l1.length : Int) then (if 0 ≤ (rd_T52 l1 i).f2 ∧ (rd_T52 l1 i).f2 < i then (rd_T52 l1 i).f2 else -1) else -1
theorem parOf_lt {l1 : List S52} {i p : Int} (h : parOf l1 i = p) (h0 : 0 ≤ p) : p < i ∧ 0 ≤ i ∧ i < (l1.length : Int) := by
 unfold parOf at h
 split at h
 ·split at h <;> omega
 ·omega
theorem parent_tells (n : Nat) (l0 : List ByteArray) (l1 : List S52) (i : Int) : tree_Parent.f (n + 1) l0 l1 i = some (parOf l1 i) := by
 unfold tree_Parent.f parOf
 by_cases h0 : i < 0
 ·rw [if_pos h0, if_neg (by omega)]; simp [tree_Parent.j0]
 ·rw [if_neg h0]
  by_cases h1 : i ≥ (l1.length : Int)
  ·rw [if_neg (by omega)]; simp [tree_Parent.j0, h1]
  ·have h1' : decide (i ≥ (l1.length : Int)) = false := by simpa using h1
   rw [h1', if_pos (by omega)]
   simp only [tree_Parent.j0]
   rw [if_neg (by decide), if_pos (by omega), if_pos (by omega)]
   by_cases h2 : (rd_T52 l1 i).f2 < 0
   ·rw [if_pos h2, if_neg (by omega)]
   ·rw [if_neg h2]
    by_cases h3 : (rd_T52 l1 i).f2 ≥ i
    ·rw [if_pos h3, if_neg (by omega)]
    ·rw [if_neg h3, if_pos (by omega)]
def kidsTo (l1 : List S52) (i : Int) (k : Nat) : List Int := ((List.range k).map fun j : Nat => (j : Int)).filter fun j => parOf l1 j == i
theorem kidsTo_succ (l1 : List S52) (i : Int) (k : Nat) : kidsTo l1 i (k + 1) = if parOf l1 k = i then kidsTo l1 i k ++ [(k : Int)] else kidsTo l1 i k := by
 unfold kidsTo
 rw [List.range_succ, List.map_append, List.filter_append]
 by_cases h : parOf l1 k = i <;> simp [h]
theorem kidsTo_none (l1 : List S52) (i : Int) (h0 : 0 ≤ i) (k : Nat) (hk : (k : Int) ≤ i) : kidsTo l1 i k = [] := by
 unfold kidsTo
 rw [List.filter_eq_nil_iff]
 intro j hj
 obtain ⟨m, hm, rfl⟩ := List.mem_map.1 hj
 have hm' := List.mem_range.1 hm
 simp only [beq_iff_eq]
 intro e
 have := parOf_lt e h0
 omega
theorem kidsTo_length (l1 : List S52) (i : Int) (k : Nat) : (kidsTo l1 i k).length ≤ k := by
 unfold kidsTo
 refine Nat.le_trans (List.length_filter_le _ _) (by simp)
theorem kidsTo_end (l1 : List S52) (i : Int) (h0 : 0 ≤ i) (k : Nat) (hk : l1.length ≤ k) : kidsTo l1 i k = kidsTo l1 i l1.length := by
 obtain ⟨d, rfl⟩ := Nat.le.dest hk
 clear hk
 induction d with
 | zero => rfl
 | succ d ih =>
  rw [← Nat.add_assoc, kidsTo_succ, if_neg, ih]
  intro e
  have := parOf_lt e h0
  omega
def tree_Children.f (l0_0 : List ByteArray) (l0_1 : List (S52)) (a1 : Int) : Option (List Int) := if l0_1.length < 17592186044416 then some (if 0 ≤ a1 then kidsTo l0_1 a1 l0_1.length else []) else none
set_option maxHeartbeats 400000 in
set_option maxRecDepth 100000 in
theorem tree_Children.calls (A0_0 : Option Addr) (c0_0 : Nat) (l0_0 : List ByteArray) (A0_1 : Option Addr) (c0_1 : Nat) (l0_1 : List (S52)) (a1 : Int) (r : List Int) (w : World) (hr0_0 : Kd.C Kd.string w A0_0 l0_0.length l0_0) (hc0_0 : l0_0.length ≤ c0_0) (hr0_1 : Kd.C k52 w A0_1 l0_1.length l0_1) (hc0_1 : l0_1.length ≤ c0_1) (h : tree_Children.f l0_0 l0_1 a1 = some r) :
  Calls Try.prog 14 #[.agg #[.slice A0_0 l0_0.length c0_0, .slice A0_1 l0_1.length c0_1], .int .i64 a1] w fun e w' => ∃ v0_ : Value, e = .returned (v0_) ∧ Kd.R (Kd.int .i64) 3 w' w.heap.size (fun _ => True) v0_ r ∧ Below w.heap.size w w' := by
 have hlen : l0_1.length < 17592186044416 := by
  unfold tree_Children.f at h
  split at h
  ·assumption
  ·cases h
 have hr : (if 0 ≤ a1 then kidsTo l0_1 a1 l0_1.length else []) = r := by
  unfold tree_Children.f at h
  rw [if_pos hlen] at h
  exact Option.some.inj h
 have HR := Aside0.mk hr
 have HR0 := Aside0.mk hr0_0
 have HC0 := Aside0.mk hc0_0
 have HR1 := Aside0.mk hr0_1
 have HC1 := Aside0.mk hc0_1
 have hu25 := Try.underlying25
 clear h hr hr0_0 hc0_0 hr0_1 hc0_1
 by_cases h0 : 0 ≤ a1
 ·go_enter Try.func14, Try.ntmps14
  go_wp2_with fail
  go_loopw [7] (fun v7 wr => ∃ (k : Nat) (v : Value), v7 = .int .i64 k ∧ Aside0 (a1 ≤ (k : Int)) ∧ Aside0 (wr.heap[w.heap.size]? = some (.cells #[.slice A0_0 l0_0.length c0_0, .slice A0_1 l0_1.length c0_1] 25 (0, 0))) ∧ Aside0 (wr.heap[w.heap.size + 1]? = some (.cells #[.int .i64 a1] 3 (0, 0))) ∧ Aside0 (wr.heap[w.heap.size + 1 + 1]? = some (.cells #[v] 29 (0, 0))) ∧ Aside0 (Kd.R (Kd.int .i64) 3 wr w.heap.size (fun k_ => k_ ≠ w.heap.size ∧ k_ ≠ w.heap.size + 1 ∧ k_ ≠ w.heap.size + 1 + 1) v (kidsTo l0_1 a1 k)) ∧ Aside0 (Below w.heap.size w wr)) (fun v7 _ => l0_1.length - (intOf v7).toNat)
  case atStart =>
   obtain ⟨k, rfl⟩ := Int.eq_ofNat_of_zero_le h0
   refine ⟨k, .slice none 0 0, rfl, ⟨Int.le_refl _⟩, ⟨?_⟩, ⟨?_⟩, ⟨?_⟩, ⟨?_⟩, ⟨?_⟩⟩
   ·exact blk_alloc (blk_alloc (blk_new w _) _) _
   ·exact blk_alloc (by simpa using blk_new (w.alloc _) _) _
   ·simpa using blk_new ((w.alloc _).alloc _) _
   ·rw [kidsTo_none _ _ (by omega) _ (Int.le_refl _)]; exact Kd.R_nil _ _ _ _ _
   ·exact below_alloc (below_alloc (below_alloc (Below.refl _ _) _) _) _
  case round =>
   obtain ⟨k, v, rfl, HK, BT, BI, BO, HO, HB⟩ := hrel
   have ci : wr.cell? ⟨w.heap.size + 1, 0, none⟩ = some (.int .i64 a1) := (blk_cell BI.out 0).trans rfl
   have ct1 : wr.cell? ⟨w.heap.size, 1, none⟩ = some (.slice A0_1 l0_1.length c0_1) := (blk_cell BT.out 1).trans rfl
   have hge : (decide (0 ≤ a1)) = true := decide_eq_true h0
   by_cases hk : k < l0_1.length
   ·have hlt : decide ((k : Int) < (l0_1.length : Int)) = true := decide_eq_true (by omega)
    by_cases hp : parOf l0_1 k = a1
    ·have HN := Aside0.mk (show kidsTo l0_1 a1 (k + 1) = kidsTo l0_1 a1 k ++ [(k : Int)] by rw [kidsTo_succ, if_pos hp])
     have HP := Aside0.mk (show tree_Parent.f 1 l0_0 l0_1 k = some a1 by rw [parent_tells, hp])
     have HL := Aside0.mk (show (kidsTo l0_1 a1 k).length < 17592186044416 by have := kidsTo_length l0_1 a1 k; omega)
     clear hp
     go_wp2_with (go_at_call 32; refine (see_yes 1 k a1 A0_0 c0_0 l0_0 A0_1 c0_1 l0_1 w.heap.size (w.heap.size + 1) (w.heap.size + 1 + 1) v (kidsTo l0_1 a1 k) w.heap.size _ ?_ HC0.out ?_ HC1.out ?_ ?_ ?_ ?_ ?_ ?_ HP.out HL.out).mono ?_; exact Kd.C_below HR0.out HB.out; exact Kd.C_below HR1.out HB.out; exact BT.out; exact BI.out; exact BO.out; exact HO.out; exact HB.out.size; omega; rintro e w' ⟨rfl, v', hbt, hbi, hbo, hO, hB⟩; have BT' := Aside0.mk hbt; have BI' := Aside0.mk hbi; have BO' := Aside0.mk hbo; have HO' := Aside0.mk hO; have HB' := Aside0.mk (HB.out.trans hB); clear hbt hbi hbo hO hB)
     go_roundw
     case rel => exact ⟨k + 1, v', by go_num, ⟨by have := HK.out; omega⟩, BT', BI', BO', ⟨by rw [HN.out]; exact HO'.out⟩, HB'⟩
     case measure => simp [intOf]; omega
    ·have HN := Aside0.mk (show kidsTo l0_1 a1 (k + 1) = kidsTo l0_1 a1 k by rw [kidsTo_succ, if_neg hp])
     have HP := Aside0.mk (show tree_Parent.f 1 l0_0 l0_1 k = some (parOf l0_1 k) by rw [parent_tells])
     have HQ := Aside0.mk hp
     clear hp
     go_wp2_with (go_at_call 32; refine (see_no 1 k a1 (parOf l0_1 k) HQ.out A0_0 c0_0 l0_0 A0_1 c0_1 l0_1 w.heap.size (w.heap.size + 1) (w.heap.size + 1 + 1) _ ?_ HC0.out ?_ HC1.out ?_ ?_ HP.out).mono ?_; exact Kd.C_below HR0.out HB.out; exact Kd.C_below HR1.out HB.out; exact BT.out; exact BI.out; rintro e w' ⟨rfl, hB⟩; have BT' := Aside0.mk (blk_below BT.out hB); have BI' := Aside0.mk (blk_below BI.out hB); have BO' := Aside0.mk (blk_below BO.out hB); have HO' := Aside0.mk (Kd.R_below HO.out hB); have HB' := Aside0.mk (below_step HB.out hB); clear hB)
     go_roundw
     case rel => exact ⟨k + 1, v, by go_num, ⟨by have := HK.out; omega⟩, BT', BI', BO', ⟨by rw [HN.out]; exact HO'.out⟩, HB'⟩
     case measure => simp [intOf]; omega
   ·have hlt : decide ((k : Int) < (l0_1.length : Int)) = false := decide_eq_false (by omega)
    have co : wr.cell? ⟨w.heap.size + 1 + 1, 0, none⟩ = some v := (blk_cell BO.out 0).trans rfl
    go_wp2_with fail
    go_ret
    refine ⟨v, by simp, ?_, HB.out⟩
    have e := HR.out
    rw [if_pos h0] at e
    rw [← e, ← kidsTo_end l0_1 a1 h0 k (by omega)]
    exact Kd.R_mono HO.out (fun _ _ => trivial)
 ·have e : ([] : List Int) = r := by have := HR.out; rwa [if_neg h0] at this
  have hge : (decide (0 ≤ a1)) = false := decide_eq_false h0
  go_enter Try.func14, Try.ntmps14
  go_wp2_with fail
  refine wp_loop_rounds 1 ?_
  rw [rounds_succ]
  go_wp2_with fail
  go_ret
  exact ⟨.slice none 0 0, by simp, e ▸ Kd.R_nil _ _ _ _ _, below_alloc (below_alloc (below_alloc (Below.refl _ _) _) _) _⟩
def tree_Symbols.f (l0_0 : List ByteArray) (l0_1 : List (S52)) : Option (Int) := some (wrap64 ((wrap64 (2 * (l0_0.length : Int))) + 1))
set_option maxHeartbeats 8000000 in
set_option maxRecDepth 100000 in
theorem tree_Symbols.calls (A0_0 : Option Addr) (c0_0 : Nat) (l0_0 : List ByteArray) (A0_1 : Option Addr) (c0_1 : Nat) (l0_1 : List (S52)) (r : Int) (w : World) (hr0_0 : Kd.C Kd.string w A0_0 l0_0.length l0_0) (hc0_0 : l0_0.length ≤ c0_0) (hr0_1 : Kd.C k52 w A0_1 l0_1.length l0_1) (hc0_1 : l0_1.length ≤ c0_1) (h : tree_Symbols.f l0_0 l0_1 = some r) :
  Calls Try.prog 15 #[.agg #[.slice A0_0 l0_0.length c0_0, .slice A0_1 l0_1.length c0_1]] w fun e w' => e = .returned (.int .i64 r) ∧ Below w.heap.size w w' := by
 have hu25 := Try.underlying25
 have HR0_0 := Aside0.mk hr0_0
 have HC0_0 := Aside0.mk hc0_0
 clear hr0_0 hc0_0
 have HR0_1 := Aside0.mk hr0_1
 have HC0_1 := Aside0.mk hc0_1
 clear hr0_1 hc0_1
 have HB := Aside0.mk (Below.refl w.heap.size w)
 have H : (some (wrap64 ((wrap64 (2 * (l0_0.length : Int))) + 1))) = some r := h
 clear h
 obtain rfl := Option.some.inj H
 go_enter Try.func15, Try.ntmps15
 go_wp2_with (first | ((with_reducible refine gate_dst (N := 1) rfl ?_); refine box_event ?hg (N := 1) ?hd (cs := #[.slice A0_0 l0_0.length c0_0, .slice A0_1 l0_1.length c0_1]) (t := 25) ?hr ?_; (case hd => rfl); (case hg => rfl); (case hr => first | (go_simp; done) | (go_simp; rfl)); intro gb105 hg w2 hbox hb; have n0_ := Aside0.mk (below_step (bb_ HB.out) hb); have n1_ := Aside0.mk (hbox); have n2_ := Aside0.mk ((by rw [hg]; exact (below_size (bb_ HB.out)) : w.heap.size ≤ gb105)); have n3_ := Aside0.mk ((by rw [hg]; exact (below_size (bb_ HB.out)) : w.heap.size ≤ gb105)); clear HB; have HB := n0_; have BK105 := n1_; have GW105 := n2_; have GE105 := n3_; clear n0_ n1_ n2_ n3_; clear hb hbox hg; have hcz3_0 : w2.cell? ⟨gb105, 0, none⟩ = some (.slice A0_0 l0_0.length c0_0) := (blk_cell BK105.out 0).trans rfl; have hcz3_1 : w2.cell? ⟨gb105, 1, none⟩ = some (.slice A0_1 l0_1.length c0_1) := (blk_cell BK105.out 1).trans rfl; have hfz3_0 := blk_frozen BK105.out 0; have hfz3_1 := blk_frozen BK105.out 1))
 go_ret
 exact ⟨by first | rfl | (simp [errW_none, errW_some] <;> rfl) | (simp [*, errW_none, errW_some] <;> rfl), bs_ HB.out GE105.out⟩
end Go.Proofs.Ytoanmoddppmffaa.T
