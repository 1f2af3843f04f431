/- What each function of the program comes to, and its walk: laid by a program. -/
import Derived.Test.YtoanmoddppmffaaJTx0
import Derived.Test.YtoanmoddppmffaaJTx12
namespace Go.Proofs.Ytoanmoddppmffaa.T
open Go.RowKit Go.Proofs.YtoanmoddppmffaaW.PrintWords Go.Proofs.YtoanmoddppmffaaW.PrintLast Go.Proofs.YtoanmoddppmffaaW.PrintMore
set_option linter.unusedVariables false
set_option linter.unusedSimpArgs false
mutual
def topiaryref13_limited.l0 : Nat → List (S74) → List Int → Int → List ByteArray → Option (List ByteArray × (List (S52)) × Int)
 | 0, _, _, _, _ => none
 | k + 1, x0, x5, x6, x272000 => if x6 < (x0.length : Int) then (if 0 ≤ x6 then (if ((rd_T74 x0 x6).f0.f2) ≥ 0 then (if 0 ≤ ((rd_T74 x0 x6).f0.f2) then (if ((rd_T74 x0 x6).f0.f2) < (x5.length : Int) then (topiaryref13_limited.j1 k x0 x5 x6 (wrap64 ((rd x5 ((rd_T74 x0 x6).f0.f2)) + 1)) x272000 ((rd_T74 x0 x6).f0.f0) ((rd_T74 x0 x6).f0.f1) ((rd_T74 x0 x6).f0.f2) ((rd_T74 x0 x6).f0.f3) ((rd_T74 x0 x6).f1)) else (none)) else (none)) else (topiaryref13_limited.j1 k x0 x5 x6 0 x272000 ((rd_T74 x0 x6).f0.f0) ((rd_T74 x0 x6).f0.f1) ((rd_T74 x0 x6).f0.f2) ((rd_T74 x0 x6).f0.f3) ((rd_T74 x0 x6).f1))) else (none)) else (if (x272000.length : Int) > 1000 then (some (([] : List ByteArray), ([] : List (S52)), 18)) else (topiaryref13_limited.l1 k x0 0 x272000 ([] : List (S52))))
def topiaryref13_limited.j1 : Nat → List (S74) → List Int → Int → Int → List ByteArray → Int → Int → Int → ByteArray → ByteArray → Option (List ByteArray × (List (S52)) × Int)
 | 0, _, _, _, _, _, _, _, _, _, _ => none
 | k + 1, x0, x5, x6, x8, x272000, x274000, x274001, x274002, x274003, x274004 => if x5.length < 17592186044416 then ((some (x5 ++ [x8] : List Int)).bind fun y275 => (if x274000 = 1 then (topiaryref13_limited.j2 k x0 y275 x6 (decide (x8 > 64)) x272000 x274000 x274001 x274002 x274003 x274004) else (topiaryref13_limited.j2 k x0 y275 x6 false x272000 x274000 x274001 x274002 x274003 x274004))) else (none)
def topiaryref13_limited.j2 : Nat → List (S74) → List Int → Int → Bool → List ByteArray → Int → Int → Int → ByteArray → ByteArray → Option (List ByteArray × (List (S52)) × Int)
 | 0, _, _, _, _, _, _, _, _, _, _ => none
 | k + 1, x0, x5, x6, x47, x272000, x274000, x274001, x274002, x274003, x274004 => if x47 = true then (some (([] : List ByteArray), ([] : List (S52)), 18)) else (if x274000 = 3 then (topiaryref13_limited.l0 k x0 x5 (wrap64 (x6 + 1)) x272000) else ((topiaryref13_with.f k x272000 x274004).bind fun t278 => (topiaryref13_limited.l0 k x0 x5 (wrap64 (x6 + 1)) t278)))
def topiaryref13_limited.l1 : Nat → List (S74) → Int → List ByteArray → List (S52) → Option (List ByteArray × (List (S52)) × Int)
 | 0, _, _, _, _ => none
 | k + 1, x0, x9, x272000, x272001 => if x9 < (x0.length : Int) then (if 0 ≤ x9 then (if ((rd_T74 x0 x9).f0.f0) = 3 then (if x272001.length < 3518437208883 then (topiaryref13_limited.l1 k x0 (wrap64 (x9 + 1)) x272000 (x272001 ++ [(⟨(rd_T74 x0 x9).f0.f0, (rd_T74 x0 x9).f0.f1, (rd_T74 x0 x9).f0.f2, (rd_T74 x0 x9).f0.f3⟩ : S52)])) else (none)) else ((topiaryref13_Number.f k x272000 ((rd_T74 x0 x9).f1)).bind fun t287 => (if x272001.length < 3518437208883 then (topiaryref13_limited.l1 k x0 (wrap64 (x9 + 1)) x272000 (x272001 ++ [(⟨(rd_T74 x0 x9).f0.f0, t287, (rd_T74 x0 x9).f0.f2, (rd_T74 x0 x9).f0.f3⟩ : S52)])) else (none)))) else (none)) else (some (x272000, x272001, 0))
end
def topiaryref13_limited.f (k : Nat) (l0 : List (S74)) : Option (List ByteArray × (List (S52)) × Int) := if (l0.length : Int) > 5000 then (some (([] : List ByteArray), ([] : List (S52)), 18)) else (topiaryref13_limited.l0 k l0 ([] : List Int) 0 ([] : List ByteArray))
def topiaryref13_limited.T24 : Bool × List (List Nat × List Nat) := (true, [([], []), ([0], [0]), ([], []), ([], []), ([2, 3], [2, 3]), ([4], [4]), ([5], [5]), ([1, 6], [1, 6]), ([0, 1, 2, 3, 4, 5, 6, 7], []), ([8, 7, 7, 0, 1, 2, 3, 4, 5, 6, 7], [7, 8])])
def topiaryref13_limited.B24 : List Nat := [0, 1, 0, 0, 12, 28, 60, 127, 255, 511]
theorem topiaryref13_limited.tab24 : rtab .any (opsOf Try.f39 24) = topiaryref13_limited.T24 := by kernel_rfl
theorem topiaryref13_limited.bits24 : waitsOk topiaryref13_limited.T24.2 topiaryref13_limited.B24 = true := by kernel_rfl
set_option maxHeartbeats 8000000 in
set_option maxRecDepth 100000 in
theorem topiaryref13_limited.calls (k : Nat) (A0 : Option Addr) (c0 : Nat) (l0 : List (S74)) (r1 : List ByteArray) (r2 : List (S52)) (r3 : Int) (w : World) (hr0 : Kd.C k74 w A0 l0.length l0) (hc0 : l0.length ≤ c0) (h : topiaryref13_limited.f k l0 = some (r1, r2, r3)) :
  Calls Try.prog 39 #[.slice A0 l0.length c0] w fun e w' => ∃ v0_ v1_ : Value, e = .returned (.tuple #[.agg #[v0_, v1_], .int .i64 r3]) ∧ Kd.R Kd.string 9 w' w.heap.size (fun _ => True) v0_ r1 ∧ Kd.R k52 52 w' w.heap.size (fun _ => True) v1_ r2 ∧ Below w.heap.size w w' := by
 have hu25 := Try.underlying25
 have hu74 := Try.underlying74
 have hu52 := Try.underlying52
 have HR0 := Aside0.mk hr0
 have HC0 := Aside0.mk hc0
 clear hr0 hc0
 have HB := Aside0.mk (Below.refl w.heap.size w)
 have H : (if (l0.length : Int) > 5000 then (some (([] : List ByteArray), ([] : List (S52)), 18)) else (topiaryref13_limited.l0 k l0 ([] : List Int) 0 ([] : List ByteArray))) = some (r1, r2, r3) := h
 clear h
 by_cases c2 : (l0.length : Int) > 5000
 ·rw [if_pos c2] at H
  have c2b0 : decide (5000 < (l0.length : Int)) = true := decide_eq_true c2
  have c2b1 : decide (5000 < l0.length) = true := decide_eq_true (by omega)
  clear c2
  simp only [Option.some.injEq, Prod.mk.injEq] at H
  obtain ⟨rfl, rfl, rfl⟩ := H
  go_enter Try.func39, Try.ntmps39
  go_wp2_with (first | ((with_reducible refine gate_dst (N := 2) rfl ?_); refine box_event ?hg (N := 2) ?hd (cs := #[.slice none 0 0, .slice none 0 0]) (t := 25) ?hr ?_; (case hd => rfl); (case hg => rfl); (case hr => first | (go_simp; done) | (go_simp; rfl)); intro gb270 hg w3 hbox hb; have n0_ := Aside0.mk (below_step (bb_ HB.out) hb); have n1_ := Aside0.mk (hbox); have n2_ := Aside0.mk ((by rw [hg]; exact (below_size (bb_ HB.out)) : w.heap.size ≤ gb270)); have n3_ := Aside0.mk ((by rw [hg]; exact (below_size (bb_ HB.out)) : w.heap.size ≤ gb270)); clear HB; have HB := n0_; have BK270 := n1_; have GW270 := n2_; have GE270 := n3_; clear n0_ n1_ n2_ n3_; clear hb hbox hg; have hcz4_0 : w3.cell? ⟨gb270, 0, none⟩ = some (.slice none 0 0) := (blk_cell BK270.out 0).trans rfl; have hcz4_1 : w3.cell? ⟨gb270, 1, none⟩ = some (.slice none 0 0) := (blk_cell BK270.out 1).trans rfl; have hfz4_0 := blk_frozen BK270.out 0; have hfz4_1 := blk_frozen BK270.out 1))
  refine bodyPost_ret (results_ct rfl _ _ gb270 25 #[.slice none 0 0, .slice none 0 0] (0, 0) _ rfl (by (with_reducible repeat (first | refine blk_drewN ?_ _ | refine blk_drew ?_ | refine blk_alloc ?_ _)); refine blk_put (cs := #[.slice none 0 0, .slice none 0 0]) ?_ 1 _ rfl; (with_reducible repeat (first | refine blk_drewN ?_ _ | refine blk_drew ?_ | refine blk_alloc ?_ _)); refine blk_put (cs := #[.slice none 0 0, .slice none 0 0]) ?_ 0 _ rfl; exact bk_ BK270.out) Try.underlying25 rfl (by kernel_rfl)) rfl ?_
  exact ⟨_, _, by first | rfl | (simp [errW_none, errW_some] <;> rfl) | (simp [*, errW_none, errW_some] <;> rfl), by first | exact Kd.R_nil _ _ _ _ _ | exact Kd.N_nil _ _ _ _ _ | exact Kd.V_nil _ _ _ _ _ | exact Kd.Q_nil _ _ _ _ _ | exact Kd.S_nil _ _ _ _ _, by first | exact Kd.R_nil _ _ _ _ _ | exact Kd.N_nil _ _ _ _ _ | exact Kd.V_nil _ _ _ _ _ | exact Kd.Q_nil _ _ _ _ _ | exact Kd.S_nil _ _ _ _ _, bs_ HB.out GE270.out⟩
 ·rw [if_neg c2] at H
  have c2b0 : decide (5000 < (l0.length : Int)) = false := decide_eq_false c2
  have c2b1 : decide (5000 < l0.length) = false := decide_eq_false (by omega)
  clear c2
  have H' := Aside0.mk H
  clear H
  go_enter Try.func39, Try.ntmps39
  go_wp2_with (first | ((with_reducible refine gate_dst (N := 2) rfl ?_); refine box_event ?hg (N := 2) ?hd (cs := #[.slice none 0 0, .slice none 0 0]) (t := 25) ?hr ?_; (case hd => rfl); (case hg => rfl); (case hr => first | (go_simp; done) | (go_simp; rfl)); intro gb270 hg w5 hbox hb; have n0_ := Aside0.mk (below_step (bb_ HB.out) hb); have n1_ := Aside0.mk (hbox); have n2_ := Aside0.mk ((by rw [hg]; exact (below_size (bb_ HB.out)) : w.heap.size ≤ gb270)); have n3_ := Aside0.mk ((by rw [hg]; exact (below_size (bb_ HB.out)) : w.heap.size ≤ gb270)); clear HB; have HB := n0_; have BK270 := n1_; have GW270 := n2_; have GE270 := n3_; clear n0_ n1_ n2_ n3_; clear hb hbox hg) | ((with_reducible refine gate_dst (N := 4) rfl ?_); refine box_event ?hg (N := 4) ?hd (cs := #[.slice none 0 0, .slice none 0 0]) (t := 25) ?hr ?_; (case hd => rfl); (case hg => rfl); (case hr => first | (go_simp; done) | (go_simp; rfl)); intro gb271 hg w6 hbox hb; have n0_ := Aside0.mk (blk_below (g := gb270) (o := .cells #[.slice none 0 0, .slice none 0 0] 25 (0, 0)) (bk_ BK270.out) hb); have n1_ := Aside0.mk (below_step (bs_ HB.out GE270.out) hb); have n2_ := Aside0.mk (hbox); have n3_ := Aside0.mk ((by rw [hg]; exact (below_size (bs_ HB.out GE270.out)) : w.heap.size ≤ gb271)); have n4_ := Aside0.mk ((by rw [hg]; exact (below_size (bs_ HB.out GE270.out)) : w.heap.size ≤ gb271)); have n5_ := Aside0.mk ((by rw [hg]; exact Nat.ne_of_lt (blk_lt (g := gb270) (o := .cells #[.slice none 0 0, .slice none 0 0] 25 (0, 0)) (bk_ BK270.out)) : gb270 ≠ gb271)); have n6_ := Aside0.mk ((by rw [hg]; exact Nat.ne_of_gt (blk_lt (g := gb270) (o := .cells #[.slice none 0 0, .slice none 0 0] 25 (0, 0)) (bk_ BK270.out)) : gb271 ≠ gb270)); clear BK270; clear HB; have BK270 := n0_; have HB := n1_; have BK271 := n2_; have GW271 := n3_; have GE271 := n4_; have NB270_271 := n5_; have NB271_270 := n6_; clear n0_ n1_ n2_ n3_ n4_ n5_ n6_; clear hb hbox hg))
  go_loopg [5, 6] k (fun kq v5 v6 w' => ∃ (x5_1 : List Int) (x6_1 : Int) (x272000_1 : List ByteArray) (u272000 : Value), v6 = .int .i64 x6_1 ∧ Aside0 (topiaryref13_limited.l0 kq l0 x5_1 x6_1 x272000_1 = some (r1, r2, r3)) ∧ Aside0 (kq ≤ k) ∧ Aside0 (Kd.R (Kd.int .i64) 3 w' w.heap.size (fun _ => True) v5 x5_1) ∧ Aside0 (Kd.R Kd.string 9 w' w.heap.size (fun _ => True) u272000 x272000_1) ∧ Aside0 (w'.heap[gb270]? = some (.cells #[(.slice none 0 0), (.slice none 0 0)] 25 (0, 0))) ∧ Aside0 (w'.heap[gb271]? = some (.cells #[u272000, (.slice none 0 0)] 25 (0, 0))) ∧ Aside0 (Below w.heap.size w w'))
  case atStart => exact ⟨(([] : List Int)), (0), (([] : List ByteArray)), (.slice none 0 0), sm_, H', ⟨Nat.le_refl _⟩, ⟨by first | exact Kd.R_nil _ _ _ _ _ | exact Kd.N_nil _ _ _ _ _ | exact Kd.V_nil _ _ _ _ _ | exact Kd.Q_nil _ _ _ _ _ | exact Kd.S_nil _ _ _ _ _⟩, ⟨by first | exact Kd.R_nil _ _ _ _ _ | exact Kd.N_nil _ _ _ _ _ | exact Kd.V_nil _ _ _ _ _ | exact Kd.Q_nil _ _ _ _ _ | exact Kd.S_nil _ _ _ _ _⟩, ⟨bk_ BK270.out⟩, ⟨bk_ BK271.out⟩, ⟨bt_ HB.out GE270.out GE271.out⟩⟩
  case round =>
   clear H'
   try clear c2
   try clear c2b0
   try clear c2b1
   try clear p2
   try clear c3
   try clear hcz4_0
   try clear hcz4_1
   try clear hfz4_0
   try clear hfz4_1
   obtain ⟨x5_1, x6_1, x272000_1, u272000, rfl, HA, HK1, HO_5, HO_272000, BK270, BK271, HB⟩ := hrel
   cases gk with
   | zero => exact absurd HA.out (by simp [topiaryref13_limited.l0])
   | succ k1 =>
    have H := HA.out
    clear HA
    simp only [topiaryref13_limited.l0] at H
    by_cases c7 : x6_1 < (l0.length : Int)
    ·rw [if_pos c7] at H
     have c7b0 : decide (x6_1 < (l0.length : Int)) = true := decide_eq_true c7
     clear c7
     by_cases c8 : 0 ≤ x6_1
     ·rw [if_pos c8] at H
      have c8b0 : decide (0 ≤ x6_1) = true := decide_eq_true c8
      clear c8
      have HC9 := Aside0.mk H
      clear H
      have p272 : 0 ≤ (x6_1 : Int) := of_decide_eq_true as_
      have q272 : x6_1 < (l0.length : Int) := of_decide_eq_true as_
      obtain ⟨ad272, e272, hx272_0, hx272_1, hx272_2, hx272_3, hx272_4⟩ := at_T74 HR0.out x6_1 p272 q272
      cases e272
      replace hx272_0 := (HB.out.cell (World.block_lt_of_cell? w _ hx272_0)).trans hx272_0
      replace hx272_1 := (HB.out.cell (World.block_lt_of_cell? w _ hx272_1)).trans hx272_1
      replace hx272_2 := (HB.out.cell (World.block_lt_of_cell? w _ hx272_2)).trans hx272_2
      replace hx272_3 := (HB.out.cell (World.block_lt_of_cell? w _ hx272_3)).trans hx272_3
      replace hx272_4 := (HB.out.cell (World.block_lt_of_cell? w _ hx272_4)).trans hx272_4
      replace p272 := eq_true p272
      replace q272 := eq_true q272
      go_upto_if 28 with (first | ((with_reducible refine gate_dst (N := 7) rfl ?_); refine box_event ?hg (N := 7) ?hd (cs := #[.int .i64 0, .int .i64 0, .int .i64 0, .string (⟨#[]⟩ : ByteArray), .string (⟨#[]⟩ : ByteArray)]) (t := 74) ?hr ?_; (case hd => rfl); (case hg => rfl); (case hr => first | (go_simp; done) | (go_simp; rfl)); intro gb273 hg w10 hbox hb; have n0_ := Aside0.mk (Kd.R_below (rr_ HO_5.out) hb); have n1_ := Aside0.mk (Kd.R_below (rr_ HO_272000.out) hb); have n2_ := Aside0.mk (blk_below (g := gb270) (o := .cells #[.slice none 0 0, .slice none 0 0] 25 (0, 0)) (bk_ BK270.out) hb); have n3_ := Aside0.mk (blk_below (g := gb271) (o := .cells #[u272000, .slice none 0 0] 25 (0, 0)) (bk_ BK271.out) hb); have n4_ := Aside0.mk (below_step (bt_ HB.out GE270.out GE271.out) hb); have n5_ := Aside0.mk (hbox); have n6_ := Aside0.mk ((by rw [hg]; exact (below_size (bt_ HB.out GE270.out GE271.out)) : w.heap.size ≤ gb273)); have n7_ := Aside0.mk ((by rw [hg]; exact (below_size (bt_ HB.out GE270.out GE271.out)) : w.heap.size ≤ gb273)); have n8_ := Aside0.mk ((by rw [hg]; exact Nat.ne_of_lt (blk_lt (g := gb270) (o := .cells #[.slice none 0 0, .slice none 0 0] 25 (0, 0)) (bk_ BK270.out)) : gb270 ≠ gb273)); have n9_ := Aside0.mk ((by rw [hg]; exact Nat.ne_of_gt (blk_lt (g := gb270) (o := .cells #[.slice none 0 0, .slice none 0 0] 25 (0, 0)) (bk_ BK270.out)) : gb273 ≠ gb270)); have n10_ := Aside0.mk ((by rw [hg]; exact Nat.ne_of_lt (blk_lt (g := gb271) (o := .cells #[u272000, .slice none 0 0] 25 (0, 0)) (bk_ BK271.out)) : gb271 ≠ gb273)); have n11_ := Aside0.mk ((by rw [hg]; exact Nat.ne_of_gt (blk_lt (g := gb271) (o := .cells #[u272000, .slice none 0 0] 25 (0, 0)) (bk_ BK271.out)) : gb273 ≠ gb271)); clear HO_5; clear HO_272000; clear BK270; clear BK271; clear HB; have HO_5 := n0_; have HO_272000 := n1_; have BK270 := n2_; have BK271 := n3_; have HB := n4_; have BK273 := n5_; have GW273 := n6_; have GE273 := n7_; have NB270_273 := n8_; have NB273_270 := n9_; have NB271_273 := n10_; have NB273_271 := n11_; clear n0_ n1_ n2_ n3_ n4_ n5_ n6_ n7_ n8_ n9_ n10_ n11_; clear hb hbox hg; have hnb11 := NB273_270.out; have hnc11 := NB270_273.out; have hnb12 := NB273_271.out; have hnc12 := NB271_273.out; have hcz13_0 : w10.cell? ⟨gb273, 0, none⟩ = some (.int .i64 0) := (blk_cell BK273.out 0).trans rfl; have hcz13_1 : w10.cell? ⟨gb273, 1, none⟩ = some (.int .i64 0) := (blk_cell BK273.out 1).trans rfl; have hcz13_2 : w10.cell? ⟨gb273, 2, none⟩ = some (.int .i64 0) := (blk_cell BK273.out 2).trans rfl; have hcz13_3 : w10.cell? ⟨gb273, 3, none⟩ = some (.string (⟨#[]⟩ : ByteArray)) := (blk_cell BK273.out 3).trans rfl; have hcz13_4 : w10.cell? ⟨gb273, 4, none⟩ = some (.string (⟨#[]⟩ : ByteArray)) := (blk_cell BK273.out 4).trans rfl; have hfz13_0 := blk_frozen BK273.out 0; have hfz13_1 := blk_frozen BK273.out 1; have hfz13_2 := blk_frozen BK273.out 2; have hfz13_3 := blk_frozen BK273.out 3; have hfz13_4 := blk_frozen BK273.out 4))
      (try simp only [Act.put, List.setIfInBounds_toArray, List.set_cons_zero, List.set_cons_succ])
      go_cut [8] (fun v8 wc => ∃ (kq : Nat) (x8_8 : Int), v8 = .int .i64 x8_8 ∧ Aside0 (topiaryref13_limited.j1 kq l0 x5_1 x6_1 x8_8 x272000_1 ((rd_T74 l0 x6_1).f0.f0) ((rd_T74 l0 x6_1).f0.f1) ((rd_T74 l0 x6_1).f0.f2) ((rd_T74 l0 x6_1).f0.f3) ((rd_T74 l0 x6_1).f1) = some (r1, r2, r3)) ∧ Aside0 (kq ≤ k1) ∧ Aside0 (Kd.R (Kd.int .i64) 3 wc w.heap.size (fun _ => True) u5 x5_1) ∧ Aside0 (Kd.R Kd.string 9 wc w.heap.size (fun _ => True) u272000 x272000_1) ∧ Aside0 (wc.heap[gb270]? = some (.cells #[(.slice none 0 0), (.slice none 0 0)] 25 (0, 0))) ∧ Aside0 (wc.heap[gb271]? = some (.cells #[u272000, (.slice none 0 0)] 25 (0, 0))) ∧ Aside0 (wc.heap[gb273]? = some (.cells #[.int .i64 ((rd_T74 l0 x6_1).f0.f0), .int .i64 ((rd_T74 l0 x6_1).f0.f1), .int .i64 ((rd_T74 l0 x6_1).f0.f2), .string ((rd_T74 l0 x6_1).f0.f3), .string ((rd_T74 l0 x6_1).f1)] 74 (0, 0))) ∧ Aside0 (Below w.heap.size w wc))
      case first =>
       have H := HC9.out
       clear HC9
       by_cases c14 : ((rd_T74 l0 x6_1).f0.f2) ≥ 0
       ·rw [if_pos c14] at H
        have c14b0 : decide (0 ≤ ((rd_T74 l0 x6_1).f0.f2)) = true := decide_eq_true c14
        clear c14
        (first | rw [c14b0] | (simp only [i64_w, i32_w]; rw [c14b0]) | skip)
        by_cases c15 : 0 ≤ ((rd_T74 l0 x6_1).f0.f2)
        ·rw [if_pos c15] at H
         have c15b0 : decide (0 ≤ ((rd_T74 l0 x6_1).f0.f2)) = true := decide_eq_true c15
         clear c15
         by_cases c16 : ((rd_T74 l0 x6_1).f0.f2) < (x5_1.length : Int)
         ·rw [if_pos c16] at H
          have c16b0 : decide (((rd_T74 l0 x6_1).f0.f2) < (x5_1.length : Int)) = true := decide_eq_true c16
          clear c16
          have H' := Aside0.mk H
          clear H
          have hnb17 := NB273_270.out
          have hnc17 := NB270_273.out
          have hnb18 := NB273_271.out
          have hnc18 := NB271_273.out
          have hcz19_0 : w10.cell? ⟨gb273, 0, none⟩ = some (.int .i64 0) := (blk_cell BK273.out 0).trans rfl
          have hcz19_1 : w10.cell? ⟨gb273, 1, none⟩ = some (.int .i64 0) := (blk_cell BK273.out 1).trans rfl
          have hcz19_2 : w10.cell? ⟨gb273, 2, none⟩ = some (.int .i64 0) := (blk_cell BK273.out 2).trans rfl
          have hcz19_3 : w10.cell? ⟨gb273, 3, none⟩ = some (.string (⟨#[]⟩ : ByteArray)) := (blk_cell BK273.out 3).trans rfl
          have hcz19_4 : w10.cell? ⟨gb273, 4, none⟩ = some (.string (⟨#[]⟩ : ByteArray)) := (blk_cell BK273.out 4).trans rfl
          have hfz19_0 := blk_frozen BK273.out 0
          have hfz19_1 := blk_frozen BK273.out 1
          have hfz19_2 := blk_frozen BK273.out 2
          have hfz19_3 := blk_frozen BK273.out 3
          have hfz19_4 := blk_frozen BK273.out 4
          obtain ⟨Ao20, co20, eo20⟩ := Kd.R_slice HO_5.out
          subst eo20
          have p274 : 0 ≤ (((rd_T74 l0 x6_1).f0.f2) : Int) := of_decide_eq_true as_
          have q274 : ((rd_T74 l0 x6_1).f0.f2) < (x5_1.length : Int) := of_decide_eq_true as_
          obtain ⟨ad274, e274, hx274_0⟩ := Kd.at_int (Kd.R_reads' HO_5.out).2.2 ((rd_T74 l0 x6_1).f0.f2) p274 q274
          cases e274
          have hn274_0 : ad274.block ≠ gb273 := Kd.own_blk (Kd.R_ne HO_5.out BK273.out (by decide))
          have hn274_1 : ad274.block ≠ gb273 := Kd.own_blk (Kd.R_ne HO_5.out BK273.out (by decide))
          have hn274_2 : ad274.block ≠ gb273 := Kd.own_blk (Kd.R_ne HO_5.out BK273.out (by decide))
          have hn274_3 : ad274.block ≠ gb273 := Kd.own_blk (Kd.R_ne HO_5.out BK273.out (by decide))
          have hn274_4 : ad274.block ≠ gb273 := Kd.own_blk (Kd.R_ne HO_5.out BK273.out (by decide))
          replace hx274_0 := (cell_far (p := ⟨gb273, 0, none⟩) (by first | (rw [add_block]; exact hn274_0) | (show (Addr.add _ _).block ≠ _; rw [add_block]; exact hn274_0) | exact hn274_0) (.int .i64 ((rd_T74 l0 x6_1).f0.f0))).trans hx274_0
          replace hx274_0 := (cell_far (p := ⟨gb273, 1, none⟩) (by first | (rw [add_block]; exact hn274_1) | (show (Addr.add _ _).block ≠ _; rw [add_block]; exact hn274_1) | exact hn274_1) (.int .i64 ((rd_T74 l0 x6_1).f0.f1))).trans hx274_0
          replace hx274_0 := (cell_far (p := ⟨gb273, 2, none⟩) (by first | (rw [add_block]; exact hn274_2) | (show (Addr.add _ _).block ≠ _; rw [add_block]; exact hn274_2) | exact hn274_2) (.int .i64 ((rd_T74 l0 x6_1).f0.f2))).trans hx274_0
          replace hx274_0 := (cell_far (p := ⟨gb273, 3, none⟩) (by first | (rw [add_block]; exact hn274_3) | (show (Addr.add _ _).block ≠ _; rw [add_block]; exact hn274_3) | exact hn274_3) (.string ((rd_T74 l0 x6_1).f0.f3))).trans hx274_0
          replace hx274_0 := (cell_far (p := ⟨gb273, 4, none⟩) (by first | (rw [add_block]; exact hn274_4) | (show (Addr.add _ _).block ≠ _; rw [add_block]; exact hn274_4) | exact hn274_4) (.string ((rd_T74 l0 x6_1).f1))).trans hx274_0
          clear hn274_0
          clear hn274_1
          clear hn274_2
          clear hn274_3
          clear hn274_4
          replace p274 := eq_true p274
          replace q274 := eq_true q274
          go_wp2
          go_meet
          case rel => exact ⟨_, (wrap64 ((rd x5_1 ((rd_T74 l0 x6_1).f0.f2)) + 1)), sm_, H', ⟨by have := HK1.out; first | omega | exact Nat.le_refl _⟩, ⟨by (with_reducible repeat (first | apply Kd.R_alloc | apply Kd.R_drewN | apply Kd.R_drew)); exact Kd.R_mono (Kd.R_far (p := ⟨gb273, 4, none⟩) (Kd.R_far (p := ⟨gb273, 3, none⟩) (Kd.R_far (p := ⟨gb273, 2, none⟩) (Kd.R_far (p := ⟨gb273, 1, none⟩) (Kd.R_far (p := ⟨gb273, 0, none⟩) (Kd.R_types HO_5.out BK273.out (by decide)) (fun _ hk => hk.2) (.int .i64 ((rd_T74 l0 x6_1).f0.f0))) (fun _ hk => hk.2) (.int .i64 ((rd_T74 l0 x6_1).f0.f1))) (fun _ hk => hk.2) (.int .i64 ((rd_T74 l0 x6_1).f0.f2))) (fun _ hk => hk.2) (.string ((rd_T74 l0 x6_1).f0.f3))) (fun _ hk => hk.2) (.string ((rd_T74 l0 x6_1).f1))) (fun _ hk => trivial)⟩, ⟨by (with_reducible repeat (first | apply Kd.R_alloc | apply Kd.R_drewN | apply Kd.R_drew)); exact Kd.R_mono (Kd.R_far (p := ⟨gb273, 4, none⟩) (Kd.R_far (p := ⟨gb273, 3, none⟩) (Kd.R_far (p := ⟨gb273, 2, none⟩) (Kd.R_far (p := ⟨gb273, 1, none⟩) (Kd.R_far (p := ⟨gb273, 0, none⟩) (Kd.R_types HO_272000.out BK273.out (by decide)) (fun _ hk => hk.2) (.int .i64 ((rd_T74 l0 x6_1).f0.f0))) (fun _ hk => hk.2) (.int .i64 ((rd_T74 l0 x6_1).f0.f1))) (fun _ hk => hk.2) (.int .i64 ((rd_T74 l0 x6_1).f0.f2))) (fun _ hk => hk.2) (.string ((rd_T74 l0 x6_1).f0.f3))) (fun _ hk => hk.2) (.string ((rd_T74 l0 x6_1).f1))) (fun _ hk => trivial)⟩, ⟨by (with_reducible repeat (first | refine blk_drewN ?_ _ | refine blk_drew ?_ | refine blk_alloc ?_ _)); refine blk_far ?_ NB270_273.out _; (with_reducible repeat (first | refine blk_drewN ?_ _ | refine blk_drew ?_ | refine blk_alloc ?_ _)); refine blk_far ?_ NB270_273.out _; (with_reducible repeat (first | refine blk_drewN ?_ _ | refine blk_drew ?_ | refine blk_alloc ?_ _)); refine blk_far ?_ NB270_273.out _; (with_reducible repeat (first | refine blk_drewN ?_ _ | refine blk_drew ?_ | refine blk_alloc ?_ _)); refine blk_far ?_ NB270_273.out _; (with_reducible repeat (first | refine blk_drewN ?_ _ | refine blk_drew ?_ | refine blk_alloc ?_ _)); refine blk_far ?_ NB270_273.out _; exact bk_ BK270.out⟩, ⟨by (with_reducible repeat (first | refine blk_drewN ?_ _ | refine blk_drew ?_ | refine blk_alloc ?_ _)); refine blk_far ?_ NB271_273.out _; (with_reducible repeat (first | refine blk_drewN ?_ _ | refine blk_drew ?_ | refine blk_alloc ?_ _)); refine blk_far ?_ NB271_273.out _; (with_reducible repeat (first | refine blk_drewN ?_ _ | refine blk_drew ?_ | refine blk_alloc ?_ _)); refine blk_far ?_ NB271_273.out _; (with_reducible repeat (first | refine blk_drewN ?_ _ | refine blk_drew ?_ | refine blk_alloc ?_ _)); refine blk_far ?_ NB271_273.out _; (with_reducible repeat (first | refine blk_drewN ?_ _ | refine blk_drew ?_ | refine blk_alloc ?_ _)); refine blk_far ?_ NB271_273.out _; exact bk_ BK271.out⟩, ⟨by (with_reducible repeat (first | refine blk_drewN ?_ _ | refine blk_drew ?_ | refine blk_alloc ?_ _)); refine blk_put (cs := #[.int .i64 ((rd_T74 l0 x6_1).f0.f0), .int .i64 ((rd_T74 l0 x6_1).f0.f1), .int .i64 ((rd_T74 l0 x6_1).f0.f2), .string ((rd_T74 l0 x6_1).f0.f3), .string (⟨#[]⟩ : ByteArray)]) ?_ 4 _ rfl; (with_reducible repeat (first | refine blk_drewN ?_ _ | refine blk_drew ?_ | refine blk_alloc ?_ _)); refine blk_put (cs := #[.int .i64 ((rd_T74 l0 x6_1).f0.f0), .int .i64 ((rd_T74 l0 x6_1).f0.f1), .int .i64 ((rd_T74 l0 x6_1).f0.f2), .string (⟨#[]⟩ : ByteArray), .string (⟨#[]⟩ : ByteArray)]) ?_ 3 _ rfl; (with_reducible repeat (first | refine blk_drewN ?_ _ | refine blk_drew ?_ | refine blk_alloc ?_ _)); refine blk_put (cs := #[.int .i64 ((rd_T74 l0 x6_1).f0.f0), .int .i64 ((rd_T74 l0 x6_1).f0.f1), .int .i64 0, .string (⟨#[]⟩ : ByteArray), .string (⟨#[]⟩ : ByteArray)]) ?_ 2 _ rfl; (with_reducible repeat (first | refine blk_drewN ?_ _ | refine blk_drew ?_ | refine blk_alloc ?_ _)); refine blk_put (cs := #[.int .i64 ((rd_T74 l0 x6_1).f0.f0), .int .i64 0, .int .i64 0, .string (⟨#[]⟩ : ByteArray), .string (⟨#[]⟩ : ByteArray)]) ?_ 1 _ rfl; (with_reducible repeat (first | refine blk_drewN ?_ _ | refine blk_drew ?_ | refine blk_alloc ?_ _)); refine blk_put (cs := #[.int .i64 0, .int .i64 0, .int .i64 0, .string (⟨#[]⟩ : ByteArray), .string (⟨#[]⟩ : ByteArray)]) ?_ 0 _ rfl; exact bk_ BK273.out⟩, ⟨bu_ HB.out GE270.out GE271.out GE273.out⟩⟩
         ·rw [if_neg c16] at H
          exact absurd H (by simp)
        ·rw [if_neg c15] at H
         exact absurd H (by simp)
       ·rw [if_neg c14] at H
        have c14b0 : decide (0 ≤ ((rd_T74 l0 x6_1).f0.f2)) = false := decide_eq_false c14
        clear c14
        (first | rw [c14b0] | (simp only [i64_w, i32_w]; rw [c14b0]) | skip)
        have H' := Aside0.mk H
        clear H
        go_wp2
        go_meet
        case rel => exact ⟨_, (0), sm_, H', ⟨by have := HK1.out; first | omega | exact Nat.le_refl _⟩, ⟨by (with_reducible repeat (first | apply Kd.R_alloc | apply Kd.R_drewN | apply Kd.R_drew)); exact Kd.R_mono (Kd.R_far (p := ⟨gb273, 4, none⟩) (Kd.R_far (p := ⟨gb273, 3, none⟩) (Kd.R_far (p := ⟨gb273, 2, none⟩) (Kd.R_far (p := ⟨gb273, 1, none⟩) (Kd.R_far (p := ⟨gb273, 0, none⟩) (Kd.R_types HO_5.out BK273.out (by decide)) (fun _ hk => hk.2) (.int .i64 ((rd_T74 l0 x6_1).f0.f0))) (fun _ hk => hk.2) (.int .i64 ((rd_T74 l0 x6_1).f0.f1))) (fun _ hk => hk.2) (.int .i64 ((rd_T74 l0 x6_1).f0.f2))) (fun _ hk => hk.2) (.string ((rd_T74 l0 x6_1).f0.f3))) (fun _ hk => hk.2) (.string ((rd_T74 l0 x6_1).f1))) (fun _ hk => trivial)⟩, ⟨by (with_reducible repeat (first | apply Kd.R_alloc | apply Kd.R_drewN | apply Kd.R_drew)); exact Kd.R_mono (Kd.R_far (p := ⟨gb273, 4, none⟩) (Kd.R_far (p := ⟨gb273, 3, none⟩) (Kd.R_far (p := ⟨gb273, 2, none⟩) (Kd.R_far (p := ⟨gb273, 1, none⟩) (Kd.R_far (p := ⟨gb273, 0, none⟩) (Kd.R_types HO_272000.out BK273.out (by decide)) (fun _ hk => hk.2) (.int .i64 ((rd_T74 l0 x6_1).f0.f0))) (fun _ hk => hk.2) (.int .i64 ((rd_T74 l0 x6_1).f0.f1))) (fun _ hk => hk.2) (.int .i64 ((rd_T74 l0 x6_1).f0.f2))) (fun _ hk => hk.2) (.string ((rd_T74 l0 x6_1).f0.f3))) (fun _ hk => hk.2) (.string ((rd_T74 l0 x6_1).f1))) (fun _ hk => trivial)⟩, ⟨by (with_reducible repeat (first | refine blk_drewN ?_ _ | refine blk_drew ?_ | refine blk_alloc ?_ _)); refine blk_far ?_ NB270_273.out _; (with_reducible repeat (first | refine blk_drewN ?_ _ | refine blk_drew ?_ | refine blk_alloc ?_ _)); refine blk_far ?_ NB270_273.out _; (with_reducible repeat (first | refine blk_drewN ?_ _ | refine blk_drew ?_ | refine blk_alloc ?_ _)); refine blk_far ?_ NB270_273.out _; (with_reducible repeat (first | refine blk_drewN ?_ _ | refine blk_drew ?_ | refine blk_alloc ?_ _)); refine blk_far ?_ NB270_273.out _; (with_reducible repeat (first | refine blk_drewN ?_ _ | refine blk_drew ?_ | refine blk_alloc ?_ _)); refine blk_far ?_ NB270_273.out _; exact bk_ BK270.out⟩, ⟨by (with_reducible repeat (first | refine blk_drewN ?_ _ | refine blk_drew ?_ | refine blk_alloc ?_ _)); refine blk_far ?_ NB271_273.out _; (with_reducible repeat (first | refine blk_drewN ?_ _ | refine blk_drew ?_ | refine blk_alloc ?_ _)); refine blk_far ?_ NB271_273.out _; (with_reducible repeat (first | refine blk_drewN ?_ _ | refine blk_drew ?_ | refine blk_alloc ?_ _)); refine blk_far ?_ NB271_273.out _; (with_reducible repeat (first | refine blk_drewN ?_ _ | refine blk_drew ?_ | refine blk_alloc ?_ _)); refine blk_far ?_ NB271_273.out _; (with_reducible repeat (first | refine blk_drewN ?_ _ | refine blk_drew ?_ | refine blk_alloc ?_ _)); refine blk_far ?_ NB271_273.out _; exact bk_ BK271.out⟩, ⟨by (with_reducible repeat (first | refine blk_drewN ?_ _ | refine blk_drew ?_ | refine blk_alloc ?_ _)); refine blk_put (cs := #[.int .i64 ((rd_T74 l0 x6_1).f0.f0), .int .i64 ((rd_T74 l0 x6_1).f0.f1), .int .i64 ((rd_T74 l0 x6_1).f0.f2), .string ((rd_T74 l0 x6_1).f0.f3), .string (⟨#[]⟩ : ByteArray)]) ?_ 4 _ rfl; (with_reducible repeat (first | refine blk_drewN ?_ _ | refine blk_drew ?_ | refine blk_alloc ?_ _)); refine blk_put (cs := #[.int .i64 ((rd_T74 l0 x6_1).f0.f0), .int .i64 ((rd_T74 l0 x6_1).f0.f1), .int .i64 ((rd_T74 l0 x6_1).f0.f2), .string (⟨#[]⟩ : ByteArray), .string (⟨#[]⟩ : ByteArray)]) ?_ 3 _ rfl; (with_reducible repeat (first | refine blk_drewN ?_ _ | refine blk_drew ?_ | refine blk_alloc ?_ _)); refine blk_put (cs := #[.int .i64 ((rd_T74 l0 x6_1).f0.f0), .int .i64 ((rd_T74 l0 x6_1).f0.f1), .int .i64 0, .string (⟨#[]⟩ : ByteArray), .string (⟨#[]⟩ : ByteArray)]) ?_ 2 _ rfl; (with_reducible repeat (first | refine blk_drewN ?_ _ | refine blk_drew ?_ | refine blk_alloc ?_ _)); refine blk_put (cs := #[.int .i64 ((rd_T74 l0 x6_1).f0.f0), .int .i64 0, .int .i64 0, .string (⟨#[]⟩ : ByteArray), .string (⟨#[]⟩ : ByteArray)]) ?_ 1 _ rfl; (with_reducible repeat (first | refine blk_drewN ?_ _ | refine blk_drew ?_ | refine blk_alloc ?_ _)); refine blk_put (cs := #[.int .i64 0, .int .i64 0, .int .i64 0, .string (⟨#[]⟩ : ByteArray), .string (⟨#[]⟩ : ByteArray)]) ?_ 0 _ rfl; exact bk_ BK273.out⟩, ⟨bu_ HB.out GE270.out GE271.out GE273.out⟩⟩
      case rest =>
       clear HC9
       try clear c1
       try clear c2
       try clear c2b0
       try clear c2b1
       try clear p2
       try clear q2
       try clear hx2
       try clear c3
       try clear p6
       try clear c7
       try clear c7b0
       try clear c8
       try clear c8b0
       try clear c11
       try clear c12
       try clear c14
       try clear c14b0
       try clear c15
       try clear c15b0
       try clear c16
       try clear c16b0
       try clear c17
       try clear c18
       try clear hcz13_0
       try clear hcz13_1
       try clear hcz13_2
       try clear hcz13_3
       try clear hcz13_4
       try clear hcz19_0
       try clear hcz19_1
       try clear hcz19_2
       try clear hcz19_3
       try clear hcz19_4
       try clear hcz4_0
       try clear hcz4_1
       try clear hfz13_0
       try clear hfz13_1
       try clear hfz13_2
       try clear hfz13_3
       try clear hfz13_4
       try clear hfz19_0
       try clear hfz19_1
       try clear hfz19_2
       try clear hfz19_3
       try clear hfz19_4
       try clear hfz4_0
       try clear hfz4_1
       try clear hx272_0
       try clear hx272_1
       try clear hx272_2
       try clear hx272_3
       try clear hx272_4
       try clear hx274_0
       try clear p2
       try clear p272
       try clear p274
       try clear q272
       try clear q274
       obtain ⟨kq, x8_8, rfl, HA, HJ8, HO_5, HO_272000, BK270, BK271, BK273, HB⟩ := hcut
       cases kq with
       | zero => exact absurd HA.out (by simp [topiaryref13_limited.j1])
       | succ kj8 =>
        have H := HA.out
        clear HA
        simp only [topiaryref13_limited.j1] at H
        by_cases c21 : x5_1.length < 17592186044416
        ·rw [if_pos c21] at H
         have LMc21 := Aside0.mk c21
         clear c21
         obtain ⟨y275, hy275⟩ : ∃ y_ : List Int, y_ = (x5_1 ++ [x8_8]) := ⟨_, rfl⟩
         replace H : (if ((rd_T74 l0 x6_1).f0.f0) = 1 then (topiaryref13_limited.j2 kj8 l0 y275 x6_1 (decide (x8_8 > 64)) x272000_1 ((rd_T74 l0 x6_1).f0.f0) ((rd_T74 l0 x6_1).f0.f1) ((rd_T74 l0 x6_1).f0.f2) ((rd_T74 l0 x6_1).f0.f3) ((rd_T74 l0 x6_1).f1)) else (topiaryref13_limited.j2 kj8 l0 y275 x6_1 false x272000_1 ((rd_T74 l0 x6_1).f0.f0) ((rd_T74 l0 x6_1).f0.f1) ((rd_T74 l0 x6_1).f0.f2) ((rd_T74 l0 x6_1).f0.f3) ((rd_T74 l0 x6_1).f1))) = some (r1, r2, r3) := by first | (rw [hy275]; with_reducible exact H) | (have H2_ := (Option.bind_some _ _).symm.trans H; rw [hy275]; with_reducible exact H2_) | (have H2_ := (Option.bind_some _ _).symm.trans H; with_reducible exact H2_) | with_reducible exact H | (rw [hy275]; exact H) | exact H
         have Ny275 := Aside0.mk hy275
         clear hy275
         have HC22 := Aside0.mk H
         clear H
         go_upto_region 13 with (first | ((with_reducible refine gate_builtin (b := .append) (xs := #[.tmp 36, .tmp 38]) rfl ?_); at_builtin; refine Kd.R_append (Kd.int .i64) (w0 := w) w.heap.size rfl (.tmp 36) (.tmp 38) 29 3 (.int .i64 0) 8 rfl Try.underlying29 info3 rfl (by decide) (by omega) u5 x5_1 x8_8 [.int .i64 x8_8] (fun _ => True) (fun _ => False) rfl rfl ?aP (fun _ hk => hk.elim) ?aF ?aO ?aB ?aS ?aL ?_; (case aP => exact rfl); (case aB => exact (bu_ HB.out GE270.out GE271.out GE273.out)); (case aF => exact (fun _ _ => trivial)); (case aO => exact (rr_ HO_5.out)); (case aS => exact (below_size (bu_ HB.out GE270.out GE271.out GE273.out))); (case aL => have := LMc21.out; omega); intro v276 w23 ho hb hg hat; rw [← Ny275.out] at ho; have n0_ := Aside0.mk (Kd.R_over' (rr_ HO_272000.out) (Kd.R_typed (rr_ HO_5.out)) (by decide) hg); have n1_ := Aside0.mk (blk_grown (g := gb270) (o := .cells #[.slice none 0 0, .slice none 0 0] 25 (0, 0)) (bk_ BK270.out) hg (Kd.R_ne HO_5.out BK270.out (by decide))); have n2_ := Aside0.mk (blk_grown (g := gb271) (o := .cells #[u272000, .slice none 0 0] 25 (0, 0)) (bk_ BK271.out) hg (Kd.R_ne HO_5.out BK271.out (by decide))); have n3_ := Aside0.mk (blk_grown (g := gb273) (o := .cells #[.int .i64 ((rd_T74 l0 x6_1).f0.f0), .int .i64 ((rd_T74 l0 x6_1).f0.f1), .int .i64 ((rd_T74 l0 x6_1).f0.f2), .string ((rd_T74 l0 x6_1).f0.f3), .string ((rd_T74 l0 x6_1).f1)] 74 (0, 0)) (bk_ BK273.out) hg (Kd.R_ne HO_5.out BK273.out (by decide))); have n4_ := Aside0.mk (hb); have n5_ := Aside0.mk (ho); clear HO_272000; clear BK270; clear BK271; clear BK273; clear HB; clear HO_5; have HO_272000 := n0_; have BK270 := n1_; have BK271 := n2_; have BK273 := n3_; have HB := n4_; have HO277 := n5_; clear n0_ n1_ n2_ n3_ n4_ n5_; clear ho hb hg hat))
         (try simp only [Act.put, List.setIfInBounds_toArray, List.set_cons_zero, List.set_cons_succ])
         go_cut [47] (fun v47 wc => ∃ (kq : Nat) (x47_21 : Bool), v47 = .bool x47_21 ∧ Aside0 (topiaryref13_limited.j2 kq l0 y275 x6_1 x47_21 x272000_1 ((rd_T74 l0 x6_1).f0.f0) ((rd_T74 l0 x6_1).f0.f1) ((rd_T74 l0 x6_1).f0.f2) ((rd_T74 l0 x6_1).f0.f3) ((rd_T74 l0 x6_1).f1) = some (r1, r2, r3)) ∧ Aside0 (kq ≤ kj8) ∧ Aside0 (Kd.R (Kd.int .i64) 3 wc w.heap.size (fun _ => True) v276 y275) ∧ Aside0 (Kd.R Kd.string 9 wc w.heap.size (fun _ => True) u272000 x272000_1) ∧ Aside0 (wc.heap[gb270]? = some (.cells #[(.slice none 0 0), (.slice none 0 0)] 25 (0, 0))) ∧ Aside0 (wc.heap[gb271]? = some (.cells #[u272000, (.slice none 0 0)] 25 (0, 0))) ∧ Aside0 (wc.heap[gb273]? = some (.cells #[.int .i64 ((rd_T74 l0 x6_1).f0.f0), .int .i64 ((rd_T74 l0 x6_1).f0.f1), .int .i64 ((rd_T74 l0 x6_1).f0.f2), .string ((rd_T74 l0 x6_1).f0.f3), .string ((rd_T74 l0 x6_1).f1)] 74 (0, 0))) ∧ Aside0 (Below w.heap.size w wc))
         case first =>
          have H := HC22.out
          clear HC22
          by_cases c24 : ((rd_T74 l0 x6_1).f0.f0) = 1
          ·rw [if_pos c24] at H
           have c24b0 : (((rd_T74 l0 x6_1).f0.f0) == 1) = true := beq_iff_eq.mpr c24
           have c24b1 : (((rd_T74 l0 x6_1).f0.f0) != 1) = false := bne_eq_false_iff_eq.mpr c24
           clear c24
           (first | rw [c24b0] | (simp only [i64_w, i32_w]; rw [c24b0]) | skip)
           have H' := Aside0.mk H
           clear H
           have hnb25 := NB273_270.out
           have hnc25 := NB270_273.out
           have hnb26 := NB273_271.out
           have hnc26 := NB271_273.out
           have hcz27_0 : w23.cell? ⟨gb273, 0, none⟩ = some (.int .i64 ((rd_T74 l0 x6_1).f0.f0)) := (blk_cell BK273.out 0).trans rfl
           have hcz27_1 : w23.cell? ⟨gb273, 1, none⟩ = some (.int .i64 ((rd_T74 l0 x6_1).f0.f1)) := (blk_cell BK273.out 1).trans rfl
           have hcz27_2 : w23.cell? ⟨gb273, 2, none⟩ = some (.int .i64 ((rd_T74 l0 x6_1).f0.f2)) := (blk_cell BK273.out 2).trans rfl
           have hcz27_3 : w23.cell? ⟨gb273, 3, none⟩ = some (.string ((rd_T74 l0 x6_1).f0.f3)) := (blk_cell BK273.out 3).trans rfl
           have hcz27_4 : w23.cell? ⟨gb273, 4, none⟩ = some (.string ((rd_T74 l0 x6_1).f1)) := (blk_cell BK273.out 4).trans rfl
           have hfz27_0 := blk_frozen BK273.out 0
           have hfz27_1 := blk_frozen BK273.out 1
           have hfz27_2 := blk_frozen BK273.out 2
           have hfz27_3 := blk_frozen BK273.out 3
           have hfz27_4 := blk_frozen BK273.out 4
           go_wp2
           go_meet
           case rel => exact ⟨_, (decide (x8_8 > 64)), sm_, H', ⟨by have := HK1.out; have := HJ8.out; first | omega | exact Nat.le_refl _⟩, ⟨rr_ HO277.out⟩, ⟨rr_ HO_272000.out⟩, ⟨bk_ BK270.out⟩, ⟨bk_ BK271.out⟩, ⟨bk_ BK273.out⟩, ⟨bu_ HB.out GE270.out GE271.out GE273.out⟩⟩
          ·rw [if_neg c24] at H
           have c24b0 : (((rd_T74 l0 x6_1).f0.f0) == 1) = false := beq_eq_false_iff_ne.mpr c24
           have c24b1 : (((rd_T74 l0 x6_1).f0.f0) != 1) = true := bne_iff_ne.mpr c24
           (first | rw [c24b0] | (simp only [i64_w, i32_w]; rw [c24b0]) | skip)
           have H' := Aside0.mk H
           clear H
           have hnb28 := NB273_270.out
           have hnc28 := NB270_273.out
           have hnb29 := NB273_271.out
           have hnc29 := NB271_273.out
           have hcz30_0 : w23.cell? ⟨gb273, 0, none⟩ = some (.int .i64 ((rd_T74 l0 x6_1).f0.f0)) := (blk_cell BK273.out 0).trans rfl
           have hcz30_1 : w23.cell? ⟨gb273, 1, none⟩ = some (.int .i64 ((rd_T74 l0 x6_1).f0.f1)) := (blk_cell BK273.out 1).trans rfl
           have hcz30_2 : w23.cell? ⟨gb273, 2, none⟩ = some (.int .i64 ((rd_T74 l0 x6_1).f0.f2)) := (blk_cell BK273.out 2).trans rfl
           have hcz30_3 : w23.cell? ⟨gb273, 3, none⟩ = some (.string ((rd_T74 l0 x6_1).f0.f3)) := (blk_cell BK273.out 3).trans rfl
           have hcz30_4 : w23.cell? ⟨gb273, 4, none⟩ = some (.string ((rd_T74 l0 x6_1).f1)) := (blk_cell BK273.out 4).trans rfl
           have hfz30_0 := blk_frozen BK273.out 0
           have hfz30_1 := blk_frozen BK273.out 1
           have hfz30_2 := blk_frozen BK273.out 2
           have hfz30_3 := blk_frozen BK273.out 3
           have hfz30_4 := blk_frozen BK273.out 4
           go_wp2
           go_meet
           case rel => exact ⟨_, (false), sm_, H', ⟨by have := HK1.out; have := HJ8.out; first | omega | exact Nat.le_refl _⟩, ⟨rr_ HO277.out⟩, ⟨rr_ HO_272000.out⟩, ⟨bk_ BK270.out⟩, ⟨bk_ BK271.out⟩, ⟨bk_ BK273.out⟩, ⟨bu_ HB.out GE270.out GE271.out GE273.out⟩⟩
         case rest =>
          clear HC22
          try clear c1
          try clear c2
          try clear c2b0
          try clear c2b1
          try clear p2
          try clear q2
          try clear hx2
          try clear c3
          try clear p6
          try clear c7
          try clear c7b0
          try clear c8
          try clear c8b0
          try clear c11
          try clear c12
          try clear c14
          try clear c14b0
          try clear c15
          try clear c15b0
          try clear c16
          try clear c16b0
          try clear c17
          try clear c18
          try clear c21
          try clear c24
          try clear c24b0
          try clear c24b1
          try clear c25
          try clear c26
          try clear p27
          try clear q27
          try clear hx27
          try clear c28
          try clear c29
          try clear hcz13_0
          try clear hcz13_1
          try clear hcz13_2
          try clear hcz13_3
          try clear hcz13_4
          try clear hcz19_0
          try clear hcz19_1
          try clear hcz19_2
          try clear hcz19_3
          try clear hcz19_4
          try clear hcz27_0
          try clear hcz27_1
          try clear hcz27_2
          try clear hcz27_3
          try clear hcz27_4
          try clear hcz30_0
          try clear hcz30_1
          try clear hcz30_2
          try clear hcz30_3
          try clear hcz30_4
          try clear hcz4_0
          try clear hcz4_1
          try clear hfz13_0
          try clear hfz13_1
          try clear hfz13_2
          try clear hfz13_3
          try clear hfz13_4
          try clear hfz19_0
          try clear hfz19_1
          try clear hfz19_2
          try clear hfz19_3
          try clear hfz19_4
          try clear hfz27_0
          try clear hfz27_1
          try clear hfz27_2
          try clear hfz27_3
          try clear hfz27_4
          try clear hfz30_0
          try clear hfz30_1
          try clear hfz30_2
          try clear hfz30_3
          try clear hfz30_4
          try clear hfz4_0
          try clear hfz4_1
          try clear hx272_0
          try clear hx272_1
          try clear hx272_2
          try clear hx272_3
          try clear hx272_4
          try clear hx274_0
          try clear p2
          try clear p272
          try clear p274
          try clear p6
          try clear q2
          try clear q272
          try clear q274
          obtain ⟨kq, x47_21, rfl, HA, HJ21, HO_5, HO_272000, BK270, BK271, BK273, HB⟩ := hcut
          cases kq with
          | zero => exact absurd HA.out (by simp [topiaryref13_limited.j2])
          | succ kj21 =>
           have H := HA.out
           clear HA
           simp only [topiaryref13_limited.j2] at H
           by_cases c31 : x47_21 = true
           ·subst c31
            rw [if_pos rfl] at H
            have H1 := H
            clear H
            have H := H1
            clear H1
            simp only [Option.some.injEq, Prod.mk.injEq] at H
            obtain ⟨rfl, rfl, rfl⟩ := H
            have hnb32 := NB270_271.out
            have hnc32 := NB271_270.out
            have hnb33 := NB270_273.out
            have hnc33 := NB273_270.out
            have hcz34_0 : wc.cell? ⟨gb270, 0, none⟩ = some (.slice none 0 0) := (blk_cell BK270.out 0).trans rfl
            have hcz34_1 : wc.cell? ⟨gb270, 1, none⟩ = some (.slice none 0 0) := (blk_cell BK270.out 1).trans rfl
            have hfz34_0 := blk_frozen BK270.out 0
            have hfz34_1 := blk_frozen BK270.out 1
            go_wp2
            refine bodyPost_ret (results_ct rfl _ _ gb270 25 #[.slice none 0 0, .slice none 0 0] (0, 0) _ rfl (by (with_reducible repeat (first | refine blk_drewN ?_ _ | refine blk_drew ?_ | refine blk_alloc ?_ _)); refine blk_put (cs := #[.slice none 0 0, .slice none 0 0]) ?_ 1 _ rfl; (with_reducible repeat (first | refine blk_drewN ?_ _ | refine blk_drew ?_ | refine blk_alloc ?_ _)); refine blk_put (cs := #[.slice none 0 0, .slice none 0 0]) ?_ 0 _ rfl; exact bk_ BK270.out) Try.underlying25 rfl (by kernel_rfl)) rfl ?_
            exact ⟨_, _, by first | rfl | (simp [errW_none, errW_some] <;> rfl) | (simp [*, errW_none, errW_some] <;> rfl), by first | exact Kd.R_nil _ _ _ _ _ | exact Kd.N_nil _ _ _ _ _ | exact Kd.V_nil _ _ _ _ _ | exact Kd.Q_nil _ _ _ _ _ | exact Kd.S_nil _ _ _ _ _, by first | exact Kd.R_nil _ _ _ _ _ | exact Kd.N_nil _ _ _ _ _ | exact Kd.V_nil _ _ _ _ _ | exact Kd.Q_nil _ _ _ _ _ | exact Kd.S_nil _ _ _ _ _, bu_ HB.out GE270.out GE271.out GE273.out⟩
           ·replace c31 := Bool.eq_false_iff.mpr c31
            subst c31
            rw [if_neg (show ¬ (false = true) by decide)] at H
            have H1 := H
            clear H
            have H := H1
            clear H1
            by_cases c35 : ((rd_T74 l0 x6_1).f0.f0) = 3
            ·rw [if_pos c35] at H
             have c35b0 : (((rd_T74 l0 x6_1).f0.f0) == 3) = true := beq_iff_eq.mpr c35
             have c35b1 : (((rd_T74 l0 x6_1).f0.f0) != 3) = false := bne_eq_false_iff_eq.mpr c35
             clear c35
             have H' := Aside0.mk H
             clear H
             have hnb36 := NB273_270.out
             have hnc36 := NB270_273.out
             have hnb37 := NB273_271.out
             have hnc37 := NB271_273.out
             have hcz38_0 : wc.cell? ⟨gb273, 0, none⟩ = some (.int .i64 ((rd_T74 l0 x6_1).f0.f0)) := (blk_cell BK273.out 0).trans rfl
             have hcz38_1 : wc.cell? ⟨gb273, 1, none⟩ = some (.int .i64 ((rd_T74 l0 x6_1).f0.f1)) := (blk_cell BK273.out 1).trans rfl
             have hcz38_2 : wc.cell? ⟨gb273, 2, none⟩ = some (.int .i64 ((rd_T74 l0 x6_1).f0.f2)) := (blk_cell BK273.out 2).trans rfl
             have hcz38_3 : wc.cell? ⟨gb273, 3, none⟩ = some (.string ((rd_T74 l0 x6_1).f0.f3)) := (blk_cell BK273.out 3).trans rfl
             have hcz38_4 : wc.cell? ⟨gb273, 4, none⟩ = some (.string ((rd_T74 l0 x6_1).f1)) := (blk_cell BK273.out 4).trans rfl
             have hfz38_0 := blk_frozen BK273.out 0
             have hfz38_1 := blk_frozen BK273.out 1
             have hfz38_2 := blk_frozen BK273.out 2
             have hfz38_3 := blk_frozen BK273.out 3
             have hfz38_4 := blk_frozen BK273.out 4
             go_wp2
             go_roundg kj21
             case measure => have := HK1.out; have := HJ8.out; have := HJ21.out; omega
             case rel => exact ⟨(y275), (wrap64 (x6_1 + 1)), (x272000_1), (u272000), sm_, H', ⟨by have := HK1.out; have := HJ8.out; have := HJ21.out; omega⟩, ⟨rr_ HO_5.out⟩, ⟨rr_ HO_272000.out⟩, ⟨bk_ BK270.out⟩, ⟨bk_ BK271.out⟩, ⟨bu_ HB.out GE270.out GE271.out GE273.out⟩⟩
            ·rw [if_neg c35] at H
             have c35b0 : (((rd_T74 l0 x6_1).f0.f0) == 3) = false := beq_eq_false_iff_ne.mpr c35
             have c35b1 : (((rd_T74 l0 x6_1).f0.f0) != 3) = true := bne_iff_ne.mpr c35
             replace H := Option.bind_eq_some_iff.mp H
             obtain ⟨t278, A390, H⟩ := H
             try dsimp only at H
             have A39 := Aside0.mk A390
             clear A390
             have H' := Aside0.mk H
             clear H
             have hnb40 := NB273_270.out
             have hnc40 := NB270_273.out
             have hnb41 := NB273_271.out
             have hnc41 := NB271_273.out
             have hcz42_0 : wc.cell? ⟨gb273, 0, none⟩ = some (.int .i64 ((rd_T74 l0 x6_1).f0.f0)) := (blk_cell BK273.out 0).trans rfl
             have hcz42_1 : wc.cell? ⟨gb273, 1, none⟩ = some (.int .i64 ((rd_T74 l0 x6_1).f0.f1)) := (blk_cell BK273.out 1).trans rfl
             have hcz42_2 : wc.cell? ⟨gb273, 2, none⟩ = some (.int .i64 ((rd_T74 l0 x6_1).f0.f2)) := (blk_cell BK273.out 2).trans rfl
             have hcz42_3 : wc.cell? ⟨gb273, 3, none⟩ = some (.string ((rd_T74 l0 x6_1).f0.f3)) := (blk_cell BK273.out 3).trans rfl
             have hcz42_4 : wc.cell? ⟨gb273, 4, none⟩ = some (.string ((rd_T74 l0 x6_1).f1)) := (blk_cell BK273.out 4).trans rfl
             have hfz42_0 := blk_frozen BK273.out 0
             have hfz42_1 := blk_frozen BK273.out 1
             have hfz42_2 := blk_frozen BK273.out 2
             have hfz42_3 := blk_frozen BK273.out 3
             have hfz42_4 := blk_frozen BK273.out 4
             have hnb43 := NB271_270.out
             have hnc43 := NB270_271.out
             have hcz44_0 : wc.cell? ⟨gb271, 0, none⟩ = some (u272000) := (blk_cell BK271.out 0).trans rfl
             have hcz44_1 : wc.cell? ⟨gb271, 1, none⟩ = some (.slice none 0 0) := (blk_cell BK271.out 1).trans rfl
             have hfz44_0 := blk_frozen BK271.out 0
             have hfz44_1 := blk_frozen BK271.out 1
             obtain ⟨Ao45, co45, eo45⟩ := Kd.R_slice HO_272000.out
             subst eo45
             go_wp2_with (first | ((with_reducible refine gate_callee (f := 44) rfl ?_); refine goesL_ (some 57) rfl rfl Try.func44 (by kernel_rfl) rfl #[.slice Ao45 x272000_1.length co45, .string ((rd_T74 l0 x6_1).f1)] rfl ar_ ?_; (with_reducible refine (topiaryref13_with.calls kj21 (fun k_ => some k_ = (.slice Ao45 x272000_1.length co45 : Value).ownBlock) (.slice Ao45 x272000_1.length co45) x272000_1 ((rd_T74 l0 x6_1).f1) t278 w _ ?side1 ?side2 A39.out).mono ?_); (case side1 => repeat (first | (with_reducible first | exact HB.out | apply below_alloc | apply pw_below_drewN | apply below_drew1 | refine below_set ?_ GE270.out | refine below_set ?_ GE271.out | refine below_set ?_ GE273.out) | exact HB.out)); (case side2 => exact Kd.R_tight rfl HO_272000.out); rintro e w46 ⟨v279, rfl, ho0, hb, hkp⟩; refine ⟨_, rfl, ?_⟩; have n0_ := Aside0.mk (Kd.R_mono (ok' := fun k_ => True) (Kd.R_keptB ((Kd.R_apart' HO_5.out (Kd.R_typed HO_272000.out) (by decide))) hkp (fun k_ hk_ hs_ => (hk_.2) hs_)) (fun k_ hk_ => trivial)); have n1_ := Aside0.mk (blk_kept (bk_ BK270.out) hkp (fun hs_ => (fun e_ => (Kd.R_ne HO_272000.out BK270.out (by decide)) e_) hs_)); have n2_ := Aside0.mk (blk_kept (bk_ BK271.out) hkp (fun hs_ => (fun e_ => (Kd.R_ne HO_272000.out BK271.out (by decide)) e_) hs_)); have n3_ := Aside0.mk (blk_kept (bk_ BK273.out) hkp (fun hs_ => (fun e_ => (Kd.R_ne HO_272000.out BK273.out (by decide)) e_) hs_)); have n4_ := Aside0.mk (Kd.R_mono (ok' := fun k_ => True) ho0 (fun k_ hk_ => trivial)); have n5_ := Aside0.mk (hb); clear HO_5; clear BK270; clear BK271; clear BK273; clear HB; clear HO_272000; have HO_5 := n0_; have BK270 := n1_; have BK271 := n2_; have BK273 := n3_; have HO280 := n4_; have HB := n5_; clear n0_ n1_ n2_ n3_ n4_ n5_; (try clear hb); (try clear hkp); (try clear ho0); obtain ⟨Ao47, co47, eo47⟩ := Kd.R_slice HO280.out; subst eo47; have hcz48_0 : w46.cell? ⟨gb271, 0, none⟩ = some (.slice Ao45 x272000_1.length co45) := (blk_cell BK271.out 0).trans rfl; have hcz48_1 : w46.cell? ⟨gb271, 1, none⟩ = some (.slice none 0 0) := (blk_cell BK271.out 1).trans rfl; have hfz48_0 := blk_frozen BK271.out 0; have hfz48_1 := blk_frozen BK271.out 1))
             go_roundg kj21
             case measure => have := HK1.out; have := HJ8.out; have := HJ21.out; omega
             case rel => exact ⟨(y275), (wrap64 (x6_1 + 1)), (t278), (.slice Ao47 t278.length co47), sm_, H', ⟨by have := HK1.out; have := HJ8.out; have := HJ21.out; omega⟩, ⟨by (with_reducible repeat (first | apply Kd.R_alloc | apply Kd.R_drewN | apply Kd.R_drew)); exact Kd.R_mono (Kd.R_far (p := ⟨gb271, 0, none⟩) (Kd.R_types HO_5.out BK271.out (by decide)) (fun _ hk => hk.2) (.slice Ao47 t278.length co47)) (fun _ hk => trivial)⟩, ⟨by (with_reducible repeat (first | apply Kd.R_alloc | apply Kd.R_drewN | apply Kd.R_drew)); exact Kd.R_mono (Kd.R_far (p := ⟨gb271, 0, none⟩) (Kd.R_types HO280.out BK271.out (by decide)) (fun _ hk => hk.2) (.slice Ao47 t278.length co47)) (fun _ hk => trivial)⟩, ⟨by (with_reducible repeat (first | refine blk_drewN ?_ _ | refine blk_drew ?_ | refine blk_alloc ?_ _)); refine blk_far ?_ NB270_271.out _; exact bk_ BK270.out⟩, ⟨by (with_reducible repeat (first | refine blk_drewN ?_ _ | refine blk_drew ?_ | refine blk_alloc ?_ _)); refine blk_put (cs := #[.slice Ao45 x272000_1.length co45, .slice none 0 0]) ?_ 0 _ rfl; exact bk_ BK271.out⟩, ⟨bu_ HB.out GE270.out GE271.out GE273.out⟩⟩
        ·rw [if_neg c21] at H
         exact absurd H (by simp)
     ·rw [if_neg c8] at H
      exact absurd H (by simp)
    ·rw [if_neg c7] at H
     have c7b0 : decide (x6_1 < (l0.length : Int)) = false := decide_eq_false c7
     clear c7
     by_cases c49 : (x272000_1.length : Int) > 1000
     ·rw [if_pos c49] at H
      have c49b0 : decide (1000 < (x272000_1.length : Int)) = true := decide_eq_true c49
      have c49b1 : decide (1000 < x272000_1.length) = true := decide_eq_true (by omega)
      clear c49
      simp only [Option.some.injEq, Prod.mk.injEq] at H
      obtain ⟨rfl, rfl, rfl⟩ := H
      have hnb50 := NB271_270.out
      have hnc50 := NB270_271.out
      have hcz51_0 : wr.cell? ⟨gb271, 0, none⟩ = some (u272000) := (blk_cell BK271.out 0).trans rfl
      have hcz51_1 : wr.cell? ⟨gb271, 1, none⟩ = some (.slice none 0 0) := (blk_cell BK271.out 1).trans rfl
      have hfz51_0 := blk_frozen BK271.out 0
      have hfz51_1 := blk_frozen BK271.out 1
      obtain ⟨Ao52, co52, eo52⟩ := Kd.R_slice HO_272000.out
      subst eo52
      have hcz53_0 : wr.cell? ⟨gb270, 0, none⟩ = some (.slice none 0 0) := (blk_cell BK270.out 0).trans rfl
      have hcz53_1 : wr.cell? ⟨gb270, 1, none⟩ = some (.slice none 0 0) := (blk_cell BK270.out 1).trans rfl
      have hfz53_0 := blk_frozen BK270.out 0
      have hfz53_1 := blk_frozen BK270.out 1
      go_wp2
      refine bodyPost_ret (results_ct rfl _ _ gb270 25 #[.slice none 0 0, .slice none 0 0] (0, 0) _ rfl (by (with_reducible repeat (first | refine blk_drewN ?_ _ | refine blk_drew ?_ | refine blk_alloc ?_ _)); refine blk_put (cs := #[.slice none 0 0, .slice none 0 0]) ?_ 1 _ rfl; (with_reducible repeat (first | refine blk_drewN ?_ _ | refine blk_drew ?_ | refine blk_alloc ?_ _)); refine blk_put (cs := #[.slice none 0 0, .slice none 0 0]) ?_ 0 _ rfl; exact bk_ BK270.out) Try.underlying25 rfl (by kernel_rfl)) rfl ?_
      exact ⟨_, _, by first | rfl | (simp [errW_none, errW_some] <;> rfl) | (simp [*, errW_none, errW_some] <;> rfl), by first | exact Kd.R_nil _ _ _ _ _ | exact Kd.N_nil _ _ _ _ _ | exact Kd.V_nil _ _ _ _ _ | exact Kd.Q_nil _ _ _ _ _ | exact Kd.S_nil _ _ _ _ _, by first | exact Kd.R_nil _ _ _ _ _ | exact Kd.N_nil _ _ _ _ _ | exact Kd.V_nil _ _ _ _ _ | exact Kd.Q_nil _ _ _ _ _ | exact Kd.S_nil _ _ _ _ _, bt_ HB.out GE270.out GE271.out⟩
     ·rw [if_neg c49] at H
      have c49b0 : decide (1000 < (x272000_1.length : Int)) = false := decide_eq_false c49
      have c49b1 : decide (1000 < x272000_1.length) = false := decide_eq_false (by omega)
      clear c49
      have H' := Aside0.mk H
      clear H
      have hnb54 := NB271_270.out
      have hnc54 := NB270_271.out
      have hcz55_0 : wr.cell? ⟨gb271, 0, none⟩ = some (u272000) := (blk_cell BK271.out 0).trans rfl
      have hcz55_1 : wr.cell? ⟨gb271, 1, none⟩ = some (.slice none 0 0) := (blk_cell BK271.out 1).trans rfl
      have hfz55_0 := blk_frozen BK271.out 0
      have hfz55_1 := blk_frozen BK271.out 1
      obtain ⟨Ao56, co56, eo56⟩ := Kd.R_slice HO_272000.out
      subst eo56
      go_wp2
      go_loopg [9] k1 (fun kq v9 w' => ∃ (x9_2 : Int) (x272001_2 : List (S52)) (u272001 : Value), v9 = .int .i64 x9_2 ∧ Aside0 (topiaryref13_limited.l1 kq l0 x9_2 x272000_1 x272001_2 = some (r1, r2, r3)) ∧ Aside0 (kq ≤ k1) ∧ Aside0 (Kd.R Kd.string 9 w' w.heap.size (fun _ => True) (.slice Ao56 x272000_1.length co56) x272000_1) ∧ Aside0 (Kd.R k52 52 w' w.heap.size (fun _ => True) u272001 x272001_2) ∧ Aside0 (w'.heap[gb270]? = some (.cells #[(.slice none 0 0), (.slice none 0 0)] 25 (0, 0))) ∧ Aside0 (w'.heap[gb271]? = some (.cells #[(.slice Ao56 x272000_1.length co56), u272001] 25 (0, 0))) ∧ Aside0 (Below w.heap.size w w'))
      case atStart => exact ⟨(0), (([] : List (S52))), (.slice none 0 0), sm_, H', ⟨Nat.le_refl _⟩, ⟨rr_ HO_272000.out⟩, ⟨by first | exact Kd.R_nil _ _ _ _ _ | exact Kd.N_nil _ _ _ _ _ | exact Kd.V_nil _ _ _ _ _ | exact Kd.Q_nil _ _ _ _ _ | exact Kd.S_nil _ _ _ _ _⟩, ⟨bk_ BK270.out⟩, ⟨bk_ BK271.out⟩, ⟨bt_ HB.out GE270.out GE271.out⟩⟩
      case round =>
       clear H'
       try clear c1
       try clear c2
       try clear c2b0
       try clear c2b1
       try clear p2
       try clear q2
       try clear hx2
       try clear c3
       try clear c4
       try clear c5
       try clear p6
       try clear c7
       try clear c7b0
       try clear c8
       try clear c8b0
       try clear c11
       try clear c12
       try clear c14
       try clear c14b0
       try clear c15
       try clear c15b0
       try clear c16
       try clear c16b0
       try clear c17
       try clear c18
       try clear c21
       try clear c24
       try clear c24b0
       try clear c24b1
       try clear c25
       try clear c26
       try clear p27
       try clear q27
       try clear hx27
       try clear c28
       try clear c29
       try clear c31
       try clear c32
       try clear c33
       try clear c35
       try clear c35b0
       try clear c35b1
       try clear c36
       try clear c37
       try clear c39
       try clear c40
       try clear c41
       try clear c43
       try clear c44
       try clear c49
       try clear c49b0
       try clear c49b1
       try clear c50
       try clear c54
       try clear hcz13_0
       try clear hcz13_1
       try clear hcz13_2
       try clear hcz13_3
       try clear hcz13_4
       try clear hcz19_0
       try clear hcz19_1
       try clear hcz19_2
       try clear hcz19_3
       try clear hcz19_4
       try clear hcz27_0
       try clear hcz27_1
       try clear hcz27_2
       try clear hcz27_3
       try clear hcz27_4
       try clear hcz30_0
       try clear hcz30_1
       try clear hcz30_2
       try clear hcz30_3
       try clear hcz30_4
       try clear hcz34_0
       try clear hcz34_1
       try clear hcz38_0
       try clear hcz38_1
       try clear hcz38_2
       try clear hcz38_3
       try clear hcz38_4
       try clear hcz42_0
       try clear hcz42_1
       try clear hcz42_2
       try clear hcz42_3
       try clear hcz42_4
       try clear hcz44_0
       try clear hcz44_1
       try clear hcz48_0
       try clear hcz48_1
       try clear hcz4_0
       try clear hcz4_1
       try clear hcz51_0
       try clear hcz51_1
       try clear hcz53_0
       try clear hcz53_1
       try clear hcz55_0
       try clear hcz55_1
       try clear hfz13_0
       try clear hfz13_1
       try clear hfz13_2
       try clear hfz13_3
       try clear hfz13_4
       try clear hfz19_0
       try clear hfz19_1
       try clear hfz19_2
       try clear hfz19_3
       try clear hfz19_4
       try clear hfz27_0
       try clear hfz27_1
       try clear hfz27_2
       try clear hfz27_3
       try clear hfz27_4
       try clear hfz30_0
       try clear hfz30_1
       try clear hfz30_2
       try clear hfz30_3
       try clear hfz30_4
       try clear hfz34_0
       try clear hfz34_1
       try clear hfz38_0
       try clear hfz38_1
       try clear hfz38_2
       try clear hfz38_3
       try clear hfz38_4
       try clear hfz42_0
       try clear hfz42_1
       try clear hfz42_2
       try clear hfz42_3
       try clear hfz42_4
       try clear hfz44_0
       try clear hfz44_1
       try clear hfz48_0
       try clear hfz48_1
       try clear hfz4_0
       try clear hfz4_1
       try clear hfz51_0
       try clear hfz51_1
       try clear hfz53_0
       try clear hfz53_1
       try clear hfz55_0
       try clear hfz55_1
       try clear hx272_0
       try clear hx272_1
       try clear hx272_2
       try clear hx272_3
       try clear hx272_4
       try clear hx274_0
       try clear p2
       try clear p27
       try clear p272
       try clear p274
       try clear p6
       try clear q2
       try clear q27
       try clear q272
       try clear q274
       obtain ⟨x9_2, x272001_2, u272001, rfl, HA, HK2, HO_272000, HO_272001, BK270, BK271, HB⟩ := hrel
       cases gk with
       | zero => exact absurd HA.out (by simp [topiaryref13_limited.l1])
       | succ k2 =>
        have H := HA.out
        clear HA
        simp only [topiaryref13_limited.l1] at H
        by_cases c57 : x9_2 < (l0.length : Int)
        ·rw [if_pos c57] at H
         have c57b0 : decide (x9_2 < (l0.length : Int)) = true := decide_eq_true c57
         clear c57
         by_cases c58 : 0 ≤ x9_2
         ·rw [if_pos c58] at H
          have c58b0 : decide (0 ≤ x9_2) = true := decide_eq_true c58
          clear c58
          by_cases c59 : ((rd_T74 l0 x9_2).f0.f0) = 3
          ·rw [if_pos c59] at H
           have c59b0 : (((rd_T74 l0 x9_2).f0.f0) == 3) = true := beq_iff_eq.mpr c59
           have c59b1 : (((rd_T74 l0 x9_2).f0.f0) != 3) = false := bne_eq_false_iff_eq.mpr c59
           clear c59
           by_cases c60 : x272001_2.length < 3518437208883
           ·rw [if_pos c60] at H
            have LMc60 := Aside0.mk c60
            clear c60
            obtain ⟨y283, hy283⟩ : ∃ y_ : List (S52), y_ = (x272001_2 ++ [(⟨(rd_T74 l0 x9_2).f0.f0, (rd_T74 l0 x9_2).f0.f1, (rd_T74 l0 x9_2).f0.f2, (rd_T74 l0 x9_2).f0.f3⟩ : S52)]) := ⟨_, rfl⟩
            replace H : (topiaryref13_limited.l1 k2 l0 (wrap64 (x9_2 + 1)) x272000_1 y283) = some (r1, r2, r3) := by first | (rw [hy283]; with_reducible exact H) | (have H2_ := (Option.bind_some _ _).symm.trans H; rw [hy283]; with_reducible exact H2_) | (have H2_ := (Option.bind_some _ _).symm.trans H; with_reducible exact H2_) | with_reducible exact H | (rw [hy283]; exact H) | exact H
            have Ny283 := Aside0.mk hy283
            clear hy283
            have H' := Aside0.mk H
            clear H
            have p281 : 0 ≤ (x9_2 : Int) := of_decide_eq_true as_
            have q281 : x9_2 < (l0.length : Int) := of_decide_eq_true as_
            obtain ⟨ad281, e281, hx281_0, hx281_1, hx281_2, hx281_3, hx281_4⟩ := at_T74 HR0.out x9_2 p281 q281
            cases e281
            replace hx281_0 := (HB.out.cell (World.block_lt_of_cell? w _ hx281_0)).trans hx281_0
            replace hx281_1 := (HB.out.cell (World.block_lt_of_cell? w _ hx281_1)).trans hx281_1
            replace hx281_2 := (HB.out.cell (World.block_lt_of_cell? w _ hx281_2)).trans hx281_2
            replace hx281_3 := (HB.out.cell (World.block_lt_of_cell? w _ hx281_3)).trans hx281_3
            replace hx281_4 := (HB.out.cell (World.block_lt_of_cell? w _ hx281_4)).trans hx281_4
            replace p281 := eq_true p281
            replace q281 := eq_true q281
            go_wp2_with (first | ((with_reducible refine gate_dst (N := 10) rfl ?_); refine box_event ?hg (N := 10) ?hd (cs := #[.int .i64 0, .int .i64 0, .int .i64 0, .string (⟨#[]⟩ : ByteArray)]) (t := 52) ?hr ?_; (case hd => rfl); (case hg => rfl); (case hr => first | (go_simp; done) | (go_simp; rfl)); intro gb282 hg w61 hbox hb; have n0_ := Aside0.mk (Kd.R_below (rr_ HO_272000.out) hb); have n1_ := Aside0.mk (Kd.R_below (Kd.R_elderB (rr_ HO_272001.out) gb282 (Nat.le_of_eq hg.symm)) hb); have n2_ := Aside0.mk (blk_below (g := gb270) (o := .cells #[.slice none 0 0, .slice none 0 0] 25 (0, 0)) (bk_ BK270.out) hb); have n3_ := Aside0.mk (blk_below (g := gb271) (o := .cells #[.slice Ao56 x272000_1.length co56, u272001] 25 (0, 0)) (bk_ BK271.out) hb); have n4_ := Aside0.mk (below_step (bt_ HB.out GE270.out GE271.out) hb); have n5_ := Aside0.mk (hbox); have n6_ := Aside0.mk ((by rw [hg]; exact (below_size (bt_ HB.out GE270.out GE271.out)) : w.heap.size ≤ gb282)); have n7_ := Aside0.mk ((by rw [hg]; exact (below_size (bt_ HB.out GE270.out GE271.out)) : w.heap.size ≤ gb282)); have n8_ := Aside0.mk ((by rw [hg]; exact Nat.ne_of_lt (blk_lt (g := gb270) (o := .cells #[.slice none 0 0, .slice none 0 0] 25 (0, 0)) (bk_ BK270.out)) : gb270 ≠ gb282)); have n9_ := Aside0.mk ((by rw [hg]; exact Nat.ne_of_gt (blk_lt (g := gb270) (o := .cells #[.slice none 0 0, .slice none 0 0] 25 (0, 0)) (bk_ BK270.out)) : gb282 ≠ gb270)); have n10_ := Aside0.mk ((by rw [hg]; exact Nat.ne_of_lt (blk_lt (g := gb271) (o := .cells #[.slice Ao56 x272000_1.length co56, u272001] 25 (0, 0)) (bk_ BK271.out)) : gb271 ≠ gb282)); have n11_ := Aside0.mk ((by rw [hg]; exact Nat.ne_of_gt (blk_lt (g := gb271) (o := .cells #[.slice Ao56 x272000_1.length co56, u272001] 25 (0, 0)) (bk_ BK271.out)) : gb282 ≠ gb271)); clear HO_272000; clear HO_272001; clear BK270; clear BK271; clear HB; have HO_272000 := n0_; have HO_272001 := n1_; have BK270 := n2_; have BK271 := n3_; have HB := n4_; have BK282 := n5_; have GW282 := n6_; have GE282 := n7_; have NB270_282 := n8_; have NB282_270 := n9_; have NB271_282 := n10_; have NB282_271 := n11_; clear n0_ n1_ n2_ n3_ n4_ n5_ n6_ n7_ n8_ n9_ n10_ n11_; clear hb hbox hg; have hnb62 := NB282_270.out; have hnc62 := NB270_282.out; have hnb63 := NB282_271.out; have hnc63 := NB271_282.out; have hcz64_0 : w61.cell? ⟨gb282, 0, none⟩ = some (.int .i64 0) := (blk_cell BK282.out 0).trans rfl; have hcz64_1 : w61.cell? ⟨gb282, 1, none⟩ = some (.int .i64 0) := (blk_cell BK282.out 1).trans rfl; have hcz64_2 : w61.cell? ⟨gb282, 2, none⟩ = some (.int .i64 0) := (blk_cell BK282.out 2).trans rfl; have hcz64_3 : w61.cell? ⟨gb282, 3, none⟩ = some (.string (⟨#[]⟩ : ByteArray)) := (blk_cell BK282.out 3).trans rfl; have hfz64_0 := blk_frozen BK282.out 0; have hfz64_1 := blk_frozen BK282.out 1; have hfz64_2 := blk_frozen BK282.out 2; have hfz64_3 := blk_frozen BK282.out 3; have hnb65 := NB271_270.out; have hnc65 := NB270_271.out; have hcz66_0 : w61.cell? ⟨gb271, 0, none⟩ = some (.slice Ao56 x272000_1.length co56) := (blk_cell BK271.out 0).trans rfl; have hcz66_1 : w61.cell? ⟨gb271, 1, none⟩ = some (u272001) := (blk_cell BK271.out 1).trans rfl; have hfz66_0 := blk_frozen BK271.out 0; have hfz66_1 := blk_frozen BK271.out 1) | ((with_reducible refine gate_builtin (b := .append) (xs := #[.tmp 88, .tmp 90]) rfl ?_); at_builtin; refine Kd.R_append k52 (w0 := w) w.heap.size rfl (.tmp 88) (.tmp 90) 23 52 (.agg #[(.int .i64 0), (.int .i64 0), (.int .i64 0), (.string ⟨#[]⟩)]) 40 rfl Try.underlying23 info52 rfl (by decide) (by omega) u272001 x272001_2 (⟨(rd_T74 l0 x9_2).f0.f0, (rd_T74 l0 x9_2).f0.f1, (rd_T74 l0 x9_2).f0.f2, (rd_T74 l0 x9_2).f0.f3⟩ : S52) [.int .i64 ((rd_T74 l0 x9_2).f0.f0), .int .i64 ((rd_T74 l0 x9_2).f0.f1), .int .i64 ((rd_T74 l0 x9_2).f0.f2), .string ((rd_T74 l0 x9_2).f0.f3)] (fun k_ => k_ ≠ gb282) (fun _ => False) rfl (by first | (go_simp; done) | (go_simp; rfl)) ?aP (fun _ hk => hk.elim) ?aF ?aO ?aB ?aS ?aL ?_; (case aP => exact k52_mkM _ _ _ (⟨(rd_T74 l0 x9_2).f0.f0, (rd_T74 l0 x9_2).f0.f1, (rd_T74 l0 x9_2).f0.f2, (rd_T74 l0 x9_2).f0.f3⟩ : S52)); (case aB => exact (bu_ HB.out GE270.out GE271.out GE282.out)); (case aF => exact (fun k_ hk => Kd.freshB (g := gb282) (o := .cells #[.int .i64 ((rd_T74 l0 x9_2).f0.f0), .int .i64 ((rd_T74 l0 x9_2).f0.f1), .int .i64 ((rd_T74 l0 x9_2).f0.f2), .string ((rd_T74 l0 x9_2).f0.f3)] 52 (0, 0)) (by (with_reducible repeat (first | refine blk_drewN ?_ _ | refine blk_drew ?_ | refine blk_alloc ?_ _)); refine blk_put (cs := #[.int .i64 ((rd_T74 l0 x9_2).f0.f0), .int .i64 ((rd_T74 l0 x9_2).f0.f1), .int .i64 ((rd_T74 l0 x9_2).f0.f2), .string (⟨#[]⟩ : ByteArray)]) ?_ 3 _ rfl; (with_reducible repeat (first | refine blk_drewN ?_ _ | refine blk_drew ?_ | refine blk_alloc ?_ _)); refine blk_put (cs := #[.int .i64 ((rd_T74 l0 x9_2).f0.f0), .int .i64 ((rd_T74 l0 x9_2).f0.f1), .int .i64 0, .string (⟨#[]⟩ : ByteArray)]) ?_ 2 _ rfl; (with_reducible repeat (first | refine blk_drewN ?_ _ | refine blk_drew ?_ | refine blk_alloc ?_ _)); refine blk_put (cs := #[.int .i64 ((rd_T74 l0 x9_2).f0.f0), .int .i64 0, .int .i64 0, .string (⟨#[]⟩ : ByteArray)]) ?_ 1 _ rfl; (with_reducible repeat (first | refine blk_drewN ?_ _ | refine blk_drew ?_ | refine blk_alloc ?_ _)); refine blk_put (cs := #[.int .i64 0, .int .i64 0, .int .i64 0, .string (⟨#[]⟩ : ByteArray)]) ?_ 0 _ rfl; exact bk_ BK282.out) k_ hk)); (case aO => exact (by (with_reducible repeat (first | apply Kd.R_alloc | apply Kd.R_drewN | apply Kd.R_drew)); exact Kd.R_mono (Kd.R_far (p := ⟨gb282, 3, none⟩) (Kd.R_far (p := ⟨gb282, 2, none⟩) (Kd.R_far (p := ⟨gb282, 1, none⟩) (Kd.R_far (p := ⟨gb282, 0, none⟩) (Kd.R_mono HO_272001.out (fun k_ hk => (⟨hk, hk.2⟩ : _ ∧ k_ ≠ gb282))) (fun _ hk => hk.2) (.int .i64 ((rd_T74 l0 x9_2).f0.f0))) (fun _ hk => hk.2) (.int .i64 ((rd_T74 l0 x9_2).f0.f1))) (fun _ hk => hk.2) (.int .i64 ((rd_T74 l0 x9_2).f0.f2))) (fun _ hk => hk.2) (.string ((rd_T74 l0 x9_2).f0.f3))) (fun _ hk => hk.1.2))); (case aS => exact (below_size (bu_ HB.out GE270.out GE271.out GE282.out))); (case aL => have := LMc60.out; omega); intro v284 w67 ho hb hg hat; rw [← Ny283.out] at ho; have n0_ := Aside0.mk (Kd.R_over' (by (with_reducible repeat (first | apply Kd.R_alloc | apply Kd.R_drewN | apply Kd.R_drew)); exact (Kd.R_mono (Kd.R_far (p := ⟨gb282, 3, none⟩) (Kd.R_far (p := ⟨gb282, 2, none⟩) (Kd.R_far (p := ⟨gb282, 1, none⟩) (Kd.R_far (p := ⟨gb282, 0, none⟩) (Kd.R_types HO_272000.out BK282.out (by decide)) (fun _ hk => hk.2) (.int .i64 ((rd_T74 l0 x9_2).f0.f0))) (fun _ hk => hk.2) (.int .i64 ((rd_T74 l0 x9_2).f0.f1))) (fun _ hk => hk.2) (.int .i64 ((rd_T74 l0 x9_2).f0.f2))) (fun _ hk => hk.2) (.string ((rd_T74 l0 x9_2).f0.f3))) (fun _ h_ => h_.1))) (Kd.R_typed (by (with_reducible repeat (first | apply Kd.R_alloc | apply Kd.R_drewN | apply Kd.R_drew)); exact (Kd.R_mono (Kd.R_far (p := ⟨gb282, 3, none⟩) (Kd.R_far (p := ⟨gb282, 2, none⟩) (Kd.R_far (p := ⟨gb282, 1, none⟩) (Kd.R_far (p := ⟨gb282, 0, none⟩) (Kd.R_mono HO_272001.out (fun k_ hk => (⟨hk, hk.2⟩ : _ ∧ k_ ≠ gb282))) (fun _ hk => hk.2) (.int .i64 ((rd_T74 l0 x9_2).f0.f0))) (fun _ hk => hk.2) (.int .i64 ((rd_T74 l0 x9_2).f0.f1))) (fun _ hk => hk.2) (.int .i64 ((rd_T74 l0 x9_2).f0.f2))) (fun _ hk => hk.2) (.string ((rd_T74 l0 x9_2).f0.f3))) (fun _ h_ => h_.1)))) (by decide) hg); have n1_ := Aside0.mk (blk_grown (g := gb270) (o := .cells #[.slice none 0 0, .slice none 0 0] 25 (0, 0)) (by (with_reducible repeat (first | refine blk_drewN ?_ _ | refine blk_drew ?_ | refine blk_alloc ?_ _)); refine blk_far ?_ NB270_282.out _; (with_reducible repeat (first | refine blk_drewN ?_ _ | refine blk_drew ?_ | refine blk_alloc ?_ _)); refine blk_far ?_ NB270_282.out _; (with_reducible repeat (first | refine blk_drewN ?_ _ | refine blk_drew ?_ | refine blk_alloc ?_ _)); refine blk_far ?_ NB270_282.out _; (with_reducible repeat (first | refine blk_drewN ?_ _ | refine blk_drew ?_ | refine blk_alloc ?_ _)); refine blk_far ?_ NB270_282.out _; exact bk_ BK270.out) hg (Kd.R_ne HO_272001.out BK270.out (by decide))); have n2_ := Aside0.mk (blk_grown (g := gb271) (o := .cells #[.slice Ao56 x272000_1.length co56, u272001] 25 (0, 0)) (by (with_reducible repeat (first | refine blk_drewN ?_ _ | refine blk_drew ?_ | refine blk_alloc ?_ _)); refine blk_far ?_ NB271_282.out _; (with_reducible repeat (first | refine blk_drewN ?_ _ | refine blk_drew ?_ | refine blk_alloc ?_ _)); refine blk_far ?_ NB271_282.out _; (with_reducible repeat (first | refine blk_drewN ?_ _ | refine blk_drew ?_ | refine blk_alloc ?_ _)); refine blk_far ?_ NB271_282.out _; (with_reducible repeat (first | refine blk_drewN ?_ _ | refine blk_drew ?_ | refine blk_alloc ?_ _)); refine blk_far ?_ NB271_282.out _; exact bk_ BK271.out) hg (Kd.R_ne HO_272001.out BK271.out (by decide))); have n3_ := Aside0.mk (blk_grown (g := gb282) (o := .cells #[.int .i64 ((rd_T74 l0 x9_2).f0.f0), .int .i64 ((rd_T74 l0 x9_2).f0.f1), .int .i64 ((rd_T74 l0 x9_2).f0.f2), .string ((rd_T74 l0 x9_2).f0.f3)] 52 (0, 0)) (by (with_reducible repeat (first | refine blk_drewN ?_ _ | refine blk_drew ?_ | refine blk_alloc ?_ _)); refine blk_put (cs := #[.int .i64 ((rd_T74 l0 x9_2).f0.f0), .int .i64 ((rd_T74 l0 x9_2).f0.f1), .int .i64 ((rd_T74 l0 x9_2).f0.f2), .string (⟨#[]⟩ : ByteArray)]) ?_ 3 _ rfl; (with_reducible repeat (first | refine blk_drewN ?_ _ | refine blk_drew ?_ | refine blk_alloc ?_ _)); refine blk_put (cs := #[.int .i64 ((rd_T74 l0 x9_2).f0.f0), .int .i64 ((rd_T74 l0 x9_2).f0.f1), .int .i64 0, .string (⟨#[]⟩ : ByteArray)]) ?_ 2 _ rfl; (with_reducible repeat (first | refine blk_drewN ?_ _ | refine blk_drew ?_ | refine blk_alloc ?_ _)); refine blk_put (cs := #[.int .i64 ((rd_T74 l0 x9_2).f0.f0), .int .i64 0, .int .i64 0, .string (⟨#[]⟩ : ByteArray)]) ?_ 1 _ rfl; (with_reducible repeat (first | refine blk_drewN ?_ _ | refine blk_drew ?_ | refine blk_alloc ?_ _)); refine blk_put (cs := #[.int .i64 0, .int .i64 0, .int .i64 0, .string (⟨#[]⟩ : ByteArray)]) ?_ 0 _ rfl; exact bk_ BK282.out) hg (Kd.R_away HO_272001.out (fun _ hk => hk.2))); have n4_ := Aside0.mk (hb); have n5_ := Aside0.mk (ho); clear HO_272000; clear BK270; clear BK271; clear BK282; clear HB; clear HO_272001; have HO_272000 := n0_; have BK270 := n1_; have BK271 := n2_; have BK282 := n3_; have HB := n4_; have HO285 := n5_; clear n0_ n1_ n2_ n3_ n4_ n5_; clear ho hb hg hat; obtain ⟨Ao68, co68, eo68⟩ := Kd.R_slice HO285.out; subst eo68; have hcz69_0 : w67.cell? ⟨gb271, 0, none⟩ = some (.slice Ao56 x272000_1.length co56) := (blk_cell BK271.out 0).trans rfl; have hcz69_1 : w67.cell? ⟨gb271, 1, none⟩ = some (u272001) := (blk_cell BK271.out 1).trans rfl; have hfz69_0 := blk_frozen BK271.out 0; have hfz69_1 := blk_frozen BK271.out 1))
            go_roundg k2
            case measure => have := HK1.out; have := HK2.out; omega
            case rel => exact ⟨(wrap64 (x9_2 + 1)), (y283), (.slice Ao68 y283.length co68), sm_, H', ⟨by have := HK1.out; have := HK2.out; omega⟩, ⟨by (with_reducible repeat (first | apply Kd.R_alloc | apply Kd.R_drewN | apply Kd.R_drew)); exact Kd.R_mono (Kd.R_far (p := ⟨gb271, 1, none⟩) (Kd.R_types HO_272000.out BK271.out (by decide)) (fun _ hk => hk.2) (.slice Ao68 y283.length co68)) (fun _ hk => trivial)⟩, ⟨by (with_reducible repeat (first | apply Kd.R_alloc | apply Kd.R_drewN | apply Kd.R_drew)); exact Kd.R_mono (Kd.R_far (p := ⟨gb271, 1, none⟩) (Kd.R_types HO285.out BK271.out (by decide)) (fun _ hk => hk.2) (.slice Ao68 y283.length co68)) (fun _ hk => trivial)⟩, ⟨by (with_reducible repeat (first | refine blk_drewN ?_ _ | refine blk_drew ?_ | refine blk_alloc ?_ _)); refine blk_far ?_ NB270_271.out _; exact bk_ BK270.out⟩, ⟨by (with_reducible repeat (first | refine blk_drewN ?_ _ | refine blk_drew ?_ | refine blk_alloc ?_ _)); refine blk_put (cs := #[.slice Ao56 x272000_1.length co56, u272001]) ?_ 1 _ rfl; exact bk_ BK271.out⟩, ⟨bu_ HB.out GE270.out GE271.out GE282.out⟩⟩
           ·rw [if_neg c60] at H
            exact absurd H (by simp)
          ·rw [if_neg c59] at H
           have c59b0 : (((rd_T74 l0 x9_2).f0.f0) == 3) = false := beq_eq_false_iff_ne.mpr c59
           have c59b1 : (((rd_T74 l0 x9_2).f0.f0) != 3) = true := bne_iff_ne.mpr c59
           replace H := Option.bind_eq_some_iff.mp H
           obtain ⟨t287, A700, H⟩ := H
           try dsimp only at H
           have A70 := Aside0.mk A700
           clear A700
           by_cases c71 : x272001_2.length < 3518437208883
           ·rw [if_pos c71] at H
            have LMc71 := Aside0.mk c71
            clear c71
            obtain ⟨y288, hy288⟩ : ∃ y_ : List (S52), y_ = (x272001_2 ++ [(⟨(rd_T74 l0 x9_2).f0.f0, t287, (rd_T74 l0 x9_2).f0.f2, (rd_T74 l0 x9_2).f0.f3⟩ : S52)]) := ⟨_, rfl⟩
            replace H : (topiaryref13_limited.l1 k2 l0 (wrap64 (x9_2 + 1)) x272000_1 y288) = some (r1, r2, r3) := by first | (rw [hy288]; with_reducible exact H) | (have H2_ := (Option.bind_some _ _).symm.trans H; rw [hy288]; with_reducible exact H2_) | (have H2_ := (Option.bind_some _ _).symm.trans H; with_reducible exact H2_) | with_reducible exact H | (rw [hy288]; exact H) | exact H
            have Ny288 := Aside0.mk hy288
            clear hy288
            have H' := Aside0.mk H
            clear H
            have p281 : 0 ≤ (x9_2 : Int) := of_decide_eq_true as_
            have q281 : x9_2 < (l0.length : Int) := of_decide_eq_true as_
            obtain ⟨ad281, e281, hx281_0, hx281_1, hx281_2, hx281_3, hx281_4⟩ := at_T74 HR0.out x9_2 p281 q281
            cases e281
            replace hx281_0 := (HB.out.cell (World.block_lt_of_cell? w _ hx281_0)).trans hx281_0
            replace hx281_1 := (HB.out.cell (World.block_lt_of_cell? w _ hx281_1)).trans hx281_1
            replace hx281_2 := (HB.out.cell (World.block_lt_of_cell? w _ hx281_2)).trans hx281_2
            replace hx281_3 := (HB.out.cell (World.block_lt_of_cell? w _ hx281_3)).trans hx281_3
            replace hx281_4 := (HB.out.cell (World.block_lt_of_cell? w _ hx281_4)).trans hx281_4
            replace p281 := eq_true p281
            replace q281 := eq_true q281
            try go_wp2_with (first | ((with_reducible refine gate_dst (N := 10) rfl ?_); refine box_event ?hg (N := 10) ?hd (cs := #[.int .i64 0, .int .i64 0, .int .i64 0, .string (⟨#[]⟩ : ByteArray)]) (t := 52) ?hr ?_; (case hd => rfl); (case hg => rfl); (case hr => first | (go_simp; done) | (go_simp; rfl)); intro gb282 hg w72 hbox hb; have n0_ := Aside0.mk (Kd.R_below (rr_ HO_272000.out) hb); have n1_ := Aside0.mk (Kd.R_below (Kd.R_elderB (rr_ HO_272001.out) gb282 (Nat.le_of_eq hg.symm)) hb); have n2_ := Aside0.mk (blk_below (g := gb270) (o := .cells #[.slice none 0 0, .slice none 0 0] 25 (0, 0)) (bk_ BK270.out) hb); have n3_ := Aside0.mk (blk_below (g := gb271) (o := .cells #[.slice Ao56 x272000_1.length co56, u272001] 25 (0, 0)) (bk_ BK271.out) hb); have n4_ := Aside0.mk (below_step (bt_ HB.out GE270.out GE271.out) hb); have n5_ := Aside0.mk (hbox); have n6_ := Aside0.mk ((by rw [hg]; exact (below_size (bt_ HB.out GE270.out GE271.out)) : w.heap.size ≤ gb282)); have n7_ := Aside0.mk ((by rw [hg]; exact (below_size (bt_ HB.out GE270.out GE271.out)) : w.heap.size ≤ gb282)); have n8_ := Aside0.mk ((by rw [hg]; exact Nat.ne_of_lt (blk_lt (g := gb270) (o := .cells #[.slice none 0 0, .slice none 0 0] 25 (0, 0)) (bk_ BK270.out)) : gb270 ≠ gb282)); have n9_ := Aside0.mk ((by rw [hg]; exact Nat.ne_of_gt (blk_lt (g := gb270) (o := .cells #[.slice none 0 0, .slice none 0 0] 25 (0, 0)) (bk_ BK270.out)) : gb282 ≠ gb270)); have n10_ := Aside0.mk ((by rw [hg]; exact Nat.ne_of_lt (blk_lt (g := gb271) (o := .cells #[.slice Ao56 x272000_1.length co56, u272001] 25 (0, 0)) (bk_ BK271.out)) : gb271 ≠ gb282)); have n11_ := Aside0.mk ((by rw [hg]; exact Nat.ne_of_gt (blk_lt (g := gb271) (o := .cells #[.slice Ao56 x272000_1.length co56, u272001] 25 (0, 0)) (bk_ BK271.out)) : gb282 ≠ gb271)); clear HO_272000; clear HO_272001; clear BK270; clear BK271; clear HB; have HO_272000 := n0_; have HO_272001 := n1_; have BK270 := n2_; have BK271 := n3_; have HB := n4_; have BK282 := n5_; have GW282 := n6_; have GE282 := n7_; have NB270_282 := n8_; have NB282_270 := n9_; have NB271_282 := n10_; have NB282_271 := n11_; clear n0_ n1_ n2_ n3_ n4_ n5_ n6_ n7_ n8_ n9_ n10_ n11_; clear hb hbox hg; have hnb73 := NB282_270.out; have hnc73 := NB270_282.out; have hnb74 := NB282_271.out; have hnc74 := NB271_282.out; have hcz75_0 : w72.cell? ⟨gb282, 0, none⟩ = some (.int .i64 0) := (blk_cell BK282.out 0).trans rfl; have hcz75_1 : w72.cell? ⟨gb282, 1, none⟩ = some (.int .i64 0) := (blk_cell BK282.out 1).trans rfl; have hcz75_2 : w72.cell? ⟨gb282, 2, none⟩ = some (.int .i64 0) := (blk_cell BK282.out 2).trans rfl; have hcz75_3 : w72.cell? ⟨gb282, 3, none⟩ = some (.string (⟨#[]⟩ : ByteArray)) := (blk_cell BK282.out 3).trans rfl; have hfz75_0 := blk_frozen BK282.out 0; have hfz75_1 := blk_frozen BK282.out 1; have hfz75_2 := blk_frozen BK282.out 2; have hfz75_3 := blk_frozen BK282.out 3))
            have n0_ : Aside0 (Kd.R Kd.string 9 ((((w72.setCell ⟨gb282, 0, none⟩ (.int .i64 ((rd_T74 l0 x9_2).f0.f0))).setCell ⟨gb282, 1, none⟩ (.int .i64 ((rd_T74 l0 x9_2).f0.f1))).setCell ⟨gb282, 2, none⟩ (.int .i64 ((rd_T74 l0 x9_2).f0.f2))).setCell ⟨gb282, 3, none⟩ (.string ((rd_T74 l0 x9_2).f0.f3))) w.heap.size (fun _ => True) (.slice Ao56 x272000_1.length co56) x272000_1) := ⟨by (with_reducible repeat (first | apply Kd.R_alloc | apply Kd.R_drewN | apply Kd.R_drew)); exact Kd.R_mono (Kd.R_far (p := ⟨gb282, 3, none⟩) (Kd.R_far (p := ⟨gb282, 2, none⟩) (Kd.R_far (p := ⟨gb282, 1, none⟩) (Kd.R_far (p := ⟨gb282, 0, none⟩) (Kd.R_types HO_272000.out BK282.out (by decide)) (fun _ hk => hk.2) (.int .i64 ((rd_T74 l0 x9_2).f0.f0))) (fun _ hk => hk.2) (.int .i64 ((rd_T74 l0 x9_2).f0.f1))) (fun _ hk => hk.2) (.int .i64 ((rd_T74 l0 x9_2).f0.f2))) (fun _ hk => hk.2) (.string ((rd_T74 l0 x9_2).f0.f3))) (fun _ hk => trivial)⟩
            have n1_ : Aside0 (Kd.R k52 52 ((((w72.setCell ⟨gb282, 0, none⟩ (.int .i64 ((rd_T74 l0 x9_2).f0.f0))).setCell ⟨gb282, 1, none⟩ (.int .i64 ((rd_T74 l0 x9_2).f0.f1))).setCell ⟨gb282, 2, none⟩ (.int .i64 ((rd_T74 l0 x9_2).f0.f2))).setCell ⟨gb282, 3, none⟩ (.string ((rd_T74 l0 x9_2).f0.f3))) w.heap.size (fun k_ => k_ ≠ gb282) u272001 x272001_2) := ⟨by (with_reducible repeat (first | apply Kd.R_alloc | apply Kd.R_drewN | apply Kd.R_drew)); exact Kd.R_mono (Kd.R_far (p := ⟨gb282, 3, none⟩) (Kd.R_far (p := ⟨gb282, 2, none⟩) (Kd.R_far (p := ⟨gb282, 1, none⟩) (Kd.R_far (p := ⟨gb282, 0, none⟩) (Kd.R_mono HO_272001.out (fun k_ hk => (⟨hk, hk.2⟩ : _ ∧ k_ ≠ gb282))) (fun _ hk => hk.2) (.int .i64 ((rd_T74 l0 x9_2).f0.f0))) (fun _ hk => hk.2) (.int .i64 ((rd_T74 l0 x9_2).f0.f1))) (fun _ hk => hk.2) (.int .i64 ((rd_T74 l0 x9_2).f0.f2))) (fun _ hk => hk.2) (.string ((rd_T74 l0 x9_2).f0.f3))) (fun _ hk => hk.1.2)⟩
            have n2_ : Aside0 (((((w72.setCell ⟨gb282, 0, none⟩ (.int .i64 ((rd_T74 l0 x9_2).f0.f0))).setCell ⟨gb282, 1, none⟩ (.int .i64 ((rd_T74 l0 x9_2).f0.f1))).setCell ⟨gb282, 2, none⟩ (.int .i64 ((rd_T74 l0 x9_2).f0.f2))).setCell ⟨gb282, 3, none⟩ (.string ((rd_T74 l0 x9_2).f0.f3))).heap[gb270]? = some (.cells #[.slice none 0 0, .slice none 0 0] 25 (0, 0))) := ⟨by (with_reducible repeat (first | refine blk_drewN ?_ _ | refine blk_drew ?_ | refine blk_alloc ?_ _)); refine blk_far ?_ NB270_282.out _; (with_reducible repeat (first | refine blk_drewN ?_ _ | refine blk_drew ?_ | refine blk_alloc ?_ _)); refine blk_far ?_ NB270_282.out _; (with_reducible repeat (first | refine blk_drewN ?_ _ | refine blk_drew ?_ | refine blk_alloc ?_ _)); refine blk_far ?_ NB270_282.out _; (with_reducible repeat (first | refine blk_drewN ?_ _ | refine blk_drew ?_ | refine blk_alloc ?_ _)); refine blk_far ?_ NB270_282.out _; exact bk_ BK270.out⟩
            have n3_ : Aside0 (((((w72.setCell ⟨gb282, 0, none⟩ (.int .i64 ((rd_T74 l0 x9_2).f0.f0))).setCell ⟨gb282, 1, none⟩ (.int .i64 ((rd_T74 l0 x9_2).f0.f1))).setCell ⟨gb282, 2, none⟩ (.int .i64 ((rd_T74 l0 x9_2).f0.f2))).setCell ⟨gb282, 3, none⟩ (.string ((rd_T74 l0 x9_2).f0.f3))).heap[gb271]? = some (.cells #[.slice Ao56 x272000_1.length co56, u272001] 25 (0, 0))) := ⟨by (with_reducible repeat (first | refine blk_drewN ?_ _ | refine blk_drew ?_ | refine blk_alloc ?_ _)); refine blk_far ?_ NB271_282.out _; (with_reducible repeat (first | refine blk_drewN ?_ _ | refine blk_drew ?_ | refine blk_alloc ?_ _)); refine blk_far ?_ NB271_282.out _; (with_reducible repeat (first | refine blk_drewN ?_ _ | refine blk_drew ?_ | refine blk_alloc ?_ _)); refine blk_far ?_ NB271_282.out _; (with_reducible repeat (first | refine blk_drewN ?_ _ | refine blk_drew ?_ | refine blk_alloc ?_ _)); refine blk_far ?_ NB271_282.out _; exact bk_ BK271.out⟩
            have n4_ : Aside0 (((((w72.setCell ⟨gb282, 0, none⟩ (.int .i64 ((rd_T74 l0 x9_2).f0.f0))).setCell ⟨gb282, 1, none⟩ (.int .i64 ((rd_T74 l0 x9_2).f0.f1))).setCell ⟨gb282, 2, none⟩ (.int .i64 ((rd_T74 l0 x9_2).f0.f2))).setCell ⟨gb282, 3, none⟩ (.string ((rd_T74 l0 x9_2).f0.f3))).heap[gb282]? = some (.cells #[.int .i64 ((rd_T74 l0 x9_2).f0.f0), .int .i64 ((rd_T74 l0 x9_2).f0.f1), .int .i64 ((rd_T74 l0 x9_2).f0.f2), .string ((rd_T74 l0 x9_2).f0.f3)] 52 (0, 0))) := ⟨by (with_reducible repeat (first | refine blk_drewN ?_ _ | refine blk_drew ?_ | refine blk_alloc ?_ _)); refine blk_put (cs := #[.int .i64 ((rd_T74 l0 x9_2).f0.f0), .int .i64 ((rd_T74 l0 x9_2).f0.f1), .int .i64 ((rd_T74 l0 x9_2).f0.f2), .string (⟨#[]⟩ : ByteArray)]) ?_ 3 _ rfl; (with_reducible repeat (first | refine blk_drewN ?_ _ | refine blk_drew ?_ | refine blk_alloc ?_ _)); refine blk_put (cs := #[.int .i64 ((rd_T74 l0 x9_2).f0.f0), .int .i64 ((rd_T74 l0 x9_2).f0.f1), .int .i64 0, .string (⟨#[]⟩ : ByteArray)]) ?_ 2 _ rfl; (with_reducible repeat (first | refine blk_drewN ?_ _ | refine blk_drew ?_ | refine blk_alloc ?_ _)); refine blk_put (cs := #[.int .i64 ((rd_T74 l0 x9_2).f0.f0), .int .i64 0, .int .i64 0, .string (⟨#[]⟩ : ByteArray)]) ?_ 1 _ rfl; (with_reducible repeat (first | refine blk_drewN ?_ _ | refine blk_drew ?_ | refine blk_alloc ?_ _)); refine blk_put (cs := #[.int .i64 0, .int .i64 0, .int .i64 0, .string (⟨#[]⟩ : ByteArray)]) ?_ 0 _ rfl; exact bk_ BK282.out⟩
            have n5_ : Aside0 (Below w.heap.size w ((((w72.setCell ⟨gb282, 0, none⟩ (.int .i64 ((rd_T74 l0 x9_2).f0.f0))).setCell ⟨gb282, 1, none⟩ (.int .i64 ((rd_T74 l0 x9_2).f0.f1))).setCell ⟨gb282, 2, none⟩ (.int .i64 ((rd_T74 l0 x9_2).f0.f2))).setCell ⟨gb282, 3, none⟩ (.string ((rd_T74 l0 x9_2).f0.f3)))) := ⟨bu_ HB.out GE270.out GE271.out GE282.out⟩
            (try clear HO_272000)
            (try clear HO_272001)
            (try clear BK270)
            (try clear BK271)
            (try clear BK282)
            (try clear HB)
            generalize ((((w72.setCell ⟨gb282, 0, none⟩ (.int .i64 ((rd_T74 l0 x9_2).f0.f0))).setCell ⟨gb282, 1, none⟩ (.int .i64 ((rd_T74 l0 x9_2).f0.f1))).setCell ⟨gb282, 2, none⟩ (.int .i64 ((rd_T74 l0 x9_2).f0.f2))).setCell ⟨gb282, 3, none⟩ (.string ((rd_T74 l0 x9_2).f0.f3))) = w76 at n0_ n1_ n2_ n3_ n4_ n5_ ⊢
            have HO_272000 := n0_
            have HO_272001 := n1_
            have BK270 := n2_
            have BK271 := n3_
            have BK282 := n4_
            have HB := n5_
            clear n0_ n1_ n2_ n3_ n4_ n5_
            have n0_ := Aside0.mk (Kd.R_drew HO_272000.out)
            have n1_ := Aside0.mk (Kd.R_drew HO_272001.out)
            have n2_ := Aside0.mk (blk_drew BK270.out)
            have n3_ := Aside0.mk (blk_drew BK271.out)
            have n4_ := Aside0.mk (blk_drew BK282.out)
            have n5_ := Aside0.mk (below_drew1 HB.out)
            clear HO_272000
            clear HO_272001
            clear BK270
            clear BK271
            clear BK282
            clear HB
            have HO_272000 := n0_
            have HO_272001 := n1_
            have BK270 := n2_
            have BK271 := n3_
            have BK282 := n4_
            have HB := n5_
            clear n0_ n1_ n2_ n3_ n4_ n5_
            have p286 : 0 ≤ (x9_2 : Int) := of_decide_eq_true as_
            have q286 : x9_2 < (l0.length : Int) := of_decide_eq_true as_
            obtain ⟨ad286, e286, hx286_0, hx286_1, hx286_2, hx286_3, hx286_4⟩ := at_T74 HR0.out x9_2 p286 q286
            have hw286_4 := hx286_4
            have hw286_3 := hx286_3
            have hw286_2 := hx286_2
            have hw286_1 := hx286_1
            have hw286_0 := hx286_0
            obtain rfl : ad281 = ad286 := (by injection e286)
            replace hx286_0 := (HB.out.cell (World.block_lt_of_cell? w _ hx286_0)).trans hx286_0
            replace hx286_1 := (HB.out.cell (World.block_lt_of_cell? w _ hx286_1)).trans hx286_1
            replace hx286_2 := (HB.out.cell (World.block_lt_of_cell? w _ hx286_2)).trans hx286_2
            replace hx286_3 := (HB.out.cell (World.block_lt_of_cell? w _ hx286_3)).trans hx286_3
            replace hx286_4 := (HB.out.cell (World.block_lt_of_cell? w _ hx286_4)).trans hx286_4
            replace p286 := eq_true p286
            replace q286 := eq_true q286
            refine start_ (n := 10) (S := fun w' => w'.cell? ⟨gb271, 0, none⟩ = some (.slice Ao56 x272000_1.length co56) ∧ w'.cell? ⟨gb271, 1, none⟩ = some (u272001) ∧ w'.cell? (ad281.add ((x9_2).toNat * 5)) = some (.int .i64 ((rd_T74 l0 x9_2).f0.f0)) ∧ w'.cell? ⟨(ad281.add ((x9_2).toNat * 5)).block, (ad281.add ((x9_2).toNat * 5)).off + 1, none⟩ = some (.int .i64 ((rd_T74 l0 x9_2).f0.f1)) ∧ w'.cell? ⟨(ad281.add ((x9_2).toNat * 5)).block, (ad281.add ((x9_2).toNat * 5)).off + 2, none⟩ = some (.int .i64 ((rd_T74 l0 x9_2).f0.f2)) ∧ w'.cell? ⟨(ad281.add ((x9_2).toNat * 5)).block, (ad281.add ((x9_2).toNat * 5)).off + 3, none⟩ = some (.string ((rd_T74 l0 x9_2).f0.f3)) ∧ w'.cell? ⟨(ad281.add ((x9_2).toNat * 5)).block, (ad281.add ((x9_2).toNat * 5)).off + 4, none⟩ = some (.string ((rd_T74 l0 x9_2).f1))) (ds := []) #[false, false, false, false, false, false, false, false, false, false] (by kernel_rfl) rfl rfl ⟨(blk_cell BK271.out 0).trans rfl, (blk_cell BK271.out 1).trans rfl, ((HB.out.cell (World.block_lt_of_cell? w _ hw286_0)).trans hw286_0), ((HB.out.cell (World.block_lt_of_cell? w _ hw286_1)).trans hw286_1), ((HB.out.cell (World.block_lt_of_cell? w _ hw286_2)).trans hw286_2), ((HB.out.cell (World.block_lt_of_cell? w _ hw286_3)).trans hw286_3), ((HB.out.cell (World.block_lt_of_cell? w _ hw286_4)).trans hw286_4)⟩ (fun hHeld => ?_); refine with_tabW topiaryref13_limited.tab24 topiaryref13_limited.bits24 (fun HT_ HW_ => ?_)
            generalize w76.drew = w77 at HO_272000 HO_272001 BK270 BK271 BK282 HB hx286_0 hx286_1 hx286_2 hx286_3 hx286_4 hHeld ⊢
            refine pure_ (i := 0) (N := some 78) (v := ?_) (a' := ?_) #[true, false, false, false, false, false, false, false, false, false] rfl rfl (any_of HT_.out (by kernel_rfl)) (fun _ _ _ h => h) (Or.inl ⟨by rfl, ?_⟩) ?_ ?_
            rotate_left
            ·intro w'
             go_simp
             with_reducible rfl
            rotate_left
            ·simp only [Act.put, List.setIfInBounds_toArray, List.set_cons_zero, List.set_cons_succ, i64_w, i32_w]
             rfl
            refine pure_ (i := 2) (N := some 80) (v := ?_) (a' := ?_) #[true, false, true, false, false, false, false, false, false, false] rfl rfl (any_of HT_.out (by kernel_rfl)) (fun _ _ _ h => h) (Or.inl ⟨by rfl, ?_⟩) ?_ ?_
            rotate_left
            ·intro w'
             go_simp
             with_reducible rfl
            rotate_left
            ·simp only [Act.put, List.setIfInBounds_toArray, List.set_cons_zero, List.set_cons_succ, i64_w, i32_w]
             rfl
            refine pure_ (i := 3) (N := some 81) (v := ?_) (a' := ?_) #[true, false, true, true, false, false, false, false, false, false] rfl rfl (any_of HT_.out (by kernel_rfl)) (fun _ _ _ h => h) (Or.inl ⟨by rfl, ?_⟩) ?_ ?_
            rotate_left
            ·intro w'
             go_simp
             with_reducible rfl
            rotate_left
            ·simp only [Act.put, List.setIfInBounds_toArray, List.set_cons_zero, List.set_cons_succ, i64_w, i32_w]
             rfl
            refine pure_ (i := 4) (N := some 82) (v := ?_) (a' := ?_) #[true, false, true, true, true, false, false, false, false, false] rfl rfl (any_of HT_.out (by kernel_rfl)) (fun _ _ _ h => h) (Or.inl ⟨by rfl, ?_⟩) ?_ ?_
            rotate_left
            ·intro w'
             go_simp
             with_reducible rfl
            rotate_left
            ·simp only [Act.put, List.setIfInBounds_toArray, List.set_cons_zero, List.set_cons_succ, i64_w, i32_w]
             rfl
            refine pure_ (i := 5) (N := some 83) (v := ?_) (a' := ?_) #[true, false, true, true, true, true, false, false, false, false] rfl rfl (any_of HT_.out (by kernel_rfl)) (fun _ _ _ h => h) (Or.inl ⟨by rfl, ?_⟩) ?_ ?_
            rotate_left
            ·intro w'
             go_simp
             with_reducible rfl
            rotate_left
            ·simp only [Act.put, List.setIfInBounds_toArray, List.set_cons_zero, List.set_cons_succ, i64_w, i32_w]
             rfl
            refine take_ (i := 1) (N := some 79) (v := ?_) (a' := ?_) #[true, true, true, true, true, true, false, false, false, false] rfl rfl (take_ofW HT_.out HW_.out (by kernel_rfl)) (fun _ _ _ h => h) (Or.inl ⟨by rfl, ?_⟩) hHeld ?_ ?_
            rotate_left
            ·rintro w' ⟨s0, s1, s2, s3, s4, s5, s6⟩
             go_simp
             with_reducible rfl
            rotate_left
            ·simp only [Act.put, List.setIfInBounds_toArray, List.set_cons_zero, List.set_cons_succ, i64_w, i32_w]
             rfl
            refine take_ (i := 6) (N := some 84) (v := ?_) (a' := ?_) #[true, true, true, true, true, true, true, false, false, false] rfl rfl (take_ofW HT_.out HW_.out (by kernel_rfl)) (fun _ _ _ h => h) (Or.inl ⟨by rfl, ?_⟩) hHeld ?_ ?_
            rotate_left
            ·rintro w' ⟨s0, s1, s2, s3, s4, s5, s6⟩
             go_simp
             with_reducible rfl
            rotate_left
            ·simp only [Act.put, List.setIfInBounds_toArray, List.set_cons_zero, List.set_cons_succ, i64_w, i32_w]
             rfl
            refine one_ (i := 7) (N := some 85) #[true, true, true, true, true, true, true, true, false, false] rfl rfl (one_of HT_.out (by kernel_rfl)) (by decide) (fun K hK => ?_)
            refine goes_ Try.func45 (by kernel_rfl) rfl #[.slice Ao56 x272000_1.length co56, .string ((rd_T74 l0 x9_2).f1)] (by rfl) rfl rfl ar_ ?_
            with_reducible refine (topiaryref13_Number.calls k2 _ _ x272000_1 ((rd_T74 l0 x9_2).f1) t287 _ ?side1 ?side2 A70.out).mono ?_
            (case side1 => exact cc_ (Kd.R_reads' HO_272000.out).2.2)
            (case side2 => exact (Kd.R_reads' HO_272000.out).2.1)
            rintro e w' ⟨rfl, ⟨nd, rfl⟩⟩
            refine ⟨_, rfl, ?_⟩
            refine hK.out _ _ ⟨(blk_cell BK271.out 0).trans rfl, (blk_cell BK271.out 1).trans rfl, ((HB.out.cell (World.block_lt_of_cell? w _ hw286_0)).trans hw286_0), ((HB.out.cell (World.block_lt_of_cell? w _ hw286_1)).trans hw286_1), ((HB.out.cell (World.block_lt_of_cell? w _ hw286_2)).trans hw286_2), ((HB.out.cell (World.block_lt_of_cell? w _ hw286_3)).trans hw286_3), ((HB.out.cell (World.block_lt_of_cell? w _ hw286_4)).trans hw286_4)⟩ (fun hHeld => ?_)
            clear hK K
            refine norm_ (a' := ?_) ?_ ?_
            rotate_left
            ·show Act.put _ (some 85) _ = _
             simp only [Act.put, List.setIfInBounds_toArray, List.set_cons_zero, List.set_cons_succ, i64_w, i32_w]
             rfl
            refine pure_ (i := 8) (N := some 86) (v := ?_) (a' := ?_) #[true, true, true, true, true, true, true, true, true, false] rfl rfl (any_of HT_.out (by kernel_rfl)) (fun _ _ _ h => h) (Or.inl ⟨by rfl, ?_⟩) ?_ ?_
            rotate_left
            ·intro w'
             go_simp
             with_reducible rfl
            rotate_left
            ·simp only [Act.put, List.setIfInBounds_toArray, List.set_cons_zero, List.set_cons_succ, i64_w, i32_w]
             rfl
            refine one_ (i := 9) (N := none) #[true, true, true, true, true, true, true, true, true, true] rfl rfl (one_of HT_.out (by kernel_rfl)) (by decide) (fun K hK => ?_)
            have hs78 : w77.cell? ⟨gb282, 1, none⟩ = some (.int .i64 ((rd_T74 l0 x9_2).f0.f1)) := (blk_cell BK282.out 1).trans rfl
            have hfs78 := blk_frozen BK282.out 1
            have hns78_0 := NB270_282.out
            have hns78_1 := NB271_282.out
            have hms78_0 := NB282_270.out
            have hms78_1 := NB282_271.out
            refine skip_ (w1 := ?_) (by rfl) rfl ?_ ?_
            rotate_left
            ·go_simp
             rfl
            refine hK.out _ _ ⟨((cell_far (p := ⟨gb282, _, none⟩) NB271_282.out _).trans (hHeld.1)), ((cell_far (p := ⟨gb282, _, none⟩) NB271_282.out _).trans (hHeld.2.1)), ((cell_far (p := ⟨gb282, _, none⟩) (by first | exact Nat.ne_of_lt (Nat.lt_of_lt_of_le (by have := World.block_lt_of_cell? _ _ hw286_0; first | rwa [add_block] at this | exact this) GW282.out) | (rw [add_block]; exact Nat.ne_of_lt (Nat.lt_of_lt_of_le (by have := World.block_lt_of_cell? _ _ hw286_0; first | rwa [add_block] at this | exact this) GW282.out)) | (show (Addr.add _ _).block ≠ _; rw [add_block]; exact Nat.ne_of_lt (Nat.lt_of_lt_of_le (by have := World.block_lt_of_cell? _ _ hw286_0; first | rwa [add_block] at this | exact this) GW282.out)) | (dsimp only; exact Nat.ne_of_lt (Nat.lt_of_lt_of_le (by have := World.block_lt_of_cell? _ _ hw286_0; first | rwa [add_block] at this | exact this) GW282.out))) _).trans (hHeld.2.2.1)), ((cell_far (p := ⟨gb282, _, none⟩) (by first | exact Nat.ne_of_lt (Nat.lt_of_lt_of_le (by have := World.block_lt_of_cell? _ _ hw286_1; first | rwa [add_block] at this | exact this) GW282.out) | (rw [add_block]; exact Nat.ne_of_lt (Nat.lt_of_lt_of_le (by have := World.block_lt_of_cell? _ _ hw286_1; first | rwa [add_block] at this | exact this) GW282.out)) | (show (Addr.add _ _).block ≠ _; rw [add_block]; exact Nat.ne_of_lt (Nat.lt_of_lt_of_le (by have := World.block_lt_of_cell? _ _ hw286_1; first | rwa [add_block] at this | exact this) GW282.out)) | (dsimp only; exact Nat.ne_of_lt (Nat.lt_of_lt_of_le (by have := World.block_lt_of_cell? _ _ hw286_1; first | rwa [add_block] at this | exact this) GW282.out))) _).trans (hHeld.2.2.2.1)), ((cell_far (p := ⟨gb282, _, none⟩) (by first | exact Nat.ne_of_lt (Nat.lt_of_lt_of_le (by have := World.block_lt_of_cell? _ _ hw286_2; first | rwa [add_block] at this | exact this) GW282.out) | (rw [add_block]; exact Nat.ne_of_lt (Nat.lt_of_lt_of_le (by have := World.block_lt_of_cell? _ _ hw286_2; first | rwa [add_block] at this | exact this) GW282.out)) | (show (Addr.add _ _).block ≠ _; rw [add_block]; exact Nat.ne_of_lt (Nat.lt_of_lt_of_le (by have := World.block_lt_of_cell? _ _ hw286_2; first | rwa [add_block] at this | exact this) GW282.out)) | (dsimp only; exact Nat.ne_of_lt (Nat.lt_of_lt_of_le (by have := World.block_lt_of_cell? _ _ hw286_2; first | rwa [add_block] at this | exact this) GW282.out))) _).trans (hHeld.2.2.2.2.1)), ((cell_far (p := ⟨gb282, _, none⟩) (by first | exact Nat.ne_of_lt (Nat.lt_of_lt_of_le (by have := World.block_lt_of_cell? _ _ hw286_3; first | rwa [add_block] at this | exact this) GW282.out) | (rw [add_block]; exact Nat.ne_of_lt (Nat.lt_of_lt_of_le (by have := World.block_lt_of_cell? _ _ hw286_3; first | rwa [add_block] at this | exact this) GW282.out)) | (show (Addr.add _ _).block ≠ _; rw [add_block]; exact Nat.ne_of_lt (Nat.lt_of_lt_of_le (by have := World.block_lt_of_cell? _ _ hw286_3; first | rwa [add_block] at this | exact this) GW282.out)) | (dsimp only; exact Nat.ne_of_lt (Nat.lt_of_lt_of_le (by have := World.block_lt_of_cell? _ _ hw286_3; first | rwa [add_block] at this | exact this) GW282.out))) _).trans (hHeld.2.2.2.2.2.1)), ((cell_far (p := ⟨gb282, _, none⟩) (by first | exact Nat.ne_of_lt (Nat.lt_of_lt_of_le (by have := World.block_lt_of_cell? _ _ hw286_4; first | rwa [add_block] at this | exact this) GW282.out) | (rw [add_block]; exact Nat.ne_of_lt (Nat.lt_of_lt_of_le (by have := World.block_lt_of_cell? _ _ hw286_4; first | rwa [add_block] at this | exact this) GW282.out)) | (show (Addr.add _ _).block ≠ _; rw [add_block]; exact Nat.ne_of_lt (Nat.lt_of_lt_of_le (by have := World.block_lt_of_cell? _ _ hw286_4; first | rwa [add_block] at this | exact this) GW282.out)) | (dsimp only; exact Nat.ne_of_lt (Nat.lt_of_lt_of_le (by have := World.block_lt_of_cell? _ _ hw286_4; first | rwa [add_block] at this | exact this) GW282.out))) _).trans (hHeld.2.2.2.2.2.2))⟩ (fun hHeld => ?_)
            clear hK K
            refine done_ (done_of HT_.out (by kernel_rfl)) ?_
            have hnb79 := NB271_270.out
            have hnc79 := NB270_271.out
            have hcz80_0 : w77.cell? ⟨gb271, 0, none⟩ = some (.slice Ao56 x272000_1.length co56) := (blk_cell BK271.out 0).trans rfl
            have hcz80_1 : w77.cell? ⟨gb271, 1, none⟩ = some (u272001) := (blk_cell BK271.out 1).trans rfl
            have hfz80_0 := blk_frozen BK271.out 0
            have hfz80_1 := blk_frozen BK271.out 1
            have hcz81_0 : w77.cell? ⟨gb282, 0, none⟩ = some (.int .i64 ((rd_T74 l0 x9_2).f0.f0)) := (blk_cell BK282.out 0).trans rfl
            have hcz81_1 : w77.cell? ⟨gb282, 1, none⟩ = some (.int .i64 ((rd_T74 l0 x9_2).f0.f1)) := (blk_cell BK282.out 1).trans rfl
            have hcz81_2 : w77.cell? ⟨gb282, 2, none⟩ = some (.int .i64 ((rd_T74 l0 x9_2).f0.f2)) := (blk_cell BK282.out 2).trans rfl
            have hcz81_3 : w77.cell? ⟨gb282, 3, none⟩ = some (.string ((rd_T74 l0 x9_2).f0.f3)) := (blk_cell BK282.out 3).trans rfl
            have hfz81_0 := blk_frozen BK282.out 0
            have hfz81_1 := blk_frozen BK282.out 1
            have hfz81_2 := blk_frozen BK282.out 2
            have hfz81_3 := blk_frozen BK282.out 3
            try go_wp2_with (first | ((with_reducible refine gate_builtin (b := .append) (xs := #[.tmp 88, .tmp 90]) rfl ?_); at_builtin; refine Kd.R_append k52 (w0 := w) w.heap.size rfl (.tmp 88) (.tmp 90) 23 52 (.agg #[(.int .i64 0), (.int .i64 0), (.int .i64 0), (.string ⟨#[]⟩)]) 40 rfl Try.underlying23 info52 rfl (by decide) (by omega) u272001 x272001_2 (⟨(rd_T74 l0 x9_2).f0.f0, t287, (rd_T74 l0 x9_2).f0.f2, (rd_T74 l0 x9_2).f0.f3⟩ : S52) [.int .i64 ((rd_T74 l0 x9_2).f0.f0), .int .i64 t287, .int .i64 ((rd_T74 l0 x9_2).f0.f2), .string ((rd_T74 l0 x9_2).f0.f3)] (fun k_ => k_ ≠ gb282) (fun _ => False) rfl (by first | (go_simp; done) | (go_simp; rfl)) ?aP (fun _ hk => hk.elim) ?aF ?aO ?aB ?aS ?aL ?_; (case aP => exact k52_mkM _ _ _ (⟨(rd_T74 l0 x9_2).f0.f0, t287, (rd_T74 l0 x9_2).f0.f2, (rd_T74 l0 x9_2).f0.f3⟩ : S52)); (case aB => exact (bu_ HB.out GE270.out GE271.out GE282.out)); (case aF => exact (fun k_ hk => Kd.freshB (g := gb282) (o := .cells #[.int .i64 ((rd_T74 l0 x9_2).f0.f0), .int .i64 t287, .int .i64 ((rd_T74 l0 x9_2).f0.f2), .string ((rd_T74 l0 x9_2).f0.f3)] 52 (0, 0)) (by (with_reducible repeat (first | refine blk_drewN ?_ _ | refine blk_drew ?_ | refine blk_alloc ?_ _)); refine blk_put (cs := #[.int .i64 ((rd_T74 l0 x9_2).f0.f0), .int .i64 ((rd_T74 l0 x9_2).f0.f1), .int .i64 ((rd_T74 l0 x9_2).f0.f2), .string ((rd_T74 l0 x9_2).f0.f3)]) ?_ 1 _ rfl; exact bk_ BK282.out) k_ hk)); (case aO => exact (by (with_reducible repeat (first | apply Kd.R_alloc | apply Kd.R_drewN | apply Kd.R_drew)); exact Kd.R_mono (Kd.R_far (p := ⟨gb282, 1, none⟩) (Kd.R_mono HO_272001.out (fun k_ hk => (⟨hk, hk⟩ : _ ∧ k_ ≠ gb282))) (fun _ hk => hk.2) (.int .i64 t287)) (fun _ hk => hk.1))); (case aS => exact (below_size (bu_ HB.out GE270.out GE271.out GE282.out))); (case aL => have := LMc71.out; omega); intro v289 w82 ho hb hg hat; rw [← Ny288.out] at ho; have n0_ := Aside0.mk (Kd.R_over' (by (with_reducible repeat (first | apply Kd.R_alloc | apply Kd.R_drewN | apply Kd.R_drew)); exact (Kd.R_mono (Kd.R_far (p := ⟨gb282, 1, none⟩) (Kd.R_types HO_272000.out BK282.out (by decide)) (fun _ hk => hk.2) (.int .i64 t287)) (fun _ h_ => h_.1))) (Kd.R_typed (by (with_reducible repeat (first | apply Kd.R_alloc | apply Kd.R_drewN | apply Kd.R_drew)); exact (Kd.R_mono (Kd.R_far (p := ⟨gb282, 1, none⟩) (Kd.R_mono HO_272001.out (fun k_ hk => (⟨hk, hk⟩ : _ ∧ k_ ≠ gb282))) (fun _ hk => hk.2) (.int .i64 t287)) (fun _ h_ => h_.1)))) (by decide) hg); have n1_ := Aside0.mk (blk_grown (g := gb270) (o := .cells #[.slice none 0 0, .slice none 0 0] 25 (0, 0)) (by (with_reducible repeat (first | refine blk_drewN ?_ _ | refine blk_drew ?_ | refine blk_alloc ?_ _)); refine blk_far ?_ NB270_282.out _; exact bk_ BK270.out) hg (Kd.R_ne HO_272001.out BK270.out (by decide))); have n2_ := Aside0.mk (blk_grown (g := gb271) (o := .cells #[.slice Ao56 x272000_1.length co56, u272001] 25 (0, 0)) (by (with_reducible repeat (first | refine blk_drewN ?_ _ | refine blk_drew ?_ | refine blk_alloc ?_ _)); refine blk_far ?_ NB271_282.out _; exact bk_ BK271.out) hg (Kd.R_ne HO_272001.out BK271.out (by decide))); have n3_ := Aside0.mk (blk_grown (g := gb282) (o := .cells #[.int .i64 ((rd_T74 l0 x9_2).f0.f0), .int .i64 t287, .int .i64 ((rd_T74 l0 x9_2).f0.f2), .string ((rd_T74 l0 x9_2).f0.f3)] 52 (0, 0)) (by (with_reducible repeat (first | refine blk_drewN ?_ _ | refine blk_drew ?_ | refine blk_alloc ?_ _)); refine blk_put (cs := #[.int .i64 ((rd_T74 l0 x9_2).f0.f0), .int .i64 ((rd_T74 l0 x9_2).f0.f1), .int .i64 ((rd_T74 l0 x9_2).f0.f2), .string ((rd_T74 l0 x9_2).f0.f3)]) ?_ 1 _ rfl; exact bk_ BK282.out) hg (Kd.R_away HO_272001.out (fun _ hk => hk))); have n4_ := Aside0.mk (hb); have n5_ := Aside0.mk (ho); clear HO_272000; clear BK270; clear BK271; clear BK282; clear HB; clear HO_272001; have HO_272000 := n0_; have BK270 := n1_; have BK271 := n2_; have BK282 := n3_; have HB := n4_; have HO290 := n5_; clear n0_ n1_ n2_ n3_ n4_ n5_; clear ho hb hg hat; obtain ⟨Ao83, co83, eo83⟩ := Kd.R_slice HO290.out; subst eo83; have hcz84_0 : w82.cell? ⟨gb271, 0, none⟩ = some (.slice Ao56 x272000_1.length co56) := (blk_cell BK271.out 0).trans rfl; have hcz84_1 : w82.cell? ⟨gb271, 1, none⟩ = some (u272001) := (blk_cell BK271.out 1).trans rfl; have hfz84_0 := blk_frozen BK271.out 0; have hfz84_1 := blk_frozen BK271.out 1))
            go_roundg k2
            case measure => have := HK1.out; have := HK2.out; omega
            case rel => exact ⟨(wrap64 (x9_2 + 1)), (y288), (.slice Ao83 y288.length co83), sm_, H', ⟨by have := HK1.out; have := HK2.out; omega⟩, ⟨by (with_reducible repeat (first | apply Kd.R_alloc | apply Kd.R_drewN | apply Kd.R_drew)); exact Kd.R_mono (Kd.R_far (p := ⟨gb271, 1, none⟩) (Kd.R_types HO_272000.out BK271.out (by decide)) (fun _ hk => hk.2) (.slice Ao83 y288.length co83)) (fun _ hk => trivial)⟩, ⟨by (with_reducible repeat (first | apply Kd.R_alloc | apply Kd.R_drewN | apply Kd.R_drew)); exact Kd.R_mono (Kd.R_far (p := ⟨gb271, 1, none⟩) (Kd.R_types HO290.out BK271.out (by decide)) (fun _ hk => hk.2) (.slice Ao83 y288.length co83)) (fun _ hk => trivial)⟩, ⟨by (with_reducible repeat (first | refine blk_drewN ?_ _ | refine blk_drew ?_ | refine blk_alloc ?_ _)); refine blk_far ?_ NB270_271.out _; exact bk_ BK270.out⟩, ⟨by (with_reducible repeat (first | refine blk_drewN ?_ _ | refine blk_drew ?_ | refine blk_alloc ?_ _)); refine blk_put (cs := #[.slice Ao56 x272000_1.length co56, u272001]) ?_ 1 _ rfl; exact bk_ BK271.out⟩, ⟨bu_ HB.out GE270.out GE271.out GE282.out⟩⟩
           ·rw [if_neg c71] at H
            exact absurd H (by simp)
         ·rw [if_neg c58] at H
          exact absurd H (by simp)
        ·rw [if_neg c57] at H
         have c57b0 : decide (x9_2 < (l0.length : Int)) = false := decide_eq_false c57
         clear c57
         simp only [Option.some.injEq, Prod.mk.injEq] at H
         obtain ⟨rfl, rfl, rfl⟩ := H
         have hnb85 := NB271_270.out
         have hnc85 := NB270_271.out
         have hcz86_0 : wr.cell? ⟨gb271, 0, none⟩ = some (.slice Ao56 x272000_1.length co56) := (blk_cell BK271.out 0).trans rfl
         have hcz86_1 : wr.cell? ⟨gb271, 1, none⟩ = some (u272001) := (blk_cell BK271.out 1).trans rfl
         have hfz86_0 := blk_frozen BK271.out 0
         have hfz86_1 := blk_frozen BK271.out 1
         have hcz87_0 : wr.cell? ⟨gb270, 0, none⟩ = some (.slice none 0 0) := (blk_cell BK270.out 0).trans rfl
         have hcz87_1 : wr.cell? ⟨gb270, 1, none⟩ = some (.slice none 0 0) := (blk_cell BK270.out 1).trans rfl
         have hfz87_0 := blk_frozen BK270.out 0
         have hfz87_1 := blk_frozen BK270.out 1
         obtain ⟨Ao88, co88, eo88⟩ := Kd.R_slice HO_272001.out
         subst eo88
         go_wp2
         refine bodyPost_ret (results_ct rfl _ _ gb270 25 #[.slice Ao56 x272000_1.length co56, .slice Ao88 x272001_2.length co88] (0, 0) _ rfl (by (with_reducible repeat (first | refine blk_drewN ?_ _ | refine blk_drew ?_ | refine blk_alloc ?_ _)); refine blk_put (cs := #[.slice Ao56 x272000_1.length co56, .slice none 0 0]) ?_ 1 _ rfl; (with_reducible repeat (first | refine blk_drewN ?_ _ | refine blk_drew ?_ | refine blk_alloc ?_ _)); refine blk_put (cs := #[.slice none 0 0, .slice none 0 0]) ?_ 0 _ rfl; exact bk_ BK270.out) Try.underlying25 rfl (by kernel_rfl)) rfl ?_
         exact ⟨_, _, by first | rfl | (simp [errW_none, errW_some] <;> rfl) | (simp [*, errW_none, errW_some] <;> rfl), by (with_reducible repeat (first | apply Kd.R_alloc | apply Kd.R_drewN | apply Kd.R_drew)); exact Kd.R_mono (Kd.R_far (p := ⟨gb270, 1, none⟩) (Kd.R_far (p := ⟨gb270, 0, none⟩) (Kd.R_types HO_272000.out BK270.out (by decide)) (fun _ hk => hk.2) (.slice Ao56 x272000_1.length co56)) (fun _ hk => hk.2) (.slice Ao88 x272001_2.length co88)) (fun _ hk => trivial), by (with_reducible repeat (first | apply Kd.R_alloc | apply Kd.R_drewN | apply Kd.R_drew)); exact Kd.R_mono (Kd.R_far (p := ⟨gb270, 1, none⟩) (Kd.R_far (p := ⟨gb270, 0, none⟩) (Kd.R_types HO_272001.out BK270.out (by decide)) (fun _ hk => hk.2) (.slice Ao56 x272000_1.length co56)) (fun _ hk => hk.2) (.slice Ao88 x272001_2.length co88)) (fun _ hk => trivial), bt_ HB.out GE270.out GE271.out⟩
end Go.Proofs.Ytoanmoddppmffaa.T
