/- slices.EqualFunc at steps and at what must hold; the program's Same of any two rows. Written by sf.py. -/
import Derived.Test.YtoanmoddppmffaaGreatDoorXSe
namespace Go.Proofs.YtoanmoddppmffaaGreatDoor.T
open Go.RowKit Go.Shelf Go.Proofs.YtoanmoddppmffaaGreatDoorW.PrintWords
set_option linter.unusedVariables false
set_option linter.unusedSimpArgs false
def QEqSC (n : Nat) : Prop := ∀ (ok ok' : Nat → Prop) (w : World) (v u : Value) (xs ys : List Step), SlAt (stepR ok w n) ok w v xs → StepsR ok' w u ys → Calls Tryz.prog 26 #[v, u, .func (.func 27) #[] #[]] w (SamePost (eqB xs ys) w)
set_option maxHeartbeats 4000000 in
set_option maxRecDepth 100000 in
theorem eqSteps_any (n : Nat) (IH : ∀ m, m < n → QEqPC m) : QEqSC n := by
  intro ok ok' w v u xs ys hx hy
  obtain ⟨A, c, rfl, hc1, hc2⟩ := hx.slice
  obtain ⟨ny, hy'⟩ := hy
  obtain ⟨B, d, rfl, hd1, hd2⟩ := hy'.slice
  by_cases hlen : xs.length = ys.length
  · rw [← hlen]
    have HLEN := Aside0.mk hlen
    have HX := Aside0.mk hx
    have HY := Aside0.mk hy'
    have HIH := Aside0.mk IH
    have hm : (xs.length : Int) ≤ 9223372036854775807 := by unfold maxLen at hc2; omega
    clear hx hy' IH hlen
    go_enter Tryz.func26, Tryz.ntmps26
    go_wp2
    go_loopg [17] xs.length (fun gk iv wr => ∃ i : Nat, iv = .int .i64 i ∧ i ≤ xs.length ∧ xs.length - i ≤ gk ∧ Aside0 (Below w.heap.size w wr ∧ xs.take i = ys.take i))
    case atStart => exact ⟨0, rfl, by omega, by omega, ⟨Below.refl _ _, rfl⟩⟩
    case round =>
      obtain ⟨i, rfl, hi, hgk, H⟩ := hrel
      have hi0 : (0 : Int) ≤ (i : Int) := by omega
      by_cases hlt : i < xs.length
      · have hlt1 : (i : Int) < (xs.length : Int) := by omega
        obtain ⟨x, hxi⟩ : ∃ x, xs[i]? = some x := ⟨_, List.getElem?_eq_getElem hlt⟩
        obtain ⟨y, hyi⟩ : ∃ y, ys[i]? = some y := ⟨_, List.getElem?_eq_getElem (by have := HLEN.out; omega)⟩
        obtain ⟨m, ad, c', u1, rfl, hv1, hok1, hp1, x0, x1, x2, x3⟩ := HX.out.getS hxi
        obtain ⟨m2, bd, d', u2, rfl, hv2, hok2, hp2, y0, y1, y2, y3⟩ := HY.out.getS (n := ny) hyi
        simp only [Value.slice.injEq, true_and] at hv1 hv2
        obtain ⟨rfl, rfl⟩ := hv1
        obtain ⟨rfl, rfl⟩ := hv2
        have hbel := H.out.1
        obtain ⟨A1, c1, rfl, hc3, hc4⟩ := hp1.slice
        obtain ⟨B1, d1, rfl, hd3, hd4⟩ := hp2.slice
        have p0 : wr.cell? (ad.add (i * 4)) = some (.bool x.deep) := pw_cell_below hbel x0
        have p1 : wr.cell? ⟨(ad.add (i * 4)).block, (ad.add (i * 4)).off + 1, none⟩ = some (.int .i64 x.axis) := pw_cell_below hbel x1
        have p2 : wr.cell? ⟨(ad.add (i * 4)).block, (ad.add (i * 4)).off + 2, none⟩ = some (.string x.name) := pw_cell_below hbel x2
        have p3 : wr.cell? ⟨(ad.add (i * 4)).block, (ad.add (i * 4)).off + 3, none⟩ = some (.slice A1 x.preds.length c1) := pw_cell_below hbel x3
        have HNE : Aside0 (x ≠ y → eqB xs ys = false) := ⟨fun h => eqB_no (by rintro rfl; rw [hxi] at hyi; exact h (Option.some.inj hyi))⟩
        have HEQ : Aside0 (x = y → xs.take (i + 1) = ys.take (i + 1)) := ⟨fun e => by rw [List.take_add_one, List.take_add_one, H.out.2, hxi, hyi, e]⟩
        clear hxi hyi
        go_upto_region 6 with fail
        have hbA : Below wr.heap.size wr (wr.alloc (.cells #[.bool x.deep, .int .i64 x.axis, .string x.name, .slice A1 x.preds.length c1] 39)) := below_alloc (Below.refl _ _) _
        have hnA : (wr.alloc (.cells #[.bool x.deep, .int .i64 x.axis, .string x.name, .slice A1 x.preds.length c1] 39)).heap[wr.heap.size]? = some (.cells #[.bool x.deep, .int .i64 x.axis, .string x.name, .slice A1 x.preds.length c1] 39 (0, 0)) := blk_new _ _
        have hsA : (wr.alloc (.cells #[.bool x.deep, .int .i64 x.axis, .string x.name, .slice A1 x.preds.length c1] 39)).heap.size = wr.heap.size + 1 := by simp
        generalize wr.alloc (.cells #[.bool x.deep, .int .i64 x.axis, .string x.name, .slice A1 x.preds.length c1] 39) = W1 at hbA hnA hsA ⊢
        have hbel1 : Below w.heap.size w W1 := below_step hbel hbA
        have r0 : W1.cell? (bd.add (i * 4)) = some (.bool y.deep) := pw_cell_below hbel1 y0
        have r1 : W1.cell? ⟨(bd.add (i * 4)).block, (bd.add (i * 4)).off + 1, none⟩ = some (.int .i64 y.axis) := pw_cell_below hbel1 y1
        have r2 : W1.cell? ⟨(bd.add (i * 4)).block, (bd.add (i * 4)).off + 2, none⟩ = some (.string y.name) := pw_cell_below hbel1 y2
        have r3 : W1.cell? ⟨(bd.add (i * 4)).block, (bd.add (i * 4)).off + 3, none⟩ = some (.slice B1 y.preds.length d1) := pw_cell_below hbel1 y3
        clear p0 p1 p2 p3
        go_upto_region 7 with fail
        have hbB : Below W1.heap.size W1 (W1.alloc (.cells #[.bool y.deep, .int .i64 y.axis, .string y.name, .slice B1 y.preds.length d1] 39)) := below_alloc (Below.refl _ _) _
        have hnB : (W1.alloc (.cells #[.bool y.deep, .int .i64 y.axis, .string y.name, .slice B1 y.preds.length d1] 39)).heap[W1.heap.size]? = some (.cells #[.bool y.deep, .int .i64 y.axis, .string y.name, .slice B1 y.preds.length d1] 39 (0, 0)) := blk_new _ _
        have hnA2 : (W1.alloc (.cells #[.bool y.deep, .int .i64 y.axis, .string y.name, .slice B1 y.preds.length d1] 39)).heap[wr.heap.size]? = some (.cells #[.bool x.deep, .int .i64 x.axis, .string x.name, .slice A1 x.preds.length c1] 39 (0, 0)) := blk_below hnA hbB
        rw [hsA] at hnB
        try rw [hsA]
        generalize W1.alloc (.cells #[.bool y.deep, .int .i64 y.axis, .string y.name, .slice B1 y.preds.length d1] 39) = W2 at hbB hnB hnA2 ⊢
        have hbel2 : Below w.heap.size w W2 := below_step hbel1 hbB
        have s0 : W2.cell? ⟨wr.heap.size, 0, none⟩ = some (.bool x.deep) := (blk_cell hnA2 0).trans rfl
        have s1 : W2.cell? ⟨wr.heap.size, 1, none⟩ = some (.int .i64 x.axis) := (blk_cell hnA2 1).trans rfl
        have s2 : W2.cell? ⟨wr.heap.size, 2, none⟩ = some (.string x.name) := (blk_cell hnA2 2).trans rfl
        have s3 : W2.cell? ⟨wr.heap.size, 3, none⟩ = some (.slice A1 x.preds.length c1) := (blk_cell hnA2 3).trans rfl
        have t0 : W2.cell? ⟨wr.heap.size + 1, 0, none⟩ = some (.bool y.deep) := (blk_cell hnB 0).trans rfl
        have t1 : W2.cell? ⟨wr.heap.size + 1, 1, none⟩ = some (.int .i64 y.axis) := (blk_cell hnB 1).trans rfl
        have t2 : W2.cell? ⟨wr.heap.size + 1, 2, none⟩ = some (.string y.name) := (blk_cell hnB 2).trans rfl
        have t3 : W2.cell? ⟨wr.heap.size + 1, 3, none⟩ = some (.slice B1 y.preds.length d1) := (blk_cell hnB 3).trans rfl
        have hcall := same1_any m (HIH.out m (by omega)) _ _ W2 x y A1 B1 c1 d1 (predsAt_below hp1 hbel2) ⟨_, predsAt_below hp2 hbel2⟩
        have HB2 := Aside0.mk hbel2
        clear r0 r1 r2 r3 x0 x1 x2 x3 y0 y1 y2 y3 hbA hnA hsA hbB hnB hnA2 hbel hbel1 hbel2 hp1 hp2
        go_wp2_with fail
        go_at_call 27
        refine hcall.mono ?_
        rintro e w5 ⟨rfl, hb5⟩
        have HB5 := Aside0.mk (below_step HB2.out hb5)
        clear hcall hb5 s0 s1 s2 s3 t0 t1 t2 t3
        cases he : eqB x y with
        | false =>
          have HNO := Aside0.mk (HNE.out (fun e => by rw [e, eqB_self] at he; cases he))
          go_wp2
          go_ret
          exact ⟨congrArg (fun x => Ending.returned (Value.bool x)) HNO.out.symm, HB5.out⟩
        | true =>
          have HMO := Aside0.mk (HEQ.out (eqB_iff.1 he))
          go_wp2
          go_roundg (xs.length - (i + 1))
          case rel => exact ⟨i + 1, by go_num, by omega, by omega, ⟨HB5.out, HMO.out⟩⟩
          case measure => omega
      · obtain rfl : i = xs.length := by omega
        have HT : Aside0 (eqB xs ys = true) := ⟨eqB_iff.2 (by have h := H.out.2; rw [List.take_length, HLEN.out, List.take_length] at h; exact h)⟩
        go_wp2
        go_ret
        exact ⟨congrArg (fun x => Ending.returned (Value.bool x)) HT.out.symm, H.out.1⟩
  · have hlen' : ¬ (xs.length : Int) = (ys.length : Int) := by omega
    have HN := Aside0.mk (eqB_no (show xs ≠ ys by rintro rfl; exact hlen rfl))
    clear hx hy' IH
    go_enter Tryz.func26, Tryz.ntmps26
    go_wp2
    go_ret
    exact ⟨congrArg (fun x => Ending.returned (Value.bool x)) HN.out.symm, Below.refl _ _⟩
set_option maxHeartbeats 4000000 in
set_option maxRecDepth 100000 in
theorem eqPreds_any (n : Nat) (IH : ∀ m, m < n → QSameC m ∧ QEqPC m) : QEqPC n := by
  intro ok ok' w v u xs ys hx hy
  obtain ⟨A, c, rfl, hc1, hc2⟩ := hx.slice
  obtain ⟨ny, hy'⟩ := hy
  obtain ⟨B, d, rfl, hd1, hd2⟩ := hy'.slice
  by_cases hlen : xs.length = ys.length
  · rw [← hlen]
    have HLEN := Aside0.mk hlen
    have HX := Aside0.mk hx
    have HY := Aside0.mk hy'
    have HIH := Aside0.mk IH
    have hm : (xs.length : Int) ≤ 9223372036854775807 := by unfold maxLen at hc2; omega
    clear hx hy' IH hlen
    go_enter Tryz.func28, Tryz.ntmps28
    go_wp2
    go_loopg [17] xs.length (fun gk iv wr => ∃ i : Nat, iv = .int .i64 i ∧ i ≤ xs.length ∧ xs.length - i ≤ gk ∧ Aside0 (Below w.heap.size w wr ∧ xs.take i = ys.take i))
    case atStart => exact ⟨0, rfl, by omega, by omega, ⟨Below.refl _ _, rfl⟩⟩
    case round =>
      obtain ⟨i, rfl, hi, hgk, H⟩ := hrel
      have hi0 : (0 : Int) ≤ (i : Int) := by omega
      by_cases hlt : i < xs.length
      · have hlt1 : (i : Int) < (xs.length : Int) := by omega
        obtain ⟨x, hxi⟩ : ∃ x, xs[i]? = some x := ⟨_, List.getElem?_eq_getElem hlt⟩
        obtain ⟨y, hyi⟩ : ∃ y, ys[i]? = some y := ⟨_, List.getElem?_eq_getElem (by have := HLEN.out; omega)⟩
        obtain ⟨m, ad, c', u1, v1, rfl, hv1, hok1, hp1, ha1, x0, x1, x2, x3⟩ := HX.out.getP hxi
        obtain ⟨m2, bd, d', u2, v2, rfl, hv2, hok2, hp2, ha2, y0, y1, y2, y3⟩ := HY.out.getP (n := ny) hyi
        simp only [Value.slice.injEq, true_and] at hv1 hv2
        obtain ⟨rfl, rfl⟩ := hv1
        obtain ⟨rfl, rfl⟩ := hv2
        have hbel := H.out.1
        obtain ⟨A1, c1, rfl, hc3, hc4⟩ := hp1.slice
        obtain ⟨B1, d1, rfl, hd3, hd4⟩ := hp2.slice
        obtain ⟨C1, e1, rfl, hc5, hc6⟩ := ha1.slice
        obtain ⟨D1, g1, rfl, hd5, hd6⟩ := ha2.slice
        have p0 : wr.cell? (ad.add (i * 4)) = some (.int .i64 x.kind) := pw_cell_below hbel x0
        have p1 : wr.cell? ⟨(ad.add (i * 4)).block, (ad.add (i * 4)).off + 1, none⟩ = some (.int .i64 x.n) := pw_cell_below hbel x1
        have p2 : wr.cell? ⟨(ad.add (i * 4)).block, (ad.add (i * 4)).off + 2, none⟩ = some (.slice A1 x.path.length c1) := pw_cell_below hbel x2
        have p3 : wr.cell? ⟨(ad.add (i * 4)).block, (ad.add (i * 4)).off + 3, none⟩ = some (.slice C1 x.args.length e1) := pw_cell_below hbel x3
        have HNE : Aside0 (x ≠ y → eqB xs ys = false) := ⟨fun h => eqB_no (by rintro rfl; rw [hxi] at hyi; exact h (Option.some.inj hyi))⟩
        have HEQ : Aside0 (x = y → xs.take (i + 1) = ys.take (i + 1)) := ⟨fun e => by rw [List.take_add_one, List.take_add_one, H.out.2, hxi, hyi, e]⟩
        clear hxi hyi
        go_upto_region 6 with fail
        have hbA : Below wr.heap.size wr (wr.alloc (.cells #[.int .i64 x.kind, .int .i64 x.n, .slice A1 x.path.length c1, .slice C1 x.args.length e1] 41)) := below_alloc (Below.refl _ _) _
        have hnA : (wr.alloc (.cells #[.int .i64 x.kind, .int .i64 x.n, .slice A1 x.path.length c1, .slice C1 x.args.length e1] 41)).heap[wr.heap.size]? = some (.cells #[.int .i64 x.kind, .int .i64 x.n, .slice A1 x.path.length c1, .slice C1 x.args.length e1] 41 (0, 0)) := blk_new _ _
        have hsA : (wr.alloc (.cells #[.int .i64 x.kind, .int .i64 x.n, .slice A1 x.path.length c1, .slice C1 x.args.length e1] 41)).heap.size = wr.heap.size + 1 := by simp
        generalize wr.alloc (.cells #[.int .i64 x.kind, .int .i64 x.n, .slice A1 x.path.length c1, .slice C1 x.args.length e1] 41) = W1 at hbA hnA hsA ⊢
        have hbel1 : Below w.heap.size w W1 := below_step hbel hbA
        have r0 : W1.cell? (bd.add (i * 4)) = some (.int .i64 y.kind) := pw_cell_below hbel1 y0
        have r1 : W1.cell? ⟨(bd.add (i * 4)).block, (bd.add (i * 4)).off + 1, none⟩ = some (.int .i64 y.n) := pw_cell_below hbel1 y1
        have r2 : W1.cell? ⟨(bd.add (i * 4)).block, (bd.add (i * 4)).off + 2, none⟩ = some (.slice B1 y.path.length d1) := pw_cell_below hbel1 y2
        have r3 : W1.cell? ⟨(bd.add (i * 4)).block, (bd.add (i * 4)).off + 3, none⟩ = some (.slice D1 y.args.length g1) := pw_cell_below hbel1 y3
        clear p0 p1 p2 p3
        go_upto_region 7 with fail
        have hbB : Below W1.heap.size W1 (W1.alloc (.cells #[.int .i64 y.kind, .int .i64 y.n, .slice B1 y.path.length d1, .slice D1 y.args.length g1] 41)) := below_alloc (Below.refl _ _) _
        have hnB : (W1.alloc (.cells #[.int .i64 y.kind, .int .i64 y.n, .slice B1 y.path.length d1, .slice D1 y.args.length g1] 41)).heap[W1.heap.size]? = some (.cells #[.int .i64 y.kind, .int .i64 y.n, .slice B1 y.path.length d1, .slice D1 y.args.length g1] 41 (0, 0)) := blk_new _ _
        have hnA2 : (W1.alloc (.cells #[.int .i64 y.kind, .int .i64 y.n, .slice B1 y.path.length d1, .slice D1 y.args.length g1] 41)).heap[wr.heap.size]? = some (.cells #[.int .i64 x.kind, .int .i64 x.n, .slice A1 x.path.length c1, .slice C1 x.args.length e1] 41 (0, 0)) := blk_below hnA hbB
        rw [hsA] at hnB
        try rw [hsA]
        generalize W1.alloc (.cells #[.int .i64 y.kind, .int .i64 y.n, .slice B1 y.path.length d1, .slice D1 y.args.length g1] 41) = W2 at hbB hnB hnA2 ⊢
        have hbel2 : Below w.heap.size w W2 := below_step hbel1 hbB
        have s0 : W2.cell? ⟨wr.heap.size, 0, none⟩ = some (.int .i64 x.kind) := (blk_cell hnA2 0).trans rfl
        have s1 : W2.cell? ⟨wr.heap.size, 1, none⟩ = some (.int .i64 x.n) := (blk_cell hnA2 1).trans rfl
        have s2 : W2.cell? ⟨wr.heap.size, 2, none⟩ = some (.slice A1 x.path.length c1) := (blk_cell hnA2 2).trans rfl
        have s3 : W2.cell? ⟨wr.heap.size, 3, none⟩ = some (.slice C1 x.args.length e1) := (blk_cell hnA2 3).trans rfl
        have t0 : W2.cell? ⟨wr.heap.size + 1, 0, none⟩ = some (.int .i64 y.kind) := (blk_cell hnB 0).trans rfl
        have t1 : W2.cell? ⟨wr.heap.size + 1, 1, none⟩ = some (.int .i64 y.n) := (blk_cell hnB 1).trans rfl
        have t2 : W2.cell? ⟨wr.heap.size + 1, 2, none⟩ = some (.slice B1 y.path.length d1) := (blk_cell hnB 2).trans rfl
        have t3 : W2.cell? ⟨wr.heap.size + 1, 3, none⟩ = some (.slice D1 y.args.length g1) := (blk_cell hnB 3).trans rfl
        have hcall := samePred_any m (HIH.out m (by omega)).1 (HIH.out m (by omega)).2 _ _ W2 x y A1 B1 C1 D1 c1 d1 e1 g1 (stepsAt_below hp1 hbel2) (predsAt_below ha1 hbel2) ⟨_, stepsAt_below hp2 hbel2⟩ ⟨_, predsAt_below ha2 hbel2⟩
        have HB2 := Aside0.mk hbel2
        clear r0 r1 r2 r3 x0 x1 x2 x3 y0 y1 y2 y3 hbA hnA hsA hbB hnB hnA2 hbel hbel1 hbel2 hp1 hp2 ha1 ha2
        go_wp2_with fail
        go_at_call 29
        refine hcall.mono ?_
        rintro e w5 ⟨rfl, hb5⟩
        have HB5 := Aside0.mk (below_step HB2.out hb5)
        clear hcall hb5 s0 s1 s2 s3 t0 t1 t2 t3
        cases he : eqB x y with
        | false =>
          have HNO := Aside0.mk (HNE.out (fun e => by rw [e, eqB_self] at he; cases he))
          go_wp2
          go_ret
          exact ⟨congrArg (fun x => Ending.returned (Value.bool x)) HNO.out.symm, HB5.out⟩
        | true =>
          have HMO := Aside0.mk (HEQ.out (eqB_iff.1 he))
          go_wp2
          go_roundg (xs.length - (i + 1))
          case rel => exact ⟨i + 1, by go_num, by omega, by omega, ⟨HB5.out, HMO.out⟩⟩
          case measure => omega
      · obtain rfl : i = xs.length := by omega
        have HT : Aside0 (eqB xs ys = true) := ⟨eqB_iff.2 (by have h := H.out.2; rw [List.take_length, HLEN.out, List.take_length] at h; exact h)⟩
        go_wp2
        go_ret
        exact ⟨congrArg (fun x => Ending.returned (Value.bool x)) HT.out.symm, H.out.1⟩
  · have hlen' : ¬ (xs.length : Int) = (ys.length : Int) := by omega
    have HN := Aside0.mk (eqB_no (show xs ≠ ys by rintro rfl; exact hlen rfl))
    clear hx hy' IH
    go_enter Tryz.func28, Tryz.ntmps28
    go_wp2
    go_ret
    exact ⟨congrArg (fun x => Ending.returned (Value.bool x)) HN.out.symm, Below.refl _ _⟩
theorem same_of (n : Nat) (h : QEqSC n) : QSameC n := by
  intro ok ok' w v u xs ys hx hy
  have hcall := h ok ok' w v u xs ys hx hy
  clear hx hy h
  go_enter Tryz.func16, Tryz.ntmps16
  go_wp2_with fail
  go_at_call 26
  refine hcall.mono ?_
  rintro e w5 ⟨rfl, hb5⟩
  have HB := Aside0.mk hb5
  clear hcall hb5
  go_wp2
  go_ret
  exact ⟨rfl, HB.out⟩
theorem same_both (n : Nat) : QSameC n ∧ QEqPC n := by
  induction n using Nat.strongRecOn with
  | _ n ih => exact ⟨same_of n (eqSteps_any n (fun m hm => (ih m hm).2)), eqPreds_any n ih⟩
theorem same_any {ok ok' : Nat → Prop} {w : World} {v u : Value} {xs ys : List Step} (h1 : StepsR ok w v xs) (h2 : StepsR ok' w u ys) : Calls Tryz.prog 16 #[v, u] w (SamePost (eqB xs ys) w) := by
  obtain ⟨n, h1⟩ := h1
  exact (same_both n).1 ok ok' w v u xs ys h1 h2
end Go.Proofs.YtoanmoddppmffaaGreatDoor.T
