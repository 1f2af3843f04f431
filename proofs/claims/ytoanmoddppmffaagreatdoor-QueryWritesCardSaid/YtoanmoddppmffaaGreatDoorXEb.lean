/- fewPreds; small and fewPreds at every depth. -/
import Derived.Test.YtoanmoddppmffaaGreatDoorXEa
namespace Go.Proofs.YtoanmoddppmffaaGreatDoor.T
open Go.RowKit Go.Shelf Go.Proofs.YtoanmoddppmffaaGreatDoorW.PrintWords
set_option linter.unusedVariables false
set_option linter.unusedSimpArgs false
def FewI (d : Nat) (l : List Pred) (w : World) (gk : Nat) (ov iv : Value) (wr : World) : Prop :=
  ∃ i : Nat, iv = .int .i64 i ∧ i ≤ l.length ∧ i ≤ 3 ∧ 3 - i ≤ gk ∧ OwnR PredR 41 w.heap.size wr ov ((l.take i).map (fewQ d)) ∧ Below w.heap.size w wr
theorem few_zero : FewC 0 := by
  intro ok w v l hl
  obtain ⟨n0, hl'⟩ := hl
  obtain ⟨A, c, rfl, hc1, hc2⟩ := hl'.slice
  have hm : (l.length : Int) ≤ 9223372036854775807 := by unfold maxLen at hc2; omega
  clear hl'
  change Calls Tryz.prog 14 #[.slice A l.length c, .int .i64 0] w fun e w' => ∃ v', e = .returned v' ∧ PredsR (fun k => w.heap.size ≤ k) w' v' [] ∧ Below w.heap.size w w'
  go_enter Tryz.func14, Tryz.ntmps14
  go_wp2
  go_loopg [5, 6] 0 (fun gk ov iv wr => ov = .slice none 0 0 ∧ iv = .int .i64 0 ∧ w = wr)
  case atStart => exact ⟨rfl, rfl, rfl⟩
  case round =>
    obtain ⟨rfl, rfl, rfl⟩ := hrel
    by_cases hlt : 0 < l.length
    · have h1 : (0 : Int) < (l.length : Int) := by omega
      go_wp2
      go_ret
      exact ⟨_, rfl, PredsR.nil _ _, Below.refl _ _⟩
    · have h1 : ¬ (0 : Int) < (l.length : Int) := by omega
      go_wp2
      go_ret
      exact ⟨_, rfl, PredsR.nil _ _, Below.refl _ _⟩
set_option maxHeartbeats 4000000 in
set_option maxRecDepth 100000 in
theorem few_step (d : Nat) (hd : d ≤ 1000) (IHS : SmallC d) (IH : FewC d) : FewC (d + 1) := by
  intro ok w v l hl
  obtain ⟨n0, hl'⟩ := hl
  obtain ⟨A, c, rfl, hc1, hc2⟩ := hl'.slice
  have HL := Aside0.mk (show PredsR ok w (.slice A l.length c) l from ⟨n0, hl'⟩)
  have HIH := Aside0.mk IH
  have HIHS := Aside0.mk IHS
  have hm : (l.length : Int) ≤ 9223372036854775807 := by unfold maxLen at hc2; omega
  have hd0 : (0 : Int) ≤ (d : Int) := by omega
  have hd1 : (0 : Int) < (d : Int) + 1 := by omega
  have hd2 : (d : Int) ≤ 1000 := by omega
  have hst : FewI d l w 3 (.slice none 0 0) (.int .i64 ((0 : Nat) : Int)) w := ⟨0, rfl, by omega, by omega, by omega, OwnR.nil _ _ _ _, Below.refl _ _⟩
  have HST := Aside0.mk hst
  clear hl' IH hst IHS
  rw [show (((d + 1 : Nat) : Int)) = (d : Int) + 1 from by omega]
  go_enter Tryz.func14, Tryz.ntmps14
  go_wp2
  go_loopg [5, 6] 3 (fun gk ov iv wr => Aside0 (FewI d l w gk ov iv wr))
  case atStart => exact HST
  case round =>
    obtain ⟨i, rfl, hil, hi4, hgk, hown, hb⟩ := hrel.out
    have hxl : ((l.take i).map (fewQ d)).length = i := by rw [List.length_map, List.length_take]; omega
    obtain ⟨xs, hxs⟩ : ∃ xs, xs = (l.take i).map (fewQ d) := ⟨_, rfl⟩
    rw [← hxs] at hown hxl
    have HXS := Aside0.mk hxs
    clear hxs
    obtain ⟨A0, c0, rfl, hcap⟩ := hown.slice
    have HXL := Aside0.mk hxl
    clear hrel HST hxl
    have hi0 : (0 : Int) ≤ (i : Int) := by omega
    by_cases hlt : i < l.length ∧ i < 3
    · obtain ⟨hlt1, hlt2⟩ := hlt
      have hlt1' : (i : Int) < (l.length : Int) := by omega
      have hlt2' : (i : Int) < 3 := by omega
      obtain ⟨x, hxi⟩ : ∃ x, l[i]? = some x := ⟨_, List.getElem?_eq_getElem hlt1⟩
      obtain ⟨n, hn⟩ := HL.out.below hb
      obtain ⟨m, ad, c', u, u', rfl, he, hok, hp, ha, x0, x1, x2, x3⟩ := hn.getP hxi
      simp only [Value.slice.injEq, true_and] at he
      obtain ⟨rfl, rfl⟩ := he
      obtain ⟨A1, c1, rfl, hc3, hc4⟩ := hp.slice
      obtain ⟨B1, d1, rfl, hd3, hd4⟩ := ha.slice
      have HP := Aside0.mk (show StepsR _ wr (.slice A1 x.path.length c1) x.path from ⟨m, hp⟩)
      have HA := Aside0.mk (show PredsR _ wr (.slice B1 x.args.length d1) x.args from ⟨m, ha⟩)
      have HOW := Aside0.mk hown
      have HB := Aside0.mk hb
      have HXI := Aside0.mk hxi
      clear hown hb hxi hn hp ha
      go_wp2_with fail
      have hcall := HIHS.out _ (wr.alloc (.cells #[.int .i64 x.kind, .int .i64 x.n, .slice A1 x.path.length c1, .slice B1 x.args.length d1] 41)) _ _ (HP.out.below (below_alloc (Below.refl _ _) _))
      have hn0 : (wr.alloc (.cells #[.int .i64 x.kind, .int .i64 x.n, .slice A1 x.path.length c1, .slice B1 x.args.length d1] 41)).heap[wr.heap.size]? = some (.cells #[.int .i64 x.kind, .int .i64 x.n, .slice A1 x.path.length c1, .slice B1 x.args.length d1] 41 (0, 0)) := blk_new _ _
      have hbA : Below wr.heap.size wr (wr.alloc (.cells #[.int .i64 x.kind, .int .i64 x.n, .slice A1 x.path.length c1, .slice B1 x.args.length d1] 41)) := below_alloc (Below.refl _ _) _
      have hsA : (wr.alloc (.cells #[.int .i64 x.kind, .int .i64 x.n, .slice A1 x.path.length c1, .slice B1 x.args.length d1] 41)).heap.size = wr.heap.size + 1 := by simp
      generalize wr.alloc (.cells #[.int .i64 x.kind, .int .i64 x.n, .slice A1 x.path.length c1, .slice B1 x.args.length d1] 41) = W0 at hcall hn0 hbA hsA ⊢
      go_at_call 7
      refine hcall.mono ?_
      rintro e w1 ⟨v2, rfl, hp2, hb1⟩
      obtain ⟨_, hp2'⟩ := hp2
      obtain ⟨A2, c2, rfl, hc5, hc6⟩ := hp2'.slice
      have hn1 := blk_below hn0 hb1
      have f2 := blk_frozen hn1 2
      have e2 : w1.cell? ⟨wr.heap.size, 2, none⟩ = some (.slice A1 x.path.length c1) := (blk_cell hn1 2).trans rfl
      have hn2 := blk_put hn1 2 (.slice A2 (smallL d x.path).length c2) rfl
      have hbV : Below wr.heap.size wr (w1.setCell ⟨wr.heap.size, 2, none⟩ (.slice A2 (smallL d x.path).length c2)) := below_of_gb (gb_setNew (grown_of_below (below_step hbA hb1) none) (Nat.le_refl _))
      have hpV : StepsR (fun k => wr.heap.size + 1 ≤ k) (w1.setCell ⟨wr.heap.size, 2, none⟩ (.slice A2 (smallL d x.path).length c2)) (.slice A2 (smallL d x.path).length c2) (smallL d x.path) :=
        StepsR.imp_ (show StepsR _ w1 _ _ from ⟨_, hp2'⟩) (fun k hk => Below.heap_setCell _ _ _ _ (show k ≠ wr.heap.size by omega)) (fun k hk => by omega)
      generalize hV : w1.setCell ⟨wr.heap.size, 2, none⟩ (.slice A2 (smallL d x.path).length c2) = V at hn2 hbV hpV
      have z3 : V.cell? ⟨wr.heap.size, 3, none⟩ = some (.slice B1 x.args.length d1) := (blk_cell hn2 3).trans rfl
      have hcall2 := HIH.out _ V _ _ (HA.out.below hbV)
      clear hn0 hn1 hbA hb1 hp2' hcall x0 x1 x2 x3
      go_wp2_with fail
      go_at_call 14
      refine hcall2.mono ?_
      rintro e w2 ⟨v3, rfl, hp3, hb2⟩
      obtain ⟨_, hp3'⟩ := hp3
      obtain ⟨B2, d2, rfl, hd5, hd6⟩ := hp3'.slice
      have hn3 := blk_below hn2 hb2
      have f3 := blk_frozen hn3 3
      have e3 : w2.cell? ⟨wr.heap.size, 3, none⟩ = some (.slice B1 x.args.length d1) := (blk_cell hn3 3).trans rfl
      have hn4 := blk_put hn3 3 (.slice B2 (fewP d x.args).length d2) rfl
      have hvs := hbV.size
      have hbW : Below wr.heap.size wr (w2.setCell ⟨wr.heap.size, 3, none⟩ (.slice B2 (fewP d x.args).length d2)) := below_of_gb (gb_setNew (grown_of_below (below_step hbV hb2) none) (Nat.le_refl _))
      have hVs : wr.heap.size < V.heap.size := blk_lt hn2
      have hpW : StepsR (fun k => wr.heap.size ≤ k) (w2.setCell ⟨wr.heap.size, 3, none⟩ (.slice B2 (fewP d x.args).length d2)) (.slice A2 (smallL d x.path).length c2) (smallL d x.path) :=
        StepsR.imp_ (hpV.below hb2) (fun k hk => Below.heap_setCell _ _ _ _ (show k ≠ wr.heap.size by have := hk.1; omega)) (fun k hk => by have := hk.1; omega)
      have haW : PredsR (fun k => wr.heap.size ≤ k) (w2.setCell ⟨wr.heap.size, 3, none⟩ (.slice B2 (fewP d x.args).length d2)) (.slice B2 (fewP d x.args).length d2) (fewP d x.args) :=
        PredsR.imp_ (show PredsR _ w2 _ _ from ⟨_, hp3'⟩) (fun k hk => Below.heap_setCell _ _ _ _ (show k ≠ wr.heap.size by omega)) (fun k hk => by omega)
      generalize hW : w2.setCell ⟨wr.heap.size, 3, none⟩ (.slice B2 (fewP d x.args).length d2) = W at hn4 hbW hpW haW
      have y0 : W.cell? ⟨wr.heap.size, 0, none⟩ = some (.int .i64 x.kind) := (blk_cell hn4 0).trans rfl
      have y1 : W.cell? ⟨wr.heap.size, 1, none⟩ = some (.int .i64 x.n) := (blk_cell hn4 1).trans rfl
      have y2 : W.cell? ⟨wr.heap.size, 2, none⟩ = some (.slice A2 (smallL d x.path).length c2) := (blk_cell hn4 2).trans rfl
      have y3 : W.cell? ⟨wr.heap.size, 3, none⟩ = some (.slice B2 (fewP d x.args).length d2) := (blk_cell hn4 3).trans rfl
      have hbs := HB.out.size
      have hws := hbW.size
      obtain ⟨inr, how, hmore⟩ := row_more2 movP HOW.out hbW hbs (Below.refl _ W) (y := fewQ d x) (PredR.mk_ (x := fewQ d x) hpW haW)
      have HOWN := Aside0.mk how
      have HMORE := Aside0.mk hmore
      have HPW := Aside0.mk hpW
      have HAW := Aside0.mk haW
      have HBW := Aside0.mk hbW
      have HLEN2 : Aside0 ((xs.length + 1) * 64 ≤ 140737488355328) := ⟨by have := HXL.out; omega⟩
      have HBASE : Aside0 (w.heap.size ≤ W.heap.size) := ⟨by omega⟩
      clear how hmore hpW haW hbW hbV hpV hn2 hn3 hn4 hb2 hp3' hcall2 hbs hws hvs hVs hsA z3 e2 f2
      go_wp2_with (at_builtin; refine print_append_cells (w0 := W) w.heap.size rfl (.tmp 38) (.tmp 40) 37 41 (.agg #[.int .i64 0, .int .i64 0, .slice none 0 0, .slice none 0 0]) 4 64 rfl Tryz.underlying37 infoP rfl (by decide) (by decide) (.slice A0 xs.length c0) xs.length inr [.int .i64 x.kind, .int .i64 x.n, .slice A2 (smallL d x.path).length c2, .slice B2 (fewP d x.args).length d2] rfl rfl rfl ?c1 HOWN.out (Below.refl _ _) HBASE.out HLEN2.out ?_; (case c1 => exact (movP.len (PredR.mk_ (x := fewQ d x) HPW.out HAW.out)).2); intro v1 w3 ho hbel hg hat; have HO2 := Aside0.mk (HMORE.out v1 w3 ho hg hat); have HG3 := Aside0.mk hg; clear ho hbel hg hat)
      have hobase : ∀ k', (Value.slice A0 xs.length c0).ownBlock = some k' → w.heap.size ≤ k' := fun k' hk => own_base HOWN.out k' hk
      have HB2 : Aside0 (Below w.heap.size w w3) := ⟨below_of_gb (gb_trans (gb_below (grown_of_below HB.out none) HBW.out) HG3.out (.inr hobase))⟩
      clear hobase HG3 y0 y1 y2 y3
      go_roundg (3 - (i + 1))
      case measure => omega
      case rel =>
        refine ⟨i + 1, by go_num, by omega, by omega, by omega, ?_, HB2.out⟩
        have := HO2.out
        rw [HXS.out] at this
        rw [List.take_add_one, HXI.out, List.map_append]
        exact this
    · have HE : Aside0 (fewP (d + 1) l = xs) := ⟨by
        rw [HXS.out, fewP_succ]
        rcases Nat.lt_or_ge i l.length with h | h
        · rw [show i = 3 by omega]
        · rw [List.take_of_length_le (by omega), List.take_of_length_le (by omega)]⟩
      have HOW := Aside0.mk hown
      have HB := Aside0.mk hb
      clear hown hb
      by_cases hli : i < l.length
      · have h1 : (i : Int) < (l.length : Int) := by omega
        have h2 : ¬ (i : Int) < 3 := by omega
        go_wp2
        go_ret
        exact ⟨_, rfl, HE.out ▸ HOW.out.preds, HB.out⟩
      · have h1 : ¬ (i : Int) < (l.length : Int) := by omega
        go_wp2
        go_ret
        exact ⟨_, rfl, HE.out ▸ HOW.out.preds, HB.out⟩
theorem small_few (d : Nat) (hd : d ≤ 1000) : SmallC d ∧ FewC d := by
  induction d with
  | zero => exact ⟨small_step 0 hd few_zero, few_zero⟩
  | succ d ih =>
    obtain ⟨h1, h2⟩ := ih (by omega)
    have h3 := few_step d (by omega) h1 h2
    exact ⟨small_step (d + 1) hd h3, h3⟩
end Go.Proofs.YtoanmoddppmffaaGreatDoor.T
