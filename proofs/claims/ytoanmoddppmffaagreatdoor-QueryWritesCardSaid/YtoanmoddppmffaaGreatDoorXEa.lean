/- small, fewPreds: steps cut to a few. -/
import Derived.Test.YtoanmoddppmffaaGreatDoorXRa
import Derived.Test.YtoanmoddppmffaaGreatDoorXRh
namespace Go.Proofs.YtoanmoddppmffaaGreatDoor.T
open Go.RowKit Go.Shelf Go.Proofs.YtoanmoddppmffaaGreatDoorW.PrintWords
set_option linter.unusedVariables false
set_option linter.unusedSimpArgs false
def fewP : Nat → List Pred → List Pred
  | 0, _ => []
  | d + 1, l => (l.take 3).map fun p => ⟨p.kind, p.n, (p.path.take 4).map fun s => ⟨s.deep, s.axis, shortB s.name 12, fewP d s.preds⟩, fewP d p.args⟩
def smallS (d : Nat) (s : Step) : Step := ⟨s.deep, s.axis, shortB s.name 12, fewP d s.preds⟩
def smallL (d : Nat) (l : List Step) : List Step := (l.take 4).map (smallS d)
def fewQ (d : Nat) (p : Pred) : Pred := ⟨p.kind, p.n, smallL d p.path, fewP d p.args⟩
theorem fewP_succ (d : Nat) (l : List Pred) : fewP (d + 1) l = (l.take 3).map (fewQ d) := rfl
def SmallC (d : Nat) : Prop := ∀ (ok : Nat → Prop) (w : World) (v : Value) (l : List Step), StepsR ok w v l → Calls Tryz.prog 7 #[v, .int .i64 d] w fun e w' => ∃ v', e = .returned v' ∧ StepsR (fun k => w.heap.size ≤ k) w' v' (smallL d l) ∧ Below w.heap.size w w'
def FewC (d : Nat) : Prop := ∀ (ok : Nat → Prop) (w : World) (v : Value) (l : List Pred), PredsR ok w v l → Calls Tryz.prog 14 #[v, .int .i64 d] w fun e w' => ∃ v', e = .returned v' ∧ PredsR (fun k => w.heap.size ≤ k) w' v' (fewP d l) ∧ Below w.heap.size w w'
theorem PredsR.below {ok : Nat → Prop} {w w' : World} {v : Value} {xs : List Pred} (h : PredsR ok w v xs) (hb : Below w.heap.size w w') : PredsR (fun k => ok k ∧ k < w.heap.size) w' v xs :=
  h.bound.imp_ (fun k hk => hb.block k hk.2) (fun k hk => hk)
def SmallI (d : Nat) (l : List Step) (w : World) (gk : Nat) (ov iv : Value) (wr : World) : Prop :=
  ∃ i : Nat, iv = .int .i64 i ∧ i ≤ l.length ∧ i ≤ 4 ∧ 4 - i ≤ gk ∧ OwnR StepR 39 w.heap.size wr ov ((l.take i).map (smallS d)) ∧ Below w.heap.size w wr
set_option maxHeartbeats 4000000 in
set_option maxRecDepth 100000 in
theorem small_step (d : Nat) (hd : d ≤ 1000) (IH : FewC d) : SmallC d := by
  intro ok w v l hl
  obtain ⟨n0, hl'⟩ := hl
  obtain ⟨A, c, rfl, hc1, hc2⟩ := hl'.slice
  have HL := Aside0.mk (show StepsR ok w (.slice A l.length c) l from ⟨n0, hl'⟩)
  have HIH := Aside0.mk IH
  have hm : (l.length : Int) ≤ 9223372036854775807 := by unfold maxLen at hc2; omega
  have hd0 : (0 : Int) ≤ (d : Int) := by omega
  have hst : SmallI d l w 4 (.slice none 0 0) (.int .i64 ((0 : Nat) : Int)) w := ⟨0, rfl, by omega, by omega, by omega, OwnR.nil _ _ _ _, Below.refl _ _⟩
  have HST := Aside0.mk hst
  clear hl' IH hst
  go_enter Tryz.func7, Tryz.ntmps7
  go_wp2
  go_loopg [5, 6] 4 (fun gk ov iv wr => Aside0 (SmallI d l w gk ov iv wr))
  case atStart => exact HST
  case round =>
    obtain ⟨i, rfl, hil, hi4, hgk, hown, hb⟩ := hrel.out
    have hxl : ((l.take i).map (smallS d)).length = i := by rw [List.length_map, List.length_take]; omega
    obtain ⟨xs, hxs⟩ : ∃ xs, xs = (l.take i).map (smallS d) := ⟨_, rfl⟩
    rw [← hxs] at hown hxl
    have HXS := Aside0.mk hxs
    clear hxs
    obtain ⟨A0, c0, rfl, hcap⟩ := hown.slice
    have HXL := Aside0.mk hxl
    clear hrel HST hxl
    have hi0 : (0 : Int) ≤ (i : Int) := by omega
    by_cases hlt : i < l.length ∧ i < 4
    · obtain ⟨hlt1, hlt2⟩ := hlt
      have hlt1' : (i : Int) < (l.length : Int) := by omega
      have hlt2' : (i : Int) < 4 := by omega
      obtain ⟨x, hxi⟩ : ∃ x, l[i]? = some x := ⟨_, List.getElem?_eq_getElem hlt1⟩
      obtain ⟨n, hn⟩ := HL.out.below hb
      obtain ⟨m, ad, c', u, rfl, he, hok, hp, x0, x1, x2, x3⟩ := hn.getS hxi
      simp only [Value.slice.injEq, true_and] at he
      obtain ⟨rfl, rfl⟩ := he
      obtain ⟨A1, c1, rfl, hc3, hc4⟩ := hp.slice
      have hsh : ∀ w', Calls Tryz.prog 13 #[.string x.name, .int .i64 12] w' fun e w'' => e = .returned (.string (shortB x.name 12)) ∧ w' = w'' := fun w' => short_any x.name 12 w' (by decide)
      have HP := Aside0.mk (show PredsR _ wr (.slice A1 x.preds.length c1) x.preds from ⟨m, hp⟩)
      have HOW := Aside0.mk hown
      have HB := Aside0.mk hb
      have HXI := Aside0.mk hxi
      clear hown hb hxi hn hp
      go_wp2_with (go_at_call 13; refine (hsh _).mono ?_; rintro e w' ⟨rfl, rfl⟩)
      have hcall := HIH.out _ (wr.alloc (.cells #[.bool x.deep, .int .i64 x.axis, .string (shortB x.name 12), .slice A1 x.preds.length c1] 39)) _ _ (HP.out.below (below_alloc (Below.refl _ _) _))
      have hn0 : (wr.alloc (.cells #[.bool x.deep, .int .i64 x.axis, .string (shortB x.name 12), .slice A1 x.preds.length c1] 39)).heap[wr.heap.size]? = some (.cells #[.bool x.deep, .int .i64 x.axis, .string (shortB x.name 12), .slice A1 x.preds.length c1] 39 (0, 0)) := blk_new _ _
      have hbA : Below wr.heap.size wr (wr.alloc (.cells #[.bool x.deep, .int .i64 x.axis, .string (shortB x.name 12), .slice A1 x.preds.length c1] 39)) := below_alloc (Below.refl _ _) _
      have hsA : (wr.alloc (.cells #[.bool x.deep, .int .i64 x.axis, .string (shortB x.name 12), .slice A1 x.preds.length c1] 39)).heap.size = wr.heap.size + 1 := by simp
      generalize wr.alloc (.cells #[.bool x.deep, .int .i64 x.axis, .string (shortB x.name 12), .slice A1 x.preds.length c1] 39) = W0 at hcall hn0 hbA hsA ⊢
      go_at_call 14
      refine hcall.mono ?_
      rintro e w1 ⟨v2, rfl, hp2, hb1⟩
      obtain ⟨_, hp2'⟩ := hp2
      obtain ⟨A2, c2, rfl, hc5, hc6⟩ := hp2'.slice
      have hn1 := blk_below hn0 hb1
      have f3 := blk_frozen hn1 3
      have e3 : w1.cell? ⟨wr.heap.size, 3, none⟩ = some (.slice A1 x.preds.length c1) := (blk_cell hn1 3).trans rfl
      have hn2 := blk_put hn1 3 (.slice A2 (fewP d x.preds).length c2) rfl
      have hbW : Below wr.heap.size wr (w1.setCell ⟨wr.heap.size, 3, none⟩ (.slice A2 (fewP d x.preds).length c2)) := below_of_gb (gb_setNew (grown_of_below (below_step hbA hb1) none) (Nat.le_refl _))
      have hpW : PredsR (fun k => wr.heap.size ≤ k) (w1.setCell ⟨wr.heap.size, 3, none⟩ (.slice A2 (fewP d x.preds).length c2)) (.slice A2 (fewP d x.preds).length c2) (fewP d x.preds) :=
        PredsR.imp_ (show PredsR _ w1 _ _ from ⟨_, hp2'⟩) (fun k hk => Below.heap_setCell _ _ _ _ (show k ≠ wr.heap.size by omega)) (fun k hk => by omega)
      generalize hW : w1.setCell ⟨wr.heap.size, 3, none⟩ (.slice A2 (fewP d x.preds).length c2) = W at hn2 hbW hpW
      have y0 : W.cell? ⟨wr.heap.size, 0, none⟩ = some (.bool x.deep) := (blk_cell hn2 0).trans rfl
      have y1 : W.cell? ⟨wr.heap.size, 1, none⟩ = some (.int .i64 x.axis) := (blk_cell hn2 1).trans rfl
      have y2 : W.cell? ⟨wr.heap.size, 2, none⟩ = some (.string (shortB x.name 12)) := (blk_cell hn2 2).trans rfl
      have y3 : W.cell? ⟨wr.heap.size, 3, none⟩ = some (.slice A2 (fewP d x.preds).length c2) := (blk_cell hn2 3).trans rfl
      have hbs := HB.out.size
      have hws := hbW.size
      obtain ⟨inr, how, hmore⟩ := row_more2 movS HOW.out hbW hbs (Below.refl _ W) (y := smallS d x) (StepR.mk_ (x := smallS d x) hpW)
      have HOWN := Aside0.mk how
      have HMORE := Aside0.mk hmore
      have HPW := Aside0.mk hpW
      have HBW := Aside0.mk hbW
      have HLEN2 : Aside0 ((xs.length + 1) * 56 ≤ 140737488355328) := ⟨by have := HXL.out; omega⟩
      have HBASE : Aside0 (w.heap.size ≤ W.heap.size) := ⟨by omega⟩
      clear how hmore hpW hbW hn0 hn1 hn2 hbA hsA hb1 hp2' hcall hbs hws hsh x0 x1 x2 x3
      go_wp2_with (at_builtin; refine print_append_cells (w0 := W) w.heap.size rfl (.tmp 31) (.tmp 33) 22 39 (.agg #[.bool false, .int .i64 0, .string ⟨#[]⟩, .slice none 0 0]) 4 56 rfl Tryz.underlying22 infoS rfl (by decide) (by decide) (.slice A0 xs.length c0) xs.length inr [.bool x.deep, .int .i64 x.axis, .string (shortB x.name 12), .slice A2 (fewP d x.preds).length c2] rfl rfl rfl ?c1 HOWN.out (Below.refl _ _) HBASE.out HLEN2.out ?_; (case c1 => exact (movS.len (StepR.mk_ (x := smallS d x) HPW.out)).2); intro v1 w2 ho hbel hg hat; have HO2 := Aside0.mk (HMORE.out v1 w2 ho hg hat); have HG3 := Aside0.mk hg; clear ho hbel hg hat)
      have hobase : ∀ k', (Value.slice A0 xs.length c0).ownBlock = some k' → w.heap.size ≤ k' := fun k' hk => own_base HOWN.out k' hk
      have HB2 : Aside0 (Below w.heap.size w w2) := ⟨below_of_gb (gb_trans (gb_below (grown_of_below HB.out none) HBW.out) HG3.out (.inr hobase))⟩
      clear hobase HG3 y0 y1 y2 y3
      go_roundg (4 - (i + 1))
      case measure => omega
      case rel =>
        refine ⟨i + 1, by go_num, by omega, by omega, by omega, ?_, HB2.out⟩
        have := HO2.out
        rw [HXS.out] at this
        rw [List.take_add_one, HXI.out, List.map_append]
        exact this
    · have hno : decide ((i : Int) < (l.length : Int)) = false ∨ decide ((i : Int) < 4) = false := by
        rcases Nat.lt_or_ge i l.length with h | h
        · right; exact decide_eq_false (by omega)
        · left; exact decide_eq_false (by omega)
      have HE : Aside0 (smallL d l = xs) := ⟨by
        rw [HXS.out, smallL]
        rcases Nat.lt_or_ge i l.length with h | h
        · rw [show i = 4 by omega]
        · rw [List.take_of_length_le (by omega), List.take_of_length_le (by omega)]⟩
      have HOW := Aside0.mk hown
      have HB := Aside0.mk hb
      clear hown hb
      by_cases hli : i < l.length
      · have h1 : (i : Int) < (l.length : Int) := by omega
        have h2 : ¬ (i : Int) < 4 := by omega
        clear hno
        go_wp2
        go_ret
        exact ⟨_, rfl, HE.out ▸ HOW.out.steps, HB.out⟩
      · have h1 : ¬ (i : Int) < (l.length : Int) := by omega
        clear hno
        go_wp2
        go_ret
        exact ⟨_, rfl, HE.out ▸ HOW.out.steps, HB.out⟩
end Go.Proofs.YtoanmoddppmffaaGreatDoor.T
