/- term. -/
import Derived.Test.YtoanmoddppmffaaGreatDoorXQi
namespace Go.Proofs.YtoanmoddppmffaaGreatDoor.T
open Go.RowKit Go.Shelf Go.Proofs.YtoanmoddppmffaaGreatDoorW.PrintWords
set_option linter.unusedVariables false
set_option linter.unusedSimpArgs false
def StepsPost (b : Bool) (g : Nat) (i : Int) (o : Option (List Step × List Tok)) (w : World) (e : Ending) (w' : World) : Prop :=
  ∃ (xs : List Step) (A : Option Addr) (c : Nat), e = .returned (.slice A xs.length c) ∧ StepsR (fun k => w.heap.size ≤ k) w' (.slice A xs.length c) xs ∧ w.grownBy w' (some g) ∧ Ends b g i o xs w'
def PathC (b : Bool) (g m : Nat) : Prop :=
  ∀ (i : Int) (deep : Bool) (ts : List Tok) (o : Option (List Step × List Tok)) (w : World), 0 ≤ i → i + (m : Int) ≤ 100000 → Vr w → StT b w g i ts → pathG b m i deep ts = some o → Calls Tryz.prog 20 #[.pointer (some ⟨g, 0, none⟩), .bool deep] w (StepsPost b g i o w)
def PathW (b : Bool) (g : Nat) : Prop := ∀ (i : Int) (deep : Bool) (w : World), StW w g i → Calls Tryz.prog 20 #[.pointer (some ⟨g, 0, none⟩), .bool deep] w (StepsPost b g i none w)
theorem within_of {b : Bool} {k : Nat} {i : Int} {o0 : Option (List Tok)} {f : Pred → Pred} {o : Option (Pred × List Tok)}
    (h : (Opt o0 fun t1 => Opt (need b tLp t1) fun t2 => (choiceG b k i t2).then_ fun p t3 => Opt (need b tRp t3) fun t4 => some (some (f p, t4))) = some o) :
    ∃ o', WithinR b tLp tRp (choiceG b) k i o0 o' ∧ o = o'.map fun r => (f r.1, r.2) := by
  rcases Opt_some h with ⟨rfl, rfl⟩ | ⟨t1, rfl, ha⟩
  · exact ⟨none, .inl ⟨rfl, rfl⟩, rfl⟩
  · rcases Opt_some ha with ⟨h1, rfl⟩ | ⟨t2, h1, hb⟩
    · exact ⟨none, .inl ⟨h1, rfl⟩, rfl⟩
    · rcases then_some hb with ⟨h2, rfl⟩ | ⟨p, t3, h2, hc⟩
      · exact ⟨none, .inr ⟨t2, h1, .inl ⟨h2, rfl⟩⟩, rfl⟩
      · refine ⟨(need b tRp t3).map fun r => (p, r), .inr ⟨t2, h1, .inr ⟨p, t3, h2, rfl⟩⟩, ?_⟩
        rcases Opt_some hc with ⟨h3, rfl⟩ | ⟨t4, h3, h4⟩
        · rw [h3]; rfl
        · rw [h3]; exact (Option.some.inj h4).symm
set_option maxHeartbeats 1000000 in
set_option maxRecDepth 100000 in
theorem term_not (b : Bool) (g k : Nat) (hg : 4 < g) (IH : PartC 74 (choiceG b) b g k) (i : Int) (ts : List Tok) (o' : Option (Pred × List Tok)) (w : World) (h0 : 0 ≤ i) (hi : i + (k : Int) ≤ 100000) (hV : Vr w) (h : StT b w g i ts)
    (hc : isCalled tNot ts = true) (hr : WithinR b tLp tRp (choiceG b) k i (adv b ts) o') :
    Calls Tryz.prog 93 #[.pointer (some ⟨g, 0, none⟩)] w (PredPost b g i (o'.map fun r => (⟨5, 0, [], [r.1]⟩, r.2)) w) := by
  have hlt : g < w.heap.size := by obtain ⟨_, _, ho, _⟩ := h; exact blk_lt ho
  have hb : Below w.heap.size w (w.alloc (.cells #[.int .i64 0, .int .i64 0, .slice none 0 0, .slice none 0 0] 41)) := below_alloc (Below.refl _ _) _
  have hcall := called_any b g i tNot ts _ (h.below hb) (by decide)
  rw [hc] at hcall
  have hcall' : Calls Tryz.prog 59 #[.pointer (some ⟨g, 0, none⟩), .string ⟨#[110, 111, 116]⟩] (w.alloc (.cells #[.int .i64 0, .int .i64 0, .slice none 0 0, .slice none 0 0] 41)) _ := hcall
  obtain ⟨ts', rfl⟩ : ∃ ts', ts = tNot :: ts' := by
    unfold isCalled at hc
    have := (of_decide_eq_true hc).1
    cases ts with
    | nil => simp at this
    | cons a l => simp at this; exact ⟨l, by rw [this]⟩
  have HV := Aside0.mk hV
  have HH := Aside0.mk (h.below hb)
  have HLT := Aside0.mk hlt
  have HR := Aside0.mk hr
  have HIH := Aside0.mk IH
  clear hcall hV h hb hlt hr hc IH
  go_enter Tryz.func93, Tryz.ntmps93
  go_wp2_with fail
  go_at_call 59
  refine hcall'.mono ?_
  rintro e w1 ⟨rfl, hb1⟩
  have HN1 := Aside0.mk (next_st b g i tNot ts' w1 (HH.out.below hb1))
  have HB1 := Aside0.mk hb1
  clear hb1 hcall'
  go_wp2_with fail
  go_at_call 19
  refine HN1.out.mono ?_
  rintro e w2 ⟨⟨v2, rfl⟩, hg2, hs2⟩
  have hV2 : Vr w2 := ((HV.out.move (World.grownBy_alloc _ _ none) (fun _ e => by cases e)).move (grown_of_below HB1.out none) (fun _ e => by cases e)).move hg2 (fun k e => by injection e; omega)
  have hw := within_any 74 tLp tRp (choiceG b) b g k cf_choice hg HIH.out i (adv b (tNot :: ts')) o' w2 h0 hi hV2 hs2 HR.out
  have hw' : Calls Tryz.prog 62 #[.pointer (some ⟨g, 0, none⟩), .string ⟨#[40]⟩, .string ⟨#[41]⟩, .func (.func 74) #[.pointer (some ⟨g, 0, none⟩)] #[]] w2 (PredPost b g i o' w2) := hw
  have HG2 := Aside0.mk (show w.grownBy w2 (some g) from gb_then (gb_below (World.grownBy_alloc _ _ _) HB1.out) hg2)
  have HR2 := Aside0.mk (blk_grown (blk_below (blk_new w _) HB1.out) hg2 (fun e => by injection e; have := HLT.out; omega))
  clear hg2 hs2 hV2 hw HN1
  go_wp2_with fail
  go_at_call 62
  refine hw'.mono ?_
  rintro e w3 ⟨x, A, c, B, d, rfl, hx⟩
  have hr3 := blk_grown HR2.out hx.2.2.1 (fun e => by injection e; have := HLT.out; omega)
  have HX := Aside0.mk hx
  generalize hw4 : w3.alloc (.cells #[.int .i64 x.kind, .int .i64 x.n, .slice A x.path.length c, .slice B x.args.length d] 41) = w4
  have hb4 : Below w3.heap.size w3 w4 := by rw [← hw4]; exact below_alloc (Below.refl _ _) _
  have hn4 : w4.heap[w3.heap.size]? = some (.cells #[.int .i64 x.kind, .int .i64 x.n, .slice A x.path.length c, .slice B x.args.length d] 41 (0, 0)) := by rw [← hw4]; exact blk_new _ _
  have hr4 := blk_below hr3 hb4
  have e0 : w4.cell? ⟨w.heap.size, 0, none⟩ = some (.int .i64 0) := (blk_cell hr4 0).trans rfl
  have e1 : w4.cell? ⟨w.heap.size, 1, none⟩ = some (.int .i64 0) := (blk_cell hr4 1).trans rfl
  have e2 : w4.cell? ⟨w.heap.size, 2, none⟩ = some (.slice none 0 0) := (blk_cell hr4 2).trans rfl
  have e3 : w4.cell? ⟨w.heap.size, 3, none⟩ = some (.slice none 0 0) := (blk_cell hr4 3).trans rfl
  have f0 := blk_frozen hr4 0
  have f1 := blk_frozen hr4 1
  have f2 := blk_frozen hr4 2
  have f3 := blk_frozen hr4 3
  have HR4 := Aside0.mk hr4
  have HB4 := Aside0.mk hb4
  have HN4 := Aside0.mk hn4
  clear hr3 hx hb4 hn4 hr4 hw'
  go_wp2
  obtain ⟨a1, a2, a3, a4⟩ := HX.out
  have hz3 := a3.size
  have hz2 := HG2.out.size
  have hlt2 := blk_lt HR2.out
  have hargs : PredsR (fun k => w.heap.size < k) w4 (.slice (some ⟨w3.heap.size, 0, none⟩) 1 1) [x] := by
    refine preds_one HN4.out (by omega) ?_ ?_
    · exact a1.bound.imp_ (fun k hk => HB4.out.block k hk.2) (fun k hk => by omega)
    · exact a2.bound.imp_ (fun k hk => HB4.out.block k hk.2) (fun k hk => by omega)
  have hgb : w.grownBy w4 (some g) := gb_below (gb_then HG2.out a3) HB4.out
  have hend : Ends b g i (o'.map fun r => ((⟨5, 0, [], [r.1]⟩ : Pred), r.2)) (⟨5, 0, [], [x]⟩ : Pred) w4 := by
    have a5 := a4.move (HB4.out.block g (by have := HLT.out; omega))
    cases o' with
    | none => exact a5
    | some r => obtain ⟨rfl, a6⟩ := a5; exact ⟨rfl, a6⟩
  have hw9 := put4_at HR4.out (.int .i64 (⟨5, 0, [], [x]⟩ : Pred).kind) (.int .i64 (⟨5, 0, [], [x]⟩ : Pred).n) (.slice none (⟨5, 0, [], [x]⟩ : Pred).path.length 0) (.slice (some ⟨w3.heap.size, 0, none⟩) (⟨5, 0, [], [x]⟩ : Pred).args.length 1)
  have hgot := pred_done HLT.out (StepsR.nil _ _) hargs hgb hend
  change bodyPost _ _ _ _ _ (put4 w4 w.heap.size (.int .i64 (⟨5, 0, [], [x]⟩ : Pred).kind) (.int .i64 (⟨5, 0, [], [x]⟩ : Pred).n) (.slice none (⟨5, 0, [], [x]⟩ : Pred).path.length 0) (.slice (some ⟨w3.heap.size, 0, none⟩) (⟨5, 0, [], [x]⟩ : Pred).args.length 1))
  generalize put4 w4 w.heap.size (.int .i64 (⟨5, 0, [], [x]⟩ : Pred).kind) (.int .i64 (⟨5, 0, [], [x]⟩ : Pred).n) (.slice none (⟨5, 0, [], [x]⟩ : Pred).path.length 0) (.slice (some ⟨w3.heap.size, 0, none⟩) (⟨5, 0, [], [x]⟩ : Pred).args.length 1) = w9 at hw9 hgot ⊢
  have q0 : w9.cell? ⟨w.heap.size, 0, none⟩ = some (.int .i64 (⟨5, 0, [], [x]⟩ : Pred).kind) := (blk_cell hw9 0).trans rfl
  have q1 : w9.cell? ⟨w.heap.size, 1, none⟩ = some (.int .i64 (⟨5, 0, [], [x]⟩ : Pred).n) := (blk_cell hw9 1).trans rfl
  have q2 : w9.cell? ⟨w.heap.size, 2, none⟩ = some (.slice none (⟨5, 0, [], [x]⟩ : Pred).path.length 0) := (blk_cell hw9 2).trans rfl
  have q3 : w9.cell? ⟨w.heap.size, 3, none⟩ = some (.slice (some ⟨w3.heap.size, 0, none⟩) (⟨5, 0, [], [x]⟩ : Pred).args.length 1) := (blk_cell hw9 3).trans rfl
  refine bodyPost_ret (v := .agg #[.int .i64 (⟨5, 0, [], [x]⟩ : Pred).kind, .int .i64 (⟨5, 0, [], [x]⟩ : Pred).n, .slice none (⟨5, 0, [], [x]⟩ : Pred).path.length 0, .slice (some ⟨w3.heap.size, 0, none⟩) (⟨5, 0, [], [x]⟩ : Pred).args.length 1]) (by simp [results, Tryz.results93, go_sem, q0, q1, q2, q3]) rfl ?_
  exact ⟨(⟨5, 0, [], [x]⟩ : Pred), none, 0, (some ⟨w3.heap.size, 0, none⟩), 1, rfl, hgot⟩
set_option maxHeartbeats 1000000 in
set_option maxRecDepth 100000 in
theorem term_lp (b : Bool) (g k : Nat) (hg : 4 < g) (IH : PartC 74 (choiceG b) b g k) (i : Int) (ts' : List Tok) (o' : Option (Pred × List Tok)) (w : World) (h0 : 0 ≤ i) (hi : i + (k : Int) ≤ 100000) (hV : Vr w) (h : StT b w g i (tLp :: ts'))
    (hr : WithinR b tLp tRp (choiceG b) k i (some (tLp :: ts')) o') :
    Calls Tryz.prog 93 #[.pointer (some ⟨g, 0, none⟩)] w (PredPost b g i o' w) := by
  have hlt : g < w.heap.size := by obtain ⟨_, _, ho, _⟩ := h; exact blk_lt ho
  have hb : Below w.heap.size w (w.alloc (.cells #[.int .i64 0, .int .i64 0, .slice none 0 0, .slice none 0 0] 41)) := below_alloc (Below.refl _ _) _
  have hcall := called_any b g i tNot (tLp :: ts') _ (h.below hb) (by decide)
  have hc : isCalled tNot (tLp :: ts') = false := by simp [isCalled, tNot, tLp]
  rw [hc] at hcall
  have hcall' : Calls Tryz.prog 59 #[.pointer (some ⟨g, 0, none⟩), .string ⟨#[110, 111, 116]⟩] (w.alloc (.cells #[.int .i64 0, .int .i64 0, .slice none 0 0, .slice none 0 0] 41)) _ := hcall
  have HV := Aside0.mk hV
  have HH := Aside0.mk (h.below hb)
  have HLT := Aside0.mk hlt
  have HR := Aside0.mk hr
  have HIH := Aside0.mk IH
  clear hcall hV h hb hlt hr hc IH
  go_enter Tryz.func93, Tryz.ntmps93
  go_wp2_with fail
  go_at_call 59
  refine hcall'.mono ?_
  rintro e w1 ⟨rfl, hb1⟩
  obtain ⟨l, rest, ho1, _⟩ := (HH.out.below hb1).open_
  have c1 : w1.cell? ⟨g, 1, none⟩ = some (.string ⟨#[40]⟩) := (blk_cell ho1 1).trans rfl
  have hV1 : Vr w1 := (HV.out.move (World.grownBy_alloc _ _ none) (fun _ e => by cases e)).move (grown_of_below hb1 none) (fun _ e => by cases e)
  have hw := within_any 74 tLp tRp (choiceG b) b g k cf_choice hg HIH.out i (some (tLp :: ts')) o' w1 h0 hi hV1 (HH.out.below hb1) HR.out
  have hw' : Calls Tryz.prog 62 #[.pointer (some ⟨g, 0, none⟩), .string ⟨#[40]⟩, .string ⟨#[41]⟩, .func (.func 74) #[.pointer (some ⟨g, 0, none⟩)] #[]] w1 (PredPost b g i o' w1) := hw
  have HG1 := Aside0.mk (show w.grownBy w1 (some g) from gb_below (World.grownBy_alloc _ _ _) hb1)
  have HR1 := Aside0.mk (blk_below (blk_new w _) hb1)
  clear hb1 ho1 hV1 hw hcall'
  go_wp2_with fail
  go_at_call 62
  refine hw'.mono ?_
  rintro e w3 ⟨x, A, c, B, d, rfl, hx⟩
  have hr3 := blk_grown HR1.out hx.2.2.1 (fun e => by injection e; have := HLT.out; omega)
  have e0 : w3.cell? ⟨w.heap.size, 0, none⟩ = some (.int .i64 0) := (blk_cell hr3 0).trans rfl
  have e1 : w3.cell? ⟨w.heap.size, 1, none⟩ = some (.int .i64 0) := (blk_cell hr3 1).trans rfl
  have e2 : w3.cell? ⟨w.heap.size, 2, none⟩ = some (.slice none 0 0) := (blk_cell hr3 2).trans rfl
  have e3 : w3.cell? ⟨w.heap.size, 3, none⟩ = some (.slice none 0 0) := (blk_cell hr3 3).trans rfl
  have f0 := blk_frozen hr3 0
  have f1 := blk_frozen hr3 1
  have f2 := blk_frozen hr3 2
  have f3 := blk_frozen hr3 3
  have HX := Aside0.mk hx
  have HR3 := Aside0.mk hr3
  clear hr3 hx hw' c1
  go_wp2
  obtain ⟨a1, a2, a3, a4⟩ := HX.out
  have hlt1 := blk_lt HR1.out
  have a1' : StepsR (fun k => w.heap.size < k) w3 (.slice A x.path.length c) x.path := a1.imp_ (fun _ _ => rfl) (fun k hk => by omega)
  have a2' : PredsR (fun k => w.heap.size < k) w3 (.slice B x.args.length d) x.args := a2.imp_ (fun _ _ => rfl) (fun k hk => by omega)
  have hw9 := put4_at HR3.out (.int .i64 x.kind) (.int .i64 x.n) (.slice A x.path.length c) (.slice B x.args.length d)
  have hgot := pred_done HLT.out a1' a2' (gb_then HG1.out a3) a4
  change bodyPost _ _ _ _ _ (put4 w3 w.heap.size (.int .i64 x.kind) (.int .i64 x.n) (.slice A x.path.length c) (.slice B x.args.length d))
  generalize put4 w3 w.heap.size (.int .i64 x.kind) (.int .i64 x.n) (.slice A x.path.length c) (.slice B x.args.length d) = w9 at hw9 hgot ⊢
  have q0 : w9.cell? ⟨w.heap.size, 0, none⟩ = some (.int .i64 x.kind) := (blk_cell hw9 0).trans rfl
  have q1 : w9.cell? ⟨w.heap.size, 1, none⟩ = some (.int .i64 x.n) := (blk_cell hw9 1).trans rfl
  have q2 : w9.cell? ⟨w.heap.size, 2, none⟩ = some (.slice A x.path.length c) := (blk_cell hw9 2).trans rfl
  have q3 : w9.cell? ⟨w.heap.size, 3, none⟩ = some (.slice B x.args.length d) := (blk_cell hw9 3).trans rfl
  refine bodyPost_ret (v := .agg #[.int .i64 x.kind, .int .i64 x.n, .slice A x.path.length c, .slice B x.args.length d]) (by simp [results, Tryz.results93, go_sem, q0, q1, q2, q3]) rfl ?_
  exact ⟨x, A, c, B, d, rfl, hgot⟩
set_option maxHeartbeats 1000000 in
set_option maxRecDepth 100000 in
theorem term_path (b : Bool) (g : Nat) (i : Int) (s : ByteArray) (x : Bool) (o' : Option (List Step × List Tok)) (w : World) (hs : s ≠ tLp) (hlt : g < w.heap.size)
    (ho : ∃ l, w.heap[g]? = some (rdO l s i x))
    (hcall : ∀ w1, Below w.heap.size w w1 → ∃ v, v = false ∧ Calls Tryz.prog 59 #[.pointer (some ⟨g, 0, none⟩), .string tNot] w1 (CalledPost v w1))
    (hpath : ∀ w1, Below w.heap.size w w1 → Calls Tryz.prog 20 #[.pointer (some ⟨g, 0, none⟩), .bool false] w1 (StepsPost b g i o' w1)) :
    Calls Tryz.prog 93 #[.pointer (some ⟨g, 0, none⟩)] w (PredPost b g i (o'.map fun r => (⟨2, 0, r.1, []⟩, r.2)) w) := by
  have hb : Below w.heap.size w (w.alloc (.cells #[.int .i64 0, .int .i64 0, .slice none 0 0, .slice none 0 0] 41)) := below_alloc (Below.refl _ _) _
  obtain ⟨_, rfl, hcall⟩ := hcall _ hb
  have hcall' : Calls Tryz.prog 59 #[.pointer (some ⟨g, 0, none⟩), .string ⟨#[110, 111, 116]⟩] (w.alloc (.cells #[.int .i64 0, .int .i64 0, .slice none 0 0, .slice none 0 0] 41)) _ := hcall
  obtain ⟨l, ho⟩ := ho
  have HO := Aside0.mk ho
  have HP := Aside0.mk hpath
  have HLT := Aside0.mk hlt
  have HB := Aside0.mk hb
  have hb : (s.toList == [40]) = false := by
    rw [beq_eq_false_iff_ne, toList_data]
    exact fun e => hs (bs_ext e)
  clear hcall hlt ho hpath hs
  go_enter Tryz.func93, Tryz.ntmps93
  go_wp2_with fail
  go_at_call 59
  refine hcall'.mono ?_
  rintro e w1 ⟨rfl, hb1⟩
  have hb1' := below_step HB.out hb1
  have c1 : w1.cell? ⟨g, 1, none⟩ = some (.string s) := (blk_cell (blk_below HO.out hb1') 1).trans rfl
  have hp := HP.out w1 hb1'
  have HG1 := Aside0.mk (show w.grownBy w1 (some g) from grown_of_below hb1' _)
  have HR1 := Aside0.mk (blk_below (blk_new w _) hb1)
  clear hb1 hb1' hcall'
  go_wp2_with fail
  go_at_call 20
  refine hp.mono ?_
  rintro e w3 ⟨xs, A, c, rfl, hx1, hx2, hx3⟩
  have hr3 := blk_grown HR1.out hx2 (fun e => by injection e; have := HLT.out; omega)
  have e0 : w3.cell? ⟨w.heap.size, 0, none⟩ = some (.int .i64 0) := (blk_cell hr3 0).trans rfl
  have e1 : w3.cell? ⟨w.heap.size, 1, none⟩ = some (.int .i64 0) := (blk_cell hr3 1).trans rfl
  have e2 : w3.cell? ⟨w.heap.size, 2, none⟩ = some (.slice none 0 0) := (blk_cell hr3 2).trans rfl
  have e3 : w3.cell? ⟨w.heap.size, 3, none⟩ = some (.slice none 0 0) := (blk_cell hr3 3).trans rfl
  have f0 := blk_frozen hr3 0
  have f1 := blk_frozen hr3 1
  have f2 := blk_frozen hr3 2
  have f3 := blk_frozen hr3 3
  have HX1 := Aside0.mk hx1
  have HX2 := Aside0.mk hx2
  have HX3 := Aside0.mk hx3
  have HR3 := Aside0.mk hr3
  clear hr3 hx1 hx2 hx3 hp c1
  go_wp2
  have hlt1 := blk_lt HR1.out
  have a1' : StepsR (fun k => w.heap.size < k) w3 (.slice A xs.length c) xs := HX1.out.imp_ (fun _ _ => rfl) (fun k hk => by omega)
  have hend : Ends b g i (o'.map fun r => ((⟨2, 0, r.1, []⟩ : Pred), r.2)) (⟨2, 0, xs, []⟩ : Pred) w3 := by
    have a5 := HX3.out
    cases o' with
    | none => exact a5
    | some r => obtain ⟨rfl, a6⟩ := a5; exact ⟨rfl, a6⟩
  have hw9 := put4_at HR3.out (.int .i64 (⟨2, 0, xs, []⟩ : Pred).kind) (.int .i64 (⟨2, 0, xs, []⟩ : Pred).n) (.slice A (⟨2, 0, xs, []⟩ : Pred).path.length c) (.slice none (⟨2, 0, xs, []⟩ : Pred).args.length 0)
  have hgot := pred_done HLT.out a1' (PredsR.nil _ _) (gb_then HG1.out HX2.out) hend
  change bodyPost _ _ _ _ _ (put4 w3 w.heap.size (.int .i64 (⟨2, 0, xs, []⟩ : Pred).kind) (.int .i64 (⟨2, 0, xs, []⟩ : Pred).n) (.slice A (⟨2, 0, xs, []⟩ : Pred).path.length c) (.slice none (⟨2, 0, xs, []⟩ : Pred).args.length 0))
  generalize put4 w3 w.heap.size (.int .i64 (⟨2, 0, xs, []⟩ : Pred).kind) (.int .i64 (⟨2, 0, xs, []⟩ : Pred).n) (.slice A (⟨2, 0, xs, []⟩ : Pred).path.length c) (.slice none (⟨2, 0, xs, []⟩ : Pred).args.length 0) = w9 at hw9 hgot ⊢
  have q0 : w9.cell? ⟨w.heap.size, 0, none⟩ = some (.int .i64 (⟨2, 0, xs, []⟩ : Pred).kind) := (blk_cell hw9 0).trans rfl
  have q1 : w9.cell? ⟨w.heap.size, 1, none⟩ = some (.int .i64 (⟨2, 0, xs, []⟩ : Pred).n) := (blk_cell hw9 1).trans rfl
  have q2 : w9.cell? ⟨w.heap.size, 2, none⟩ = some (.slice A (⟨2, 0, xs, []⟩ : Pred).path.length c) := (blk_cell hw9 2).trans rfl
  have q3 : w9.cell? ⟨w.heap.size, 3, none⟩ = some (.slice none (⟨2, 0, xs, []⟩ : Pred).args.length 0) := (blk_cell hw9 3).trans rfl
  refine bodyPost_ret (v := .agg #[.int .i64 (⟨2, 0, xs, []⟩ : Pred).kind, .int .i64 (⟨2, 0, xs, []⟩ : Pred).n, .slice A (⟨2, 0, xs, []⟩ : Pred).path.length c, .slice none (⟨2, 0, xs, []⟩ : Pred).args.length 0]) (by simp [results, Tryz.results93, go_sem, q0, q1, q2, q3]) rfl ?_
  exact ⟨(⟨2, 0, xs, []⟩ : Pred), A, c, none, 0, rfl, hgot⟩
theorem term_step (b : Bool) (g k : Nat) (hg : 4 < g) (IHC : PartC 74 (choiceG b) b g k) (IHP : PathC b g k) : PartC 93 (termG b) b g (k + 1) := by
  intro i ts o w h0 hi hV h hr
  have hlt : g < w.heap.size := by obtain ⟨_, _, ho, _⟩ := h; exact blk_lt ho
  simp only [termG] at hr
  by_cases h1 : ts.head? = some tNot ∧ ts[1]? = some tLp
  · rw [if_pos h1] at hr
    obtain ⟨o', h2, rfl⟩ := within_of (f := fun p => ⟨5, 0, [], [p]⟩) hr
    exact term_not b g k hg IHC i ts o' w h0 (by omega) hV h (decide_eq_true h1) h2
  · rw [if_neg h1] at hr
    by_cases h2 : ts.head? = some tLp
    · rw [if_pos h2] at hr
      obtain ⟨ts', rfl⟩ : ∃ ts', ts = tLp :: ts' := by
        cases ts with
        | nil => simp at h2
        | cons a l => simp at h2; exact ⟨l, by rw [h2]⟩
      obtain ⟨o', h3, h4⟩ := within_of (b := b) (k := k) (i := i) (o0 := some (tLp :: ts')) (f := fun p => p) (o := o) (by simp only [Opt, need, List.head?_cons, if_true]; exact hr)
      have h5 : o = o' := by rw [h4]; cases o' <;> rfl
      subst h5
      exact term_lp b g k hg IHC i ts' o w h0 (by omega) hV h h3
    · rw [if_neg h2] at hr
      obtain ⟨o', h3, h4⟩ : ∃ o', pathG b k i false ts = some o' ∧ o = o'.map fun r => (⟨2, 0, r.1, []⟩, r.2) := by
        rcases then_some hr with ⟨h3, rfl⟩ | ⟨l, t1, h3, h4⟩
        · exact ⟨none, h3, rfl⟩
        · exact ⟨some (l, t1), h3, (Option.some.inj h4).symm⟩
      subst h4
      obtain ⟨l, s, ho, _, hd⟩ := id h
      refine term_path b g i s false o' w ?_ hlt ⟨l, ho⟩ (fun w1 hb => ⟨isCalled tNot ts, decide_eq_false h1, called_any b g i tNot ts w1 (h.below hb) (by decide)⟩) (fun w1 hb => IHP i false ts o' w1 h0 (by omega) (hV.move (grown_of_below hb none) (fun _ e => by cases e)) (h.below hb) h3)
      intro e
      cases ts with
      | nil => rw [hd.2] at e; exact absurd e (by decide)
      | cons t ts => exact h2 (by rw [List.head?_cons, ← hd.1, e])
theorem term_w (b : Bool) (g : Nat) (PW : PathW b g) : PartW 93 b g := by
  intro i w h0 hi hV h
  exact term_path b g i _ true none w (by decide) (blk_lt h) ⟨_, h⟩ (fun w1 hb => ⟨false, rfl, called_w g i tNot w1 (h.below hb) (by decide)⟩) (fun w1 hb => PW i false w1 (h.below hb))
end Go.Proofs.YtoanmoddppmffaaGreatDoor.T
