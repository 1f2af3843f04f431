/- both, choice, within, term. -/
import Derived.Test.YtoanmoddppmffaaGreatDoorXQh
namespace Go.Proofs.YtoanmoddppmffaaGreatDoor.T
open Go.RowKit Go.Shelf Go.Proofs.YtoanmoddppmffaaGreatDoorW.PrintWords
set_option linter.unusedVariables false
set_option linter.unusedSimpArgs false
theorem cf_both (x : Array Value) (w : World) : Sem.run Tryz.prog (callFunc 84 x) w = .ok (.enter 84 x) w := by kernel_rfl
theorem cf_term (x : Array Value) (w : World) : Sem.run Tryz.prog (callFunc 93 x) w = .ok (.enter 93 x) w := by kernel_rfl
theorem cf_choice (x : Array Value) (w : World) : Sem.run Tryz.prog (callFunc 74 x) w = .ok (.enter 74 x) w := by kernel_rfl
theorem cf_pred (x : Array Value) (w : World) : Sem.run Tryz.prog (callFunc 63 x) w = .ok (.enter 63 x) w := by kernel_rfl
def put4 (w : World) (R : Nat) (a b c d : Value) : World := (((w.setCell ⟨R, 0, none⟩ a).setCell ⟨R, 1, none⟩ b).setCell ⟨R, 2, none⟩ c).setCell ⟨R, 3, none⟩ d
theorem put4_at {w : World} {R : Nat} {t : TypeId} {x0 x1 x2 x3 : Value} (h : w.heap[R]? = some (.cells #[x0, x1, x2, x3] t (0, 0))) (a b c d : Value) : (put4 w R a b c d).heap[R]? = some (.cells #[a, b, c, d] t (0, 0)) :=
  blk_put (blk_put (blk_put (blk_put h 0 a rfl) 1 b rfl) 2 c rfl) 3 d rfl
theorem put4_far (w : World) {R k : Nat} (hk : k ≠ R) (a b c d : Value) : (put4 w R a b c d).heap[k]? = w.heap[k]? := by
  unfold put4
  rw [Below.heap_setCell _ _ _ _ hk, Below.heap_setCell _ _ _ _ hk, Below.heap_setCell _ _ _ _ hk, Below.heap_setCell _ _ _ _ hk]
theorem put4_gb {w w1 : World} {row : Option Nat} {R : Nat} (h : w.grownBy w1 row) (hR : w.heap.size ≤ R) (a b c d : Value) : w.grownBy (put4 w1 R a b c d) row := gb_setNew (gb_setNew (gb_setNew (gb_setNew h hR) hR) hR) hR
theorem pred_done {b : Bool} {g : Nat} {i : Int} {o : Option (Pred × List Tok)} {w w2 : World} {x : Pred} {v u : Value} (hlt : g < w.heap.size)
    (h1 : StepsR (fun k => w.heap.size < k) w2 v x.path) (h2 : PredsR (fun k => w.heap.size < k) w2 u x.args) (hgb : w.grownBy w2 (some g)) (he : Ends b g i o x w2) :
    PGot b g i o w x v u (put4 w2 w.heap.size (.int .i64 x.kind) (.int .i64 x.n) v u) :=
  ⟨h1.imp_ (fun k hk => put4_far _ (by omega) _ _ _ _) (fun k hk => by omega), h2.imp_ (fun k hk => put4_far _ (by omega) _ _ _ _) (fun k hk => by omega), put4_gb hgb (Nat.le_refl _) _ _ _ _, he.move (put4_far _ (by omega) _ _ _ _)⟩
theorem PGot.inner {b : Bool} {g : Nat} {i : Int} {o : Option (Pred × List Tok)} {w w2 : World} {x : Pred} {v u : Value} {ob : Obj} (h : PGot b g i o (w.alloc ob) x v u w2) :
    StepsR (fun k => w.heap.size < k) w2 v x.path ∧ PredsR (fun k => w.heap.size < k) w2 u x.args ∧ w.grownBy w2 (some g) ∧ Ends b g i o x w2 := by
  obtain ⟨h1, h2, h3, h4⟩ := h
  simp only [World.size_alloc] at h1 h2
  exact ⟨h1.imp_ (fun _ _ => rfl) (fun k hk => by omega), h2.imp_ (fun _ _ => rfl) (fun k hk => by omega), gb_then (World.grownBy_alloc _ _ _) h3, h4⟩
set_option maxHeartbeats 1000000 in
set_option maxRecDepth 100000 in
theorem choice_of (b : Bool) (g : Nat) (i : Int) (o : Option (Pred × List Tok)) (w : World) (hlt : g < w.heap.size)
    (hcall : Calls Tryz.prog 83 #[.pointer (some ⟨g, 0, none⟩), .string tOr, .int .i64 4, .func (.func 84) #[.pointer (some ⟨g, 0, none⟩)] #[]] (w.alloc (.cells #[.int .i64 0, .int .i64 0, .slice none 0 0, .slice none 0 0] 41)) (PredPost b g i o (w.alloc (.cells #[.int .i64 0, .int .i64 0, .slice none 0 0, .slice none 0 0] 41)))) :
    Calls Tryz.prog 74 #[.pointer (some ⟨g, 0, none⟩)] w (PredPost b g i o w) := by
  have hcall' : Calls Tryz.prog 83 #[.pointer (some ⟨g, 0, none⟩), .string ⟨#[111, 114]⟩, .int .i64 4, .func (.func 84) #[.pointer (some ⟨g, 0, none⟩)] #[]] (w.alloc (.cells #[.int .i64 0, .int .i64 0, .slice none 0 0, .slice none 0 0] 41)) (PredPost b g i o (w.alloc (.cells #[.int .i64 0, .int .i64 0, .slice none 0 0, .slice none 0 0] 41))) := hcall
  have HLT := Aside0.mk hlt
  clear hcall hlt
  go_enter Tryz.func74, Tryz.ntmps74
  go_wp2_with fail
  go_at_call 83
  refine hcall'.mono ?_
  rintro e w2 ⟨x, A, c, B, d, rfl, hx⟩
  have hr0 := blk_grown (blk_new w _) hx.2.2.1 (fun e => by injection e; have := HLT.out; omega)
  have e0 : w2.cell? ⟨w.heap.size, 0, none⟩ = some (.int .i64 0) := (blk_cell hr0 0).trans rfl
  have e1 : w2.cell? ⟨w.heap.size, 1, none⟩ = some (.int .i64 0) := (blk_cell hr0 1).trans rfl
  have e2 : w2.cell? ⟨w.heap.size, 2, none⟩ = some (.slice none 0 0) := (blk_cell hr0 2).trans rfl
  have e3 : w2.cell? ⟨w.heap.size, 3, none⟩ = some (.slice none 0 0) := (blk_cell hr0 3).trans rfl
  have f0 := blk_frozen hr0 0
  have f1 := blk_frozen hr0 1
  have f2 := blk_frozen hr0 2
  have f3 := blk_frozen hr0 3
  have HR0 := Aside0.mk hr0
  have HX := Aside0.mk hx
  clear hr0 hx hcall'
  go_wp2
  obtain ⟨a1, a2, a3, a4⟩ := HX.out.inner
  have hw9 := put4_at HR0.out (.int .i64 x.kind) (.int .i64 x.n) (.slice A x.path.length c) (.slice B x.args.length d)
  have hgot := pred_done HLT.out a1 a2 a3 a4
  change bodyPost _ _ _ _ _ (put4 w2 w.heap.size (.int .i64 x.kind) (.int .i64 x.n) (.slice A x.path.length c) (.slice B x.args.length d))
  generalize put4 w2 w.heap.size (.int .i64 x.kind) (.int .i64 x.n) (.slice A x.path.length c) (.slice B x.args.length d) = w9 at hw9 hgot ⊢
  have q0 : w9.cell? ⟨w.heap.size, 0, none⟩ = some (.int .i64 x.kind) := (blk_cell hw9 0).trans rfl
  have q1 : w9.cell? ⟨w.heap.size, 1, none⟩ = some (.int .i64 x.n) := (blk_cell hw9 1).trans rfl
  have q2 : w9.cell? ⟨w.heap.size, 2, none⟩ = some (.slice A x.path.length c) := (blk_cell hw9 2).trans rfl
  have q3 : w9.cell? ⟨w.heap.size, 3, none⟩ = some (.slice B x.args.length d) := (blk_cell hw9 3).trans rfl
  refine bodyPost_ret (v := .agg #[.int .i64 x.kind, .int .i64 x.n, .slice A x.path.length c, .slice B x.args.length d]) (by simp [results, Tryz.results74, go_sem, q0, q1, q2, q3]) rfl ?_
  exact ⟨x, A, c, B, d, rfl, hgot⟩
set_option maxHeartbeats 1000000 in
set_option maxRecDepth 100000 in
theorem both_of (b : Bool) (g : Nat) (i : Int) (o : Option (Pred × List Tok)) (w : World) (hlt : g < w.heap.size)
    (hcall : Calls Tryz.prog 83 #[.pointer (some ⟨g, 0, none⟩), .string tAnd, .int .i64 3, .func (.func 93) #[.pointer (some ⟨g, 0, none⟩)] #[]] (w.alloc (.cells #[.int .i64 0, .int .i64 0, .slice none 0 0, .slice none 0 0] 41)) (PredPost b g i o (w.alloc (.cells #[.int .i64 0, .int .i64 0, .slice none 0 0, .slice none 0 0] 41)))) :
    Calls Tryz.prog 84 #[.pointer (some ⟨g, 0, none⟩)] w (PredPost b g i o w) := by
  have hcall' : Calls Tryz.prog 83 #[.pointer (some ⟨g, 0, none⟩), .string ⟨#[97, 110, 100]⟩, .int .i64 3, .func (.func 93) #[.pointer (some ⟨g, 0, none⟩)] #[]] (w.alloc (.cells #[.int .i64 0, .int .i64 0, .slice none 0 0, .slice none 0 0] 41)) (PredPost b g i o (w.alloc (.cells #[.int .i64 0, .int .i64 0, .slice none 0 0, .slice none 0 0] 41))) := hcall
  have HLT := Aside0.mk hlt
  clear hcall hlt
  go_enter Tryz.func84, Tryz.ntmps84
  go_wp2_with fail
  go_at_call 83
  refine hcall'.mono ?_
  rintro e w2 ⟨x, A, c, B, d, rfl, hx⟩
  have hr0 := blk_grown (blk_new w _) hx.2.2.1 (fun e => by injection e; have := HLT.out; omega)
  have e0 : w2.cell? ⟨w.heap.size, 0, none⟩ = some (.int .i64 0) := (blk_cell hr0 0).trans rfl
  have e1 : w2.cell? ⟨w.heap.size, 1, none⟩ = some (.int .i64 0) := (blk_cell hr0 1).trans rfl
  have e2 : w2.cell? ⟨w.heap.size, 2, none⟩ = some (.slice none 0 0) := (blk_cell hr0 2).trans rfl
  have e3 : w2.cell? ⟨w.heap.size, 3, none⟩ = some (.slice none 0 0) := (blk_cell hr0 3).trans rfl
  have f0 := blk_frozen hr0 0
  have f1 := blk_frozen hr0 1
  have f2 := blk_frozen hr0 2
  have f3 := blk_frozen hr0 3
  have HR0 := Aside0.mk hr0
  have HX := Aside0.mk hx
  clear hr0 hx hcall'
  go_wp2
  obtain ⟨a1, a2, a3, a4⟩ := HX.out.inner
  have hw9 := put4_at HR0.out (.int .i64 x.kind) (.int .i64 x.n) (.slice A x.path.length c) (.slice B x.args.length d)
  have hgot := pred_done HLT.out a1 a2 a3 a4
  change bodyPost _ _ _ _ _ (put4 w2 w.heap.size (.int .i64 x.kind) (.int .i64 x.n) (.slice A x.path.length c) (.slice B x.args.length d))
  generalize put4 w2 w.heap.size (.int .i64 x.kind) (.int .i64 x.n) (.slice A x.path.length c) (.slice B x.args.length d) = w9 at hw9 hgot ⊢
  have q0 : w9.cell? ⟨w.heap.size, 0, none⟩ = some (.int .i64 x.kind) := (blk_cell hw9 0).trans rfl
  have q1 : w9.cell? ⟨w.heap.size, 1, none⟩ = some (.int .i64 x.n) := (blk_cell hw9 1).trans rfl
  have q2 : w9.cell? ⟨w.heap.size, 2, none⟩ = some (.slice A x.path.length c) := (blk_cell hw9 2).trans rfl
  have q3 : w9.cell? ⟨w.heap.size, 3, none⟩ = some (.slice B x.args.length d) := (blk_cell hw9 3).trans rfl
  refine bodyPost_ret (v := .agg #[.int .i64 x.kind, .int .i64 x.n, .slice A x.path.length c, .slice B x.args.length d]) (by simp [results, Tryz.results84, go_sem, q0, q1, q2, q3]) rfl ?_
  exact ⟨x, A, c, B, d, rfl, hgot⟩
theorem choice_step (b : Bool) (g k : Nat) (hg : 4 < g) (IH : ∀ m, m ≤ k → PartC 84 (bothG b) b g m) (WR : PartW 84 b g) : PartC 74 (choiceG b) b g (k + 1) := by
  intro i ts o w h0 hi hV h hr
  have hb : Below w.heap.size w (w.alloc (.cells #[.int .i64 0, .int .i64 0, .slice none 0 0, .slice none 0 0] 41)) := below_alloc (Below.refl _ _) _
  have hlt : g < w.heap.size := by obtain ⟨_, _, ho, _⟩ := h; exact blk_lt ho
  refine choice_of b g i o w hlt (row_any 84 tOr 4 (bothG b) (choiceL b) b g k (by decide) (fun m i p ts => rfl) (fun _ _ _ => rfl) IH WR cf_both hg i ts o _ h0 (by omega) (hV.move (World.grownBy_alloc _ _ none) (fun _ e => by cases e)) (h.below hb) ?_)
  exact hr
theorem both_step (b : Bool) (g k : Nat) (hg : 4 < g) (IH : ∀ m, m ≤ k → PartC 93 (termG b) b g m) (WR : PartW 93 b g) : PartC 84 (bothG b) b g (k + 1) := by
  intro i ts o w h0 hi hV h hr
  have hb : Below w.heap.size w (w.alloc (.cells #[.int .i64 0, .int .i64 0, .slice none 0 0, .slice none 0 0] 41)) := below_alloc (Below.refl _ _) _
  have hlt : g < w.heap.size := by obtain ⟨_, _, ho, _⟩ := h; exact blk_lt ho
  refine both_of b g i o w hlt (row_any 93 tAnd 3 (termG b) (bothL b) b g k (by decide) (fun m i p ts => rfl) (fun _ _ _ => rfl) IH WR cf_term hg i ts o _ h0 (by omega) (hV.move (World.grownBy_alloc _ _ none) (fun _ e => by cases e)) (h.below hb) ?_)
  exact hr
theorem both_w (b : Bool) (g : Nat) (hg : 4 < g) (WR : PartW 93 b g) : PartW 84 b g := by
  intro i w h0 hi hV h
  have hb : Below w.heap.size w (w.alloc (.cells #[.int .i64 0, .int .i64 0, .slice none 0 0, .slice none 0 0] 41)) := below_alloc (Below.refl _ _) _
  exact both_of b g i none w (blk_lt h) (row_w 93 tAnd 3 b g (by decide) WR cf_term hg i _ h0 hi (hV.move (World.grownBy_alloc _ _ none) (fun _ e => by cases e)) (h.below hb))
def WithinR (b : Bool) (op en : Tok) (Gp : Nat → Int → List Tok → Out Pred) (m : Nat) (i : Int) (o0 : Option (List Tok)) (o : Option (Pred × List Tok)) : Prop :=
  (o0.bind (need b op) = none ∧ o = none) ∨ ∃ t1, o0.bind (need b op) = some t1 ∧ ((Gp m i t1 = some none ∧ o = none) ∨ ∃ p t2, Gp m i t1 = some (some (p, t2)) ∧ o = (need b en t2).map fun r => (p, r))
set_option maxHeartbeats 1000000 in
set_option maxRecDepth 100000 in
theorem within_any (F : FuncId) (op en : Tok) (Gp : Nat → Int → List Tok → Out Pred) (b : Bool) (g m : Nat) (hcf : ∀ (x : Array Value) (w : World), Sem.run Tryz.prog (callFunc F x) w = .ok (.enter F x) w) (hg : 4 < g) (IH : PartC F Gp b g m)
    (i : Int) (o0 : Option (List Tok)) (o : Option (Pred × List Tok)) (w : World) (h0 : 0 ≤ i) (hi : i + m ≤ 100000) (hV : Vr w) (h : StO b w g i o0) (hr : WithinR b op en Gp m i o0 o) :
    Calls Tryz.prog 62 #[.pointer (some ⟨g, 0, none⟩), .string op, .string en, .func (.func F) #[.pointer (some ⟨g, 0, none⟩)] #[]] w (PredPost b g i o w) := by
  have hlt : g < w.heap.size := by
    cases o0 with
    | none => exact blk_lt (show w.heap[g]? = _ from h)
    | some ts => obtain ⟨_, _, ho, _⟩ := h; exact blk_lt ho
  have hb : Below w.heap.size w (w.alloc (.cells #[.int .i64 0, .int .i64 0, .slice none 0 0, .slice none 0 0] 41)) := below_alloc (Below.refl _ _) _
  have hneed := needs_any b g i op o0 _ (h.below hb)
  have HV := Aside0.mk hV
  have HLT := Aside0.mk hlt
  have HIH := Aside0.mk IH
  have HR := Aside0.mk hr
  clear hV hlt IH hr h hb
  go_enter Tryz.func62, Tryz.ntmps62
  go_wp2_with fail
  go_at_call 60
  refine hneed.mono ?_
  rintro e w2 ⟨⟨v, rfl⟩, hg2, hs2⟩
  have hr0 := blk_grown (blk_new w _) hg2 (fun e => by injection e; have := HLT.out; omega)
  have HR0 := Aside0.mk hr0
  have HG2 := Aside0.mk hg2
  have HS2 := Aside0.mk hs2
  have hrb : ∃ l s x, w2.heap[g]? = some (rdO l s i x) ∧ x = (o0.bind (need b op)).isNone := by
    cases hn : o0.bind (need b op) with
    | none => rw [hn] at hs2; exact ⟨_, _, _, hs2, rfl⟩
    | some ts => rw [hn] at hs2; obtain ⟨l, s, ho, _⟩ := hs2; exact ⟨l, s, _, ho, rfl⟩
  obtain ⟨l, s, x, hx, hxe⟩ := hrb
  have hlt2 := blk_lt hx
  have c3 : w2.cell? ⟨g, 3, none⟩ = some (.bool x) := (blk_cell hx 3).trans rfl
  have hz2 : w.heap.size + 1 ≤ w2.heap.size := by have := hg2.size; simpa using this
  clear hr0 hg2 hs2 hneed hx
  cases hn : o0.bind (need b op) with
  | none =>
    rw [hn] at hxe
    obtain rfl : x = true := hxe
    have hs3 := HS2.out
    rw [hn] at hs3
    have hb3 : Below w2.heap.size w2 (w2.alloc (.cells #[.int .i64 0, .int .i64 0, .slice none 0 0, .slice none 0 0] 41)) := below_alloc (Below.refl _ _) _
    have hneed := needs_any b g i en none _ (StO.below hs3 hb3)
    have HO : Aside0 (o = none) := ⟨by
      rcases HR.out with ⟨_, h⟩ | ⟨t1, h, _⟩
      · exact h
      · rw [hn] at h; cases h⟩
    clear hs3 hb3
    go_wp2_with fail
    go_at_call 60
    refine hneed.mono ?_
    rintro e w4 ⟨⟨v4, rfl⟩, hg4, hs4⟩
    have hr4 := blk_grown (blk_alloc HR0.out _) hg4 (fun e => by injection e; have := HLT.out; omega)
    have hp4 := blk_grown (blk_new w2 _) hg4 (fun e => by injection e; have := HLT.out; omega)
    have e0 : w4.cell? ⟨w.heap.size, 0, none⟩ = some (.int .i64 0) := (blk_cell hr4 0).trans rfl
    have e1 : w4.cell? ⟨w.heap.size, 1, none⟩ = some (.int .i64 0) := (blk_cell hr4 1).trans rfl
    have e2 : w4.cell? ⟨w.heap.size, 2, none⟩ = some (.slice none 0 0) := (blk_cell hr4 2).trans rfl
    have e3 : w4.cell? ⟨w.heap.size, 3, none⟩ = some (.slice none 0 0) := (blk_cell hr4 3).trans rfl
    have f0 := blk_frozen hr4 0
    have f1 := blk_frozen hr4 1
    have f2 := blk_frozen hr4 2
    have f3 := blk_frozen hr4 3
    have pe0 : w4.cell? ⟨w2.heap.size, 0, none⟩ = some (.int .i64 0) := (blk_cell hp4 0).trans rfl
    have pe1 : w4.cell? ⟨w2.heap.size, 1, none⟩ = some (.int .i64 0) := (blk_cell hp4 1).trans rfl
    have pe2 : w4.cell? ⟨w2.heap.size, 2, none⟩ = some (.slice none 0 0) := (blk_cell hp4 2).trans rfl
    have pe3 : w4.cell? ⟨w2.heap.size, 3, none⟩ = some (.slice none 0 0) := (blk_cell hp4 3).trans rfl
    have pf0 := blk_frozen hp4 0
    have pf1 := blk_frozen hp4 1
    have pf2 := blk_frozen hp4 2
    have pf3 := blk_frozen hp4 3
    have HR4 := Aside0.mk hr4
    have HG4 := Aside0.mk (gb_then (gb_alloc (gb_then (World.grownBy_alloc _ _ _) HG2.out) _) hg4)
    have HS4 := Aside0.mk hs4
    obtain rfl := HO.out
    clear hr4 hp4 hg4 hs4 hneed c3 HO
    go_wp2
    have hw9 := put4_at HR4.out (.int .i64 (⟨0,0,[],[]⟩:Pred).kind) (.int .i64 (⟨0,0,[],[]⟩:Pred).n) (.slice none (⟨0,0,[],[]⟩:Pred).path.length 0) (.slice none (⟨0,0,[],[]⟩:Pred).args.length 0)
    have hgot := pred_done HLT.out (StepsR.nil _ _) (PredsR.nil _ _) HG4.out (show Ends b g i none (⟨0,0,[],[]⟩:Pred) w4 from HS4.out)
    change bodyPost _ _ _ _ _ (put4 w4 w.heap.size (.int .i64 (⟨0,0,[],[]⟩:Pred).kind) (.int .i64 (⟨0,0,[],[]⟩:Pred).n) (.slice none (⟨0,0,[],[]⟩:Pred).path.length 0) (.slice none (⟨0,0,[],[]⟩:Pred).args.length 0))
    generalize put4 w4 w.heap.size (.int .i64 (⟨0,0,[],[]⟩:Pred).kind) (.int .i64 (⟨0,0,[],[]⟩:Pred).n) (.slice none (⟨0,0,[],[]⟩:Pred).path.length 0) (.slice none (⟨0,0,[],[]⟩:Pred).args.length 0) = w9 at hw9 hgot ⊢
    have q0 : w9.cell? ⟨w.heap.size, 0, none⟩ = some (.int .i64 (⟨0,0,[],[]⟩:Pred).kind) := (blk_cell hw9 0).trans rfl
    have q1 : w9.cell? ⟨w.heap.size, 1, none⟩ = some (.int .i64 (⟨0,0,[],[]⟩:Pred).n) := (blk_cell hw9 1).trans rfl
    have q2 : w9.cell? ⟨w.heap.size, 2, none⟩ = some (.slice none (⟨0,0,[],[]⟩:Pred).path.length 0) := (blk_cell hw9 2).trans rfl
    have q3 : w9.cell? ⟨w.heap.size, 3, none⟩ = some (.slice none (⟨0,0,[],[]⟩:Pred).args.length 0) := (blk_cell hw9 3).trans rfl
    refine bodyPost_ret (v := .agg #[.int .i64 (⟨0,0,[],[]⟩:Pred).kind, .int .i64 (⟨0,0,[],[]⟩:Pred).n, .slice none (⟨0,0,[],[]⟩:Pred).path.length 0, .slice none (⟨0,0,[],[]⟩:Pred).args.length 0]) (by simp [results, Tryz.results62, go_sem, q0, q1, q2, q3]) rfl ?_
    exact ⟨(⟨0,0,[],[]⟩:Pred), none, 0, none, 0, rfl, hgot⟩
  | some t1 =>
    rw [hn] at hxe
    obtain rfl : x = false := hxe
    have hs3 := HS2.out
    rw [hn] at hs3
    have hs3' : StT b w2 g i t1 := hs3
    have hb3 : Below w2.heap.size w2 (w2.alloc (.cells #[.int .i64 0, .int .i64 0, .slice none 0 0, .slice none 0 0] 41)) := below_alloc (Below.refl _ _) _
    obtain ⟨o1, hG, hc⟩ : ∃ o1, Gp m i t1 = some o1 ∧ ((o1 = none ∧ o = none) ∨ ∃ p t2, o1 = some (p, t2) ∧ o = (need b en t2).map fun r => (p, r)) := by
      rcases HR.out with ⟨h, _⟩ | ⟨t1', h, h2⟩
      · rw [hn] at h; cases h
      · rw [hn] at h
        obtain rfl := Option.some.inj h
        rcases h2 with ⟨h3, h4⟩ | ⟨p, t2, h3, h4⟩
        · exact ⟨none, h3, .inl ⟨rfl, h4⟩⟩
        · exact ⟨some (p, t2), h3, .inr ⟨p, t2, rfl, h4⟩⟩
    have hV2 : Vr w2 := (HV.out.move (World.grownBy_alloc _ _ none) (fun _ e => by cases e)).move HG2.out (fun k e => by injection e; omega)
    have hcall := HIH.out i t1 o1 (w2.alloc (.cells #[.int .i64 0, .int .i64 0, .slice none 0 0, .slice none 0 0] 41)) h0 hi (hV2.move (World.grownBy_alloc _ _ none) (fun _ e => by cases e)) (hs3'.below hb3) hG
    have HC := Aside0.mk hc
    clear hs3 hs3' hb3 hG hc hV2
    go_wp2_with fail
    refine hcall.mono ?_
    rintro e w4 ⟨x, A, c, B, d, rfl, hx⟩
    obtain ⟨hx1, hx2, hx3, hx4⟩ := hx
    have hz4 := hx3.size
    simp only [World.size_alloc] at hz4 hx1 hx2
    have hr4 := blk_grown (blk_alloc HR0.out _) hx3 (fun e => by injection e; have := HLT.out; omega)
    have hp4 := blk_grown (blk_new w2 _) hx3 (fun e => by injection e; have := HLT.out; omega)
    have pe0 : w4.cell? ⟨w2.heap.size, 0, none⟩ = some (.int .i64 0) := (blk_cell hp4 0).trans rfl
    have pe1 : w4.cell? ⟨w2.heap.size, 1, none⟩ = some (.int .i64 0) := (blk_cell hp4 1).trans rfl
    have pe2 : w4.cell? ⟨w2.heap.size, 2, none⟩ = some (.slice none 0 0) := (blk_cell hp4 2).trans rfl
    have pe3 : w4.cell? ⟨w2.heap.size, 3, none⟩ = some (.slice none 0 0) := (blk_cell hp4 3).trans rfl
    have pf0 := blk_frozen hp4 0
    have pf1 := blk_frozen hp4 1
    have pf2 := blk_frozen hp4 2
    have pf3 := blk_frozen hp4 3
    have HP5 := Aside0.mk (put4_at hp4 (.int .i64 x.kind) (.int .i64 x.n) (.slice A x.path.length c) (.slice B x.args.length d))
    have HR5 := Aside0.mk ((put4_far w4 (show w.heap.size ≠ w2.heap.size by omega) (.int .i64 x.kind) (.int .i64 x.n) (.slice A x.path.length c) (.slice B x.args.length d)).trans hr4)
    have HX1 := Aside0.mk hx1
    have HX2 := Aside0.mk hx2
    have HG4 := Aside0.mk (gb_then (gb_alloc (gb_then (World.grownBy_alloc w _ _) HG2.out) _) hx3)
    have HE4 := Aside0.mk hx4
    clear hx1 hx2 hx3 hx4 hr4 hp4 hcall
    go_wp2_with fail
    change Calls _ _ _ (put4 w4 w2.heap.size (.int .i64 x.kind) (.int .i64 x.n) (.slice A x.path.length c) (.slice B x.args.length d)) _
    have HFar := Aside0.mk (fun k (hk : k ≠ w2.heap.size) => put4_far w4 hk (.int .i64 x.kind) (.int .i64 x.n) (.slice A x.path.length c) (.slice B x.args.length d))
    have HG5 := Aside0.mk (put4_gb HG4.out (show w.heap.size ≤ w2.heap.size by omega) (.int .i64 x.kind) (.int .i64 x.n) (.slice A x.path.length c) (.slice B x.args.length d))
    generalize put4 w4 w2.heap.size (.int .i64 x.kind) (.int .i64 x.n) (.slice A x.path.length c) (.slice B x.args.length d) = w5 at *
    have hlt4 := HLT.out
    have hs5 : StO b w5 g i (o1.map Prod.snd) := by
      have hm := HFar.out g (by omega)
      have h4 := HE4.out
      cases o1 with
      | none => exact StW.move h4 hm
      | some r => exact StT.move h4.2 hm
    refine (needs_any b g i en _ w5 hs5).mono ?_
    rintro e w6 ⟨⟨v6, rfl⟩, hg6, hs6⟩
    have hr6 := blk_grown HR5.out hg6 (fun e => by injection e; omega)
    have hp6 := blk_grown HP5.out hg6 (fun e => by injection e; omega)
    have e0 : w6.cell? ⟨w.heap.size, 0, none⟩ = some (.int .i64 0) := (blk_cell hr6 0).trans rfl
    have e1 : w6.cell? ⟨w.heap.size, 1, none⟩ = some (.int .i64 0) := (blk_cell hr6 1).trans rfl
    have e2 : w6.cell? ⟨w.heap.size, 2, none⟩ = some (.slice none 0 0) := (blk_cell hr6 2).trans rfl
    have e3 : w6.cell? ⟨w.heap.size, 3, none⟩ = some (.slice none 0 0) := (blk_cell hr6 3).trans rfl
    have f0 := blk_frozen hr6 0
    have f1 := blk_frozen hr6 1
    have f2 := blk_frozen hr6 2
    have f3 := blk_frozen hr6 3
    have pp0 : w6.cell? ⟨w2.heap.size, 0, none⟩ = some (.int .i64 x.kind) := (blk_cell hp6 0).trans rfl
    have pp1 : w6.cell? ⟨w2.heap.size, 1, none⟩ = some (.int .i64 x.n) := (blk_cell hp6 1).trans rfl
    have pp2 : w6.cell? ⟨w2.heap.size, 2, none⟩ = some (.slice A x.path.length c) := (blk_cell hp6 2).trans rfl
    have pp3 : w6.cell? ⟨w2.heap.size, 3, none⟩ = some (.slice B x.args.length d) := (blk_cell hp6 3).trans rfl
    have HR6 := Aside0.mk hr6
    have HG6 := Aside0.mk (gb_then HG5.out hg6)
    have HX61 := Aside0.mk (show StepsR (fun k => w.heap.size < k) w6 (.slice A x.path.length c) x.path from HX1.out.bound.imp_ (fun k hk => (hg6.block k (by have := blk_lt HP5.out; have := hg6.size; have := congrArg Option.isSome (HFar.out k (by omega)); simp [Array.getElem?_eq_getElem hk.2] at this; exact this) (fun e => by injection e; omega)).trans (HFar.out k (by omega))) (fun k hk => by omega))
    have HX62 := Aside0.mk (show PredsR (fun k => w.heap.size < k) w6 (.slice B x.args.length d) x.args from HX2.out.bound.imp_ (fun k hk => (hg6.block k (by have := congrArg Option.isSome (HFar.out k (by omega)); simp [Array.getElem?_eq_getElem hk.2] at this; exact this) (fun e => by injection e; omega)).trans (HFar.out k (by omega))) (fun k hk => by omega))
    have HE6 : Aside0 (Ends b g i o x w6) := ⟨by
      rcases HC.out with ⟨rfl, rfl⟩ | ⟨p, t2, rfl, rfl⟩
      · exact hs6
      · have h1 := HE4.out.1
        simp only [Option.map_some, Option.bind_some] at hs6
        cases hne : need b en t2 with
        | none => rw [hne] at hs6; exact hs6
        | some r => rw [hne] at hs6; exact ⟨h1, hs6⟩⟩
    clear hr6 hp6 hg6 hs6 hs5 pe0 pe1 pe2 pe3 pf0 pf1 pf2 pf3
    go_wp2
    have hw9 := put4_at HR6.out (.int .i64 x.kind) (.int .i64 x.n) (.slice A x.path.length c) (.slice B x.args.length d)
    have hgot := pred_done HLT.out HX61.out HX62.out HG6.out HE6.out
    change bodyPost _ _ _ _ _ (put4 w6 w.heap.size (.int .i64 x.kind) (.int .i64 x.n) (.slice A x.path.length c) (.slice B x.args.length d))
    generalize put4 w6 w.heap.size (.int .i64 x.kind) (.int .i64 x.n) (.slice A x.path.length c) (.slice B x.args.length d) = w9 at hw9 hgot ⊢
    have q0 : w9.cell? ⟨w.heap.size, 0, none⟩ = some (.int .i64 x.kind) := (blk_cell hw9 0).trans rfl
    have q1 : w9.cell? ⟨w.heap.size, 1, none⟩ = some (.int .i64 x.n) := (blk_cell hw9 1).trans rfl
    have q2 : w9.cell? ⟨w.heap.size, 2, none⟩ = some (.slice A x.path.length c) := (blk_cell hw9 2).trans rfl
    have q3 : w9.cell? ⟨w.heap.size, 3, none⟩ = some (.slice B x.args.length d) := (blk_cell hw9 3).trans rfl
    refine bodyPost_ret (v := .agg #[.int .i64 x.kind, .int .i64 x.n, .slice A x.path.length c, .slice B x.args.length d]) (by simp [results, Tryz.results62, go_sem, q0, q1, q2, q3]) rfl ?_
    exact ⟨x, A, c, B, d, rfl, hgot⟩
end Go.Proofs.YtoanmoddppmffaaGreatDoor.T
