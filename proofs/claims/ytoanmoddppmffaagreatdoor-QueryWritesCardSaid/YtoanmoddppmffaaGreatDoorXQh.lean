/- What the reader's methods leave; row. -/
import Derived.Test.YtoanmoddppmffaaGreatDoorXQf
import Derived.Test.YtoanmoddppmffaaGreatDoorXQo
namespace Go.Proofs.YtoanmoddppmffaaGreatDoor.T
open Go.RowKit Go.Shelf Go.Proofs.YtoanmoddppmffaaGreatDoorW.PrintWords
set_option linter.unusedVariables false
set_option linter.unusedSimpArgs false
theorem then_some {α β : Type} {x : Out α} {f : α → List Tok → Out β} {o : Option (β × List Tok)} (h : x.then_ f = some o) : (x = some none ∧ o = none) ∨ ∃ y ts, x = some (some (y, ts)) ∧ f y ts = some o := by
  match x, h with
  | none, h => cases h
  | some none, h => exact .inl ⟨rfl, (Option.some.inj h).symm⟩
  | some (some (y, ts)), h => exact .inr ⟨y, ts, rfl, h⟩
theorem Opt_some {α β : Type} {x : Option α} {f : α → Out β} {o : Option (β × List Tok)} (h : Opt x f = some o) : (x = none ∧ o = none) ∨ ∃ y, x = some y ∧ f y = some o := by
  cases x with
  | none => exact .inl ⟨rfl, (Option.some.inj h).symm⟩
  | some y => exact .inr ⟨y, rfl, h⟩
def Ends {α : Type} (b : Bool) (g : Nat) (i : Int) (o : Option (α × List Tok)) (x : α) (w' : World) : Prop :=
  match o with
  | some (y, ts) => x = y ∧ StT b w' g i ts
  | none => StW w' g i
def PGot (b : Bool) (g : Nat) (i : Int) (o : Option (Pred × List Tok)) (w : World) (x : Pred) (v u : Value) (w' : World) : Prop :=
  StepsR (fun k => w.heap.size ≤ k) w' v x.path ∧ PredsR (fun k => w.heap.size ≤ k) w' u x.args ∧ w.grownBy w' (some g) ∧ Ends b g i o x w'
def PredPost (b : Bool) (g : Nat) (i : Int) (o : Option (Pred × List Tok)) (w : World) (e : Ending) (w' : World) : Prop :=
  ∃ (x : Pred) (A : Option Addr) (c : Nat) (B : Option Addr) (d : Nat), e = .returned (.agg #[.int .i64 x.kind, .int .i64 x.n, .slice A x.path.length c, .slice B x.args.length d]) ∧ PGot b g i o w x (.slice A x.path.length c) (.slice B x.args.length d) w'
theorem preds_two {ok : Nat → Prop} {w : World} {p q : Pred} {v1 u1 v2 u2 : Value} {n : Nat} (hb : w.heap[n]? = some (.cells #[.int .i64 p.kind, .int .i64 p.n, v1, u1, .int .i64 q.kind, .int .i64 q.n, v2, u2] 41 (0, 0))) (hn : ok n)
    (h1 : StepsR ok w v1 p.path) (h2 : PredsR ok w u1 p.args) (h3 : StepsR ok w v2 q.path) (h4 : PredsR ok w u2 q.args) : PredsR ok w (.slice (some ⟨n, 0, none⟩) 2 2) [p, q] := by
  obtain ⟨a, ha⟩ := PredR.mk_ h1 h2
  obtain ⟨c, hc⟩ := PredR.mk_ h3 h4
  refine ⟨a + c, some ⟨n, 0, none⟩, 2, rfl, by simp, by decide, fun j x hj => ?_⟩
  match j, hj with
  | 0, hj =>
    obtain rfl : p = x := by simpa using hj
    refine ⟨⟨n, 0, none⟩, _, rfl, hn, rfl, fun i u hi => ?_, predR_imp (fun _ _ => rfl) (fun _ h => h) a (a + c) (by omega) _ _ ha⟩
    rw [add_plain, blk_cell hb]
    match i, hi with
    | 0, hi => exact hi
    | 1, hi => exact hi
    | 2, hi => exact hi
    | 3, hi => exact hi
  | 1, hj =>
    obtain rfl : q = x := by simpa using hj
    refine ⟨⟨n, 0, none⟩, _, rfl, hn, rfl, fun i u hi => ?_, predR_imp (fun _ _ => rfl) (fun _ h => h) c (a + c) (by omega) _ _ hc⟩
    rw [add_plain, blk_cell hb]
    match i, hi with
    | 0, hi => exact hi
    | 1, hi => exact hi
    | 2, hi => exact hi
    | 3, hi => exact hi
theorem preds_one {ok : Nat → Prop} {w : World} {p : Pred} {v1 u1 : Value} {n : Nat} (hb : w.heap[n]? = some (.cells #[.int .i64 p.kind, .int .i64 p.n, v1, u1] 41 (0, 0))) (hn : ok n)
    (h1 : StepsR ok w v1 p.path) (h2 : PredsR ok w u1 p.args) : PredsR ok w (.slice (some ⟨n, 0, none⟩) 1 1) [p] := by
  obtain ⟨a, ha⟩ := PredR.mk_ h1 h2
  refine ⟨a, some ⟨n, 0, none⟩, 1, rfl, by simp, by decide, fun j x hj => ?_⟩
  match j, hj with
  | 0, hj =>
    obtain rfl : p = x := by simpa using hj
    refine ⟨⟨n, 0, none⟩, _, rfl, hn, rfl, fun i u hi => ?_, ha⟩
    rw [add_plain, blk_cell hb]
    match i, hi with
    | 0, hi => exact hi
    | 1, hi => exact hi
    | 2, hi => exact hi
    | 3, hi => exact hi
theorem StT.move {b : Bool} {w w' : World} {g : Nat} {i : Int} {ts : List Tok} (h : StT b w g i ts) (hm : w'.heap[g]? = w.heap[g]?) : StT b w' g i ts := by
  obtain ⟨l, s, ho, hl, hd⟩ := h
  exact ⟨l, s, hm.trans ho, hl, hd⟩
theorem StW.move {w w' : World} {g : Nat} {i : Int} (h : StW w g i) (hm : w'.heap[g]? = w.heap[g]?) : StW w' g i := hm.trans h
theorem Ends.move {α : Type} {b : Bool} {w w' : World} {g : Nat} {i : Int} {o : Option (α × List Tok)} {x : α} (h : Ends b g i o x w) (hm : w'.heap[g]? = w.heap[g]?) : Ends b g i o x w' := by
  cases o with
  | none => exact StW.move h hm
  | some r => exact ⟨h.1, h.2.move hm⟩
theorem Vr.heap_ {w w' : World} (h : Vr w) (hm : w'.heap[4]? = w.heap[4]?) : Vr w' := by
  obtain ⟨ev, hc, he⟩ := h
  exact ⟨ev, (World.cell?_of_block hm).trans hc, he⟩
def PartC (F : FuncId) (Gp : Nat → Int → List Tok → Out Pred) (b : Bool) (g m : Nat) : Prop :=
  ∀ (i : Int) (ts : List Tok) (o : Option (Pred × List Tok)) (w : World), 0 ≤ i → i + (m : Int) ≤ 100000 → Vr w → StT b w g i ts → Gp m i ts = some o → Calls Tryz.prog F #[.pointer (some ⟨g, 0, none⟩)] w (PredPost b g i o w)
def PartW (F : FuncId) (b : Bool) (g : Nat) : Prop := ∀ (i : Int) (w : World), 0 ≤ i → i ≤ 100000 → Vr w → StW w g i → Calls Tryz.prog F #[.pointer (some ⟨g, 0, none⟩)] w (PredPost b g i none w)
def RowI (b : Bool) (g : Nat) (i : Int) (o : Option (Pred × List Tok)) (Gl : Nat → Int → Pred → List Tok → Out Pred) (w : World) (P k gk : Nat) (wr : World) : Prop :=
  ∃ (p : Pred) (A : Option Addr) (c : Nat) (B : Option Addr) (d : Nat), wr.heap[P]? = some (.cells #[.int .i64 p.kind, .int .i64 p.n, .slice A p.path.length c, .slice B p.args.length d] 41 (0, 0)) ∧
    StepsR (fun k => w.heap.size < k ∧ k ≠ P) wr (.slice A p.path.length c) p.path ∧ PredsR (fun k => w.heap.size < k ∧ k ≠ P) wr (.slice B p.args.length d) p.args ∧
    w.grownBy wr (some g) ∧ wr.heap[w.heap.size]? = some (.cells #[.int .i64 0, .int .i64 0, .slice none 0 0, .slice none 0 0] 41 (0, 0)) ∧ Vr wr ∧
    gk ≤ k ∧ ((∃ ts, StT b wr g i ts ∧ Gl gk i p ts = some o) ∨ (StW wr g i ∧ o = none))
theorem row_next (b : Bool) (g : Nat) (i : Int) (o : Option (Pred × List Tok)) (Gl : Nat → Int → Pred → List Tok → Out Pred) (w : World) (P k m : Nat) (kind : Int) (p x2 : Pred) (A B : Option Addr) (c d : Nat) (A2 B2 : Option Addr) (c2 d2 : Nat)
    (oq : Option (Pred × List Tok)) (wr w1 w5 w6 : World) (hg : 4 < g) (hlt : g < w.heap.size) (hP : w.heap.size < P) (hPr : P < wr.heap.size)
    (hs1 : StepsR (fun k => w.heap.size < k ∧ k ≠ P) wr (.slice A p.path.length c) p.path) (hs2 : PredsR (fun k => w.heap.size < k ∧ k ≠ P) wr (.slice B p.args.length d) p.args)
    (hgb : w.grownBy wr (some g)) (hg1 : wr.grownBy w1 (some g)) (hx : PGot b g i oq w1.drew x2 (.slice A2 x2.path.length c2) (.slice B2 x2.args.length d2) w5)
    (hn6 : w6.heap[w5.heap.size]? = some (.cells #[.int .i64 p.kind, .int .i64 p.n, .slice A p.path.length c, .slice B p.args.length d, .int .i64 x2.kind, .int .i64 x2.n, .slice A2 x2.path.length c2, .slice B2 x2.args.length d2] 41 (0, 0)))
    (hb6 : Below w5.heap.size w5 w6) (hp6 : w6.heap[P]? = some (.cells #[.int .i64 p.kind, .int .i64 p.n, .slice A p.path.length c, .slice B p.args.length d] 41 (0, 0)))
    (hr6 : w6.heap[w.heap.size]? = some (.cells #[.int .i64 0, .int .i64 0, .slice none 0 0, .slice none 0 0] 41 (0, 0))) (hv : Vr w1)
    (hc : (oq = none ∧ o = none) ∨ ∃ q t2, oq = some (q, t2) ∧ Gl m i ⟨kind, 0, [], [p, q]⟩ t2 = some o) (hm : m ≤ k) :
    RowI b g i o Gl w P k m ((((w6.setCell ⟨P, 0, none⟩ (.int .i64 kind)).setCell ⟨P, 1, none⟩ (.int .i64 0)).setCell ⟨P, 2, none⟩ (.slice none 0 0)).setCell ⟨P, 3, none⟩ (.slice (some ⟨w5.heap.size, 0, none⟩) 2 2)) := by
  obtain ⟨hx1, hx2, hx3, hx4⟩ := hx
  have hx3' : w1.grownBy w5 (some g) := ⟨hx3.os, hx3.tape, hx3.output, hx3.size, hx3.block⟩
  have hz1 := hg1.size
  have hz5 := hx3'.size
  have hz6 := hb6.size
  have hzr := hgb.size
  have hf := blk_put (blk_put (blk_put (blk_put hp6 0 (.int .i64 kind) rfl) 1 (.int .i64 0) rfl) 2 (.slice none 0 0) rfl) 3 (.slice (some ⟨w5.heap.size, 0, none⟩) 2 2) rfl
  have far : ∀ k', k' ≠ P → ((((w6.setCell ⟨P, 0, none⟩ (.int .i64 kind)).setCell ⟨P, 1, none⟩ (.int .i64 0)).setCell ⟨P, 2, none⟩ (.slice none 0 0)).setCell ⟨P, 3, none⟩ (.slice (some ⟨w5.heap.size, 0, none⟩) 2 2)).heap[k']? = w6.heap[k']? := fun k' hk => by
    rw [Below.heap_setCell _ _ _ _ hk, Below.heap_setCell _ _ _ _ hk, Below.heap_setCell _ _ _ _ hk, Below.heap_setCell _ _ _ _ hk]
  have hgbf : w.grownBy ((((w6.setCell ⟨P, 0, none⟩ (.int .i64 kind)).setCell ⟨P, 1, none⟩ (.int .i64 0)).setCell ⟨P, 2, none⟩ (.slice none 0 0)).setCell ⟨P, 3, none⟩ (.slice (some ⟨w5.heap.size, 0, none⟩) 2 2)) (some g) :=
    gb_setNew (gb_setNew (gb_setNew (gb_setNew (gb_below (gb_then (gb_then hgb hg1) hx3') hb6) (Nat.le_of_lt hP)) (Nat.le_of_lt hP)) (Nat.le_of_lt hP)) (Nat.le_of_lt hP)
  generalize ((((w6.setCell ⟨P, 0, none⟩ (.int .i64 kind)).setCell ⟨P, 1, none⟩ (.int .i64 0)).setCell ⟨P, 2, none⟩ (.slice none 0 0)).setCell ⟨P, 3, none⟩ (.slice (some ⟨w5.heap.size, 0, none⟩) 2 2)) = wf at hf far hgbf ⊢
  -- what lay there, lies there
  have old : ∀ k', k' ≠ P → k' ≠ g → k' < wr.heap.size → wf.heap[k']? = wr.heap[k']? := fun k' h1 h2 h3 => by
    rw [far k' h1, hb6.block k' (by omega), hx3'.block k' (by omega) (fun e => by injection e; omega), hg1.block k' h3 (fun e => by injection e; omega)]
  have new : ∀ k', w1.heap.size ≤ k' → k' < w5.heap.size → wf.heap[k']? = w5.heap[k']? := fun k' h1 h2 => by rw [far k' (by omega), hb6.block k' h2]
  have hgf : wf.heap[g]? = w5.heap[g]? := by rw [far g (by omega), hb6.block g (by omega)]
  refine ⟨⟨kind, 0, [], [p, x2]⟩, none, 0, some ⟨w5.heap.size, 0, none⟩, 2, hf, StepsR.nil _ _, ?_, hgbf, ?_, ?_, hm, ?_⟩
  · refine preds_two (by rw [far _ (by omega)]; exact hn6) ⟨by omega, by omega⟩ ?_ ?_ ?_ ?_
    · exact hs1.bound.imp_ (fun k' hk => old k' hk.1.2 (by have := hk.1.1; omega) hk.2) (fun k' hk => hk.1)
    · exact hs2.bound.imp_ (fun k' hk => old k' hk.1.2 (by have := hk.1.1; omega) hk.2) (fun k' hk => hk.1)
    · exact hx1.bound.imp_ (fun k' hk => new k' hk.1 hk.2) (fun k' hk => by have : w1.heap.size ≤ k' := hk.1; exact ⟨by omega, by omega⟩)
    · exact hx2.bound.imp_ (fun k' hk => new k' hk.1 hk.2) (fun k' hk => by have : w1.heap.size ≤ k' := hk.1; exact ⟨by omega, by omega⟩)
  · rw [far _ (by omega)]; exact hr6
  · exact hv.heap_ (by rw [far _ (by omega), hb6.block _ (by omega), hx3'.block _ (by omega) (fun e => by injection e; omega)])
  · rcases hc with ⟨rfl, rfl⟩ | ⟨q, t2, rfl, h2⟩
    · exact .inr ⟨StW.move hx4 hgf, rfl⟩
    · obtain ⟨rfl, h3⟩ := hx4
      exact .inl ⟨t2, h3.move hgf, h2⟩
theorem row_start (b : Bool) (g : Nat) (i : Int) (o o1 : Option (Pred × List Tok)) (Gl : Nat → Int → Pred → List Tok → Out Pred) (w w2 : World) (k : Nat) (x : Pred) (A B : Option Addr) (c d : Nat) (hg : 4 < g) (hlt : g < w.heap.size) (hv : Vr w)
    (hx : PGot b g i o1 (w.alloc (.cells #[.int .i64 0, .int .i64 0, .slice none 0 0, .slice none 0 0] 41)) x (.slice A x.path.length c) (.slice B x.args.length d) w2)
    (hc : (o1 = none ∧ o = none) ∨ ∃ q t2, o1 = some (q, t2) ∧ Gl k i q t2 = some o) :
    RowI b g i o Gl w w2.heap.size k k (w2.alloc (.cells #[.int .i64 x.kind, .int .i64 x.n, .slice A x.path.length c, .slice B x.args.length d] 41)) := by
  obtain ⟨hx1, hx2, hx3, hx4⟩ := hx
  have hz2 := hx3.size
  simp only [World.size_alloc] at hz2 hx1 hx2
  have hb : Below w2.heap.size w2 (w2.alloc (.cells #[.int .i64 x.kind, .int .i64 x.n, .slice A x.path.length c, .slice B x.args.length d] 41)) := below_alloc (Below.refl _ _) _
  have hgb : w.grownBy w2 (some g) := gb_then (World.grownBy_alloc _ _ _) hx3
  refine ⟨x, A, c, B, d, blk_new _ _, ?_, ?_, gb_below hgb hb, ?_, ?_, Nat.le_refl _, ?_⟩
  · exact hx1.bound.imp_ (fun k' hk => hb.block k' hk.2) (fun k' hk => ⟨by omega, by omega⟩)
  · exact hx2.bound.imp_ (fun k' hk => hb.block k' hk.2) (fun k' hk => ⟨by omega, by omega⟩)
  · exact blk_below (blk_grown (blk_new _ _) hx3 (fun e => by injection e; omega)) hb
  · exact hv.heap_ (by rw [hb.block _ (by omega), hgb.block _ (by omega) (fun e => by injection e; omega)])
  · have hm := hb.block g (by omega)
    rcases hc with ⟨rfl, rfl⟩ | ⟨q, t2, rfl, h2⟩
    · exact .inr ⟨StW.move hx4 hm, rfl⟩
    · obtain ⟨rfl, h3⟩ := hx4
      exact .inl ⟨t2, h3.move hm, h2⟩
set_option maxHeartbeats 1000000 in
set_option maxRecDepth 100000 in
theorem row_core (F : FuncId) (tok : Tok) (kind : Int) (Gp : Nat → Int → List Tok → Out Pred) (Gl : Nat → Int → Pred → List Tok → Out Pred) (b : Bool) (g k : Nat) (hz : 1 ≤ tok.size)
    (hGl : ∀ m i p ts, Gl (m + 1) i p ts = if ts.head? = some tok then Opt (adv b ts) fun t1 => (Gp m i t1).then_ fun q t2 => Gl m i ⟨kind, 0, [], [p, q]⟩ t2 else some (some (p, ts)))
    (hG0 : ∀ i p ts, Gl 0 i p ts = none) (IH : ∀ m, m ≤ k → PartC F Gp b g m) (WR : PartW F b g) (hcf : ∀ (x : Array Value) (w : World), Sem.run Tryz.prog (callFunc F x) w = .ok (.enter F x) w) (hg : 4 < g) (i : Int) (o o1 : Option (Pred × List Tok)) (w : World)
    (h0 : 0 ≤ i) (hi : i + k ≤ 100000) (hV : Vr w) (hlt : g < w.heap.size)
    (hcall : Calls Tryz.prog F #[.pointer (some ⟨g, 0, none⟩)] (w.alloc (.cells #[.int .i64 0, .int .i64 0, .slice none 0 0, .slice none 0 0] 41)) (PredPost b g i o1 (w.alloc (.cells #[.int .i64 0, .int .i64 0, .slice none 0 0, .slice none 0 0] 41))))
    (hc : (o1 = none ∧ o = none) ∨ ∃ q t2, o1 = some (q, t2) ∧ Gl k i q t2 = some o) :
    Calls Tryz.prog 83 #[.pointer (some ⟨g, 0, none⟩), .string tok, .int .i64 kind, .func (.func F) #[.pointer (some ⟨g, 0, none⟩)] #[]] w (PredPost b g i o w) := by
  have HGL := Aside0.mk hGl
  have HG0 := Aside0.mk hG0
  have HIH := Aside0.mk IH
  have HWR := Aside0.mk WR
  have HV := Aside0.mk hV
  have HC1 := Aside0.mk hc
  have hlt0 : Aside0 (g < w.heap.size) := ⟨hlt⟩
  clear hGl hG0 IH WR hV hc
  go_enter Tryz.func83, Tryz.ntmps83
  go_wp2
  refine hcall.mono ?_
  rintro e w2 ⟨x, A, c, B, d, rfl, hx⟩
  have HX := Aside0.mk hx
  clear hx hcall
  go_wp2
  generalize hP : w2.heap.size = P
  have HP := Aside0.mk hP
  go_loopg [12] k (fun gk _ wr => Aside0 (RowI b g i o Gl w P k gk wr))
  case atStart =>
    subst hP
    exact ⟨row_start b g i o o1 Gl w w2 k x _ _ _ _ hg hlt0.out HV.out HX.out HC1.out⟩
  case round =>
    obtain ⟨hrel⟩ := hrel
    obtain ⟨p, A, c, B, d, hp, hs1, hs2, hgb, hr0, hv, hgk, hst⟩ := hrel
    have c0 : wr.cell? ⟨P, 0, none⟩ = some (.int .i64 p.kind) := (blk_cell hp 0).trans rfl
    have c1 : wr.cell? ⟨P, 1, none⟩ = some (.int .i64 p.n) := (blk_cell hp 1).trans rfl
    have c2 : wr.cell? ⟨P, 2, none⟩ = some (.slice A p.path.length c) := (blk_cell hp 2).trans rfl
    have c3 : wr.cell? ⟨P, 3, none⟩ = some (.slice B p.args.length d) := (blk_cell hp 3).trans rfl
    by_cases hy : ∃ ts', StT b wr g i (tok :: ts') ∧ Gl gk i p (tok :: ts') = some o
    · obtain ⟨ts', hT, hG⟩ := hy
      obtain ⟨m, rfl⟩ : ∃ m, gk = m + 1 := by
        cases gk with
        | zero => rw [HG0.out] at hG; cases hG
        | succ m => exact ⟨m, rfl⟩
      rw [HGL.out, if_pos (List.head?_cons)] at hG
      have htk := takes_yes b g i tok ts' wr hT
      have HP1 := Aside0.mk hp
      have HS1 := Aside0.mk hs1
      have HS2 := Aside0.mk hs2
      have HGB := Aside0.mk hgb
      have HR0 := Aside0.mk hr0
      have HVr := Aside0.mk hv
      have HGK := Aside0.mk hgk
      have HG := Aside0.mk hG
      clear hp hs1 hs2 hgb hr0 hst hv hgk hG hT
      go_wp2_with (go_at_call 43; refine htk.mono ?_; rintro e w1 ⟨rfl, hg1, hst1⟩; have HG1 := Aside0.mk hg1; have HT1 := Aside0.mk hst1; clear hg1 hst1)
      have hPg : P ≠ g := by have := hlt0.out; have := (HX.out.2.2.1).size; simp at this; omega
      have hp1 := blk_grown HP1.out HG1.out (fun e => by injection e; exact hPg (by assumption))
      have hr1 := blk_grown HR0.out HG1.out (fun e => by injection e; have := hlt0.out; omega)
      have hv1 : Vr w1 := HVr.out.move HG1.out (fun k' e => by injection e; omega)
      obtain ⟨oq, hcall, hcont⟩ : ∃ oq, Calls Tryz.prog F #[.pointer (some ⟨g, 0, none⟩)] w1.drew (PredPost b g i oq w1.drew) ∧ ((oq = none ∧ o = none) ∨ ∃ q t2, oq = some (q, t2) ∧ Gl m i ⟨kind, 0, [], [p, q]⟩ t2 = some o) := by
        have hd : Below w1.heap.size w1 w1.drew := below_drew (Below.refl _ _)
        rcases Opt_some HG.out with ⟨h1, h2⟩ | ⟨t1, h1, h2⟩
        · have h3 := HT1.out
          rw [h1] at h3
          exact ⟨none, HWR.out i w1.drew h0 (by omega) (hv1.move (grown_of_below hd none) (fun _ e => by cases e)) (StW.below h3 hd), .inl ⟨rfl, h2⟩⟩
        · have h3 := HT1.out
          rw [h1] at h3
          have hIH := fun oq h => HIH.out m (by have := HGK.out; omega) i t1 oq w1.drew h0 (by have := HGK.out; omega) (hv1.move (grown_of_below hd none) (fun _ e => by cases e)) (StT.below h3 hd) h
          rcases then_some h2 with ⟨h4, h5⟩ | ⟨q, t2, h4, h5⟩
          · exact ⟨none, hIH none h4, .inl ⟨rfl, h5⟩⟩
          · exact ⟨some (q, t2), hIH _ h4, .inr ⟨q, t2, rfl, h5⟩⟩
      have c0 : w1.cell? ⟨P, 0, none⟩ = some (.int .i64 p.kind) := (blk_cell hp1 0).trans rfl
      have c1 : w1.cell? ⟨P, 1, none⟩ = some (.int .i64 p.n) := (blk_cell hp1 1).trans rfl
      have c2 : w1.cell? ⟨P, 2, none⟩ = some (.slice A p.path.length c) := (blk_cell hp1 2).trans rfl
      have c3 : w1.cell? ⟨P, 3, none⟩ = some (.slice B p.args.length d) := (blk_cell hp1 3).trans rfl
      have HC := Aside0.mk hcont
      have HP2 := Aside0.mk hp1
      have HR1 := Aside0.mk hr1
      have HV1 := Aside0.mk hv1
      clear hcont hp1 hr1 hv1
      refine B_region (fun w' => w'.cell? ⟨P, 0, none⟩ = some (.int .i64 p.kind) ∧ w'.cell? ⟨P, 1, none⟩ = some (.int .i64 p.n) ∧ w'.cell? ⟨P, 2, none⟩ = some (.slice A p.path.length c) ∧ w'.cell? ⟨P, 3, none⟩ = some (.slice B p.args.length d)) 6 (by kernel_rfl) ⟨c0, c1, c2, c3⟩ (fun hS0 => ?_)
      refine B_take 3 (i := 0) (v := .int .i64 kind) rfl (by kernel_rfl) (fun _ _ _ h => h) (by rfl) (fun w' hSw => ?_) hS0 ?_
      · obtain ⟨hs1, hs2, hs3, hs4⟩ := hSw; go_simp
      try simp only [Act.put, List.setIfInBounds_toArray, List.set_cons_zero, List.set_cons_succ]
      refine B_take 3 (i := 1) (v := .agg #[.int .i64 p.kind, .int .i64 p.n, .slice A p.path.length c, .slice B p.args.length d]) rfl (by kernel_rfl) (fun _ _ _ h => h) (by rfl) (fun w' hSw => ?_) hS0 ?_
      · obtain ⟨hs1, hs2, hs3, hs4⟩ := hSw; go_simp
      try simp only [Act.put, List.setIfInBounds_toArray, List.set_cons_zero, List.set_cons_succ]
      refine B_take 3 (i := 2) (v := .func (.func F) #[.pointer (some ⟨g, 0, none⟩)] #[]) rfl (by kernel_rfl) (fun _ _ _ h => h) (by rfl) (fun w' hSw => ?_) hS0 ?_
      · obtain ⟨hs1, hs2, hs3, hs4⟩ := hSw; go_simp
      try simp only [Act.put, List.setIfInBounds_toArray, List.set_cons_zero, List.set_cons_succ]
      refine B_one (i := 3) rfl (by kernel_rfl) (fun K' hK => ?_)
      go_simp
      refine hcall.mono ?_
      rintro e w5 ⟨x2, A2, c2', B2, d2, rfl, hx2⟩
      obtain ⟨hx21, hx22, hx23, hx24⟩ := hx2
      have q0 : w5.cell? ⟨P, 0, none⟩ = some (.int .i64 p.kind) := hx23.cell c0 (fun e => by injection e; exact hPg (by assumption))
      have q1 : w5.cell? ⟨P, 1, none⟩ = some (.int .i64 p.n) := hx23.cell c1 (fun e => by injection e; exact hPg (by assumption))
      have q2 : w5.cell? ⟨P, 2, none⟩ = some (.slice A p.path.length c) := hx23.cell c2 (fun e => by injection e; exact hPg (by assumption))
      have q3 : w5.cell? ⟨P, 3, none⟩ = some (.slice B p.args.length d) := hx23.cell c3 (fun e => by injection e; exact hPg (by assumption))
      refine hK.out _ _ ⟨q0, q1, q2, q3⟩ ?_
      clear hK K'
      try simp only [Act.put, List.setIfInBounds_toArray, List.set_cons_zero, List.set_cons_succ]
      refine B_one (i := 4) rfl (by kernel_rfl) (fun K' hK => ?_)
      go_simp
      have hp5 := blk_grown (w := w1.drew) HP2.out hx23 (fun e => by injection e; exact hPg (by assumption))
      have hr5 := blk_grown (w := w1.drew) HR1.out hx23 (fun e => by injection e; have := hlt0.out; omega)
      generalize hw6 : w5.alloc (.cells #[.int .i64 p.kind, .int .i64 p.n, .slice A p.path.length c, .slice B p.args.length d, .int .i64 x2.kind, .int .i64 x2.n, .slice A2 x2.path.length c2', .slice B2 x2.args.length d2] 41) = w6
      have hb6 : Below w5.heap.size w5 w6 := by rw [← hw6]; exact below_alloc (Below.refl _ _) _
      have hn6 : w6.heap[w5.heap.size]? = some (.cells #[.int .i64 p.kind, .int .i64 p.n, .slice A p.path.length c, .slice B p.args.length d, .int .i64 x2.kind, .int .i64 x2.n, .slice A2 x2.path.length c2', .slice B2 x2.args.length d2] 41 (0, 0)) := by rw [← hw6]; exact blk_new _ _
      have hp6 := blk_below hp5 hb6
      have hr6 := blk_below hr5 hb6
      have p0 : w6.cell? ⟨P, 0, none⟩ = some (.int .i64 p.kind) := (blk_cell hp6 0).trans rfl
      have p1 : w6.cell? ⟨P, 1, none⟩ = some (.int .i64 p.n) := (blk_cell hp6 1).trans rfl
      have p2 : w6.cell? ⟨P, 2, none⟩ = some (.slice A p.path.length c) := (blk_cell hp6 2).trans rfl
      have p3 : w6.cell? ⟨P, 3, none⟩ = some (.slice B p.args.length d) := (blk_cell hp6 3).trans rfl
      have g0 := blk_frozen hp6 0
      have g1 := blk_frozen hp6 1
      have g2 := blk_frozen hp6 2
      have g3 := blk_frozen hp6 3
      refine hK.out _ _ ⟨p0, p1, p2, p3⟩ ?_
      clear hK K' hw6
      try simp only [Act.put, List.setIfInBounds_toArray, List.set_cons_zero, List.set_cons_succ]
      refine B_one (i := 5) rfl (by kernel_rfl) (fun K' hK => ?_)
      go_simp
      refine hK.out _ _ ⟨p0, p1, p2, p3⟩ ?_
      clear hK K'
      try simp only [Act.put, List.setIfInBounds_toArray, List.set_cons_zero, List.set_cons_succ]
      refine B_tail 6 rfl (by decide) (by kernel_rfl) ?_
      simp only [List.drop_succ_cons, List.drop_zero]
      have HX2 := Aside0.mk (And.intro hx21 (And.intro hx22 (And.intro hx23 hx24)))
      have HN6 := Aside0.mk hn6
      have HB6 := Aside0.mk hb6
      have HP6 := Aside0.mk hp6
      have HR6 := Aside0.mk hr6
      clear hx21 hx22 hx23 hx24 hn6 hb6 hp6 hr6 hp5 hr5 c0 c1 c2 c3 q0 q1 q2 q3 hS0
      go_wp2
      go_roundg m
      case measure => omega
      case rel =>
        refine ⟨row_next b g i o Gl w P k m kind p x2 A B c d A2 B2 c2' d2 oq wr w1 w5 w6 hg hlt0.out ?_ (blk_lt HP1.out) HS1.out HS2.out HGB.out HG1.out HX2.out HN6.out HB6.out HP6.out HR6.out HV1.out HC.out (by have := HGK.out; omega)⟩
        have := HX.out.2.2.1.size
        simp only [World.size_alloc] at this
        omega
    · have htk : Calls Tryz.prog 43 #[.pointer (some ⟨g, 0, none⟩), .string tok] wr fun e w' => e = .returned (.bool false) ∧ wr = w' := by
        rcases hst with ⟨ts1, h1, h2⟩ | ⟨h1, _⟩
        · refine takes_st b g i tok ts1 wr h1 (fun hh => hy ?_)
          cases ts1 with
          | nil => simp at hh
          | cons a l => simp at hh; subst hh; exact ⟨l, h1, h2⟩
        · exact takes_w g i tok wr h1
      have e0 : wr.cell? ⟨w.heap.size, 0, none⟩ = some (.int .i64 0) := (blk_cell hr0 0).trans rfl
      have e1 : wr.cell? ⟨w.heap.size, 1, none⟩ = some (.int .i64 0) := (blk_cell hr0 1).trans rfl
      have e2 : wr.cell? ⟨w.heap.size, 2, none⟩ = some (.slice none 0 0) := (blk_cell hr0 2).trans rfl
      have e3 : wr.cell? ⟨w.heap.size, 3, none⟩ = some (.slice none 0 0) := (blk_cell hr0 3).trans rfl
      have f0 := blk_frozen hr0 0
      have f1 := blk_frozen hr0 1
      have f2 := blk_frozen hr0 2
      have f3 := blk_frozen hr0 3
      have HP1 := Aside0.mk hp
      have HS1 := Aside0.mk hs1
      have HS2 := Aside0.mk hs2
      have HGB := Aside0.mk hgb
      have HR0 := Aside0.mk hr0
      have HST := Aside0.mk hst
      have HY := Aside0.mk hy
      clear hp hs1 hs2 hgb hr0 hst hv hy
      go_wp2_with (go_at_call 43; refine htk.mono ?_; rintro e w' ⟨rfl, rfl⟩)
      have HF : Aside0 (((((wr.setCell ⟨w.heap.size, 0, none⟩ (.int .i64 p.kind)).setCell ⟨w.heap.size, 1, none⟩ (.int .i64 p.n)).setCell ⟨w.heap.size, 2, none⟩ (.slice A p.path.length c)).setCell ⟨w.heap.size, 3, none⟩ (.slice B p.args.length d)).heap[w.heap.size]? = some (.cells #[.int .i64 p.kind, .int .i64 p.n, .slice A p.path.length c, .slice B p.args.length d] 41 (0, 0))) :=
        ⟨blk_put (blk_put (blk_put (blk_put HR0.out 0 _ rfl) 1 _ rfl) 2 _ rfl) 3 _ rfl⟩
      generalize hw9 : (((wr.setCell ⟨w.heap.size, 0, none⟩ (.int .i64 p.kind)).setCell ⟨w.heap.size, 1, none⟩ (.int .i64 p.n)).setCell ⟨w.heap.size, 2, none⟩ (.slice A p.path.length c)).setCell ⟨w.heap.size, 3, none⟩ (.slice B p.args.length d) = w9 at HF ⊢
      have q0 : w9.cell? ⟨w.heap.size, 0, none⟩ = some (.int .i64 p.kind) := (blk_cell HF.out 0).trans rfl
      have q1 : w9.cell? ⟨w.heap.size, 1, none⟩ = some (.int .i64 p.n) := (blk_cell HF.out 1).trans rfl
      have q2 : w9.cell? ⟨w.heap.size, 2, none⟩ = some (.slice A p.path.length c) := (blk_cell HF.out 2).trans rfl
      have q3 : w9.cell? ⟨w.heap.size, 3, none⟩ = some (.slice B p.args.length d) := (blk_cell HF.out 3).trans rfl
      refine bodyPost_ret (v := .agg #[.int .i64 p.kind, .int .i64 p.n, .slice A p.path.length c, .slice B p.args.length d]) (by simp [results, Tryz.results83, go_sem, q0, q1, q2, q3]) rfl ?_
      have far : ∀ k', k' ≠ w.heap.size → w9.heap[k']? = wr.heap[k']? := by
        intro k' hk
        rw [← hw9, Below.heap_setCell _ _ _ _ hk, Below.heap_setCell _ _ _ _ hk, Below.heap_setCell _ _ _ _ hk, Below.heap_setCell _ _ _ _ hk]
      refine ⟨p, A, c, B, d, rfl, HS1.out.imp_ (fun k' hk => far k' (by omega)) (fun k' hk => by omega), HS2.out.imp_ (fun k' hk => far k' (by omega)) (fun k' hk => by omega), ?_, ?_⟩
      · rw [← hw9]
        exact gb_setNew (gb_setNew (gb_setNew (gb_setNew HGB.out (Nat.le_refl _)) (Nat.le_refl _)) (Nat.le_refl _)) (Nat.le_refl _)
      · have hm : w9.heap[g]? = wr.heap[g]? := far g (by have := hlt0.out; omega)
        rcases HST.out with ⟨ts1, h1, h2⟩ | ⟨h1, rfl⟩
        · have hne : ts1.head? ≠ some tok := fun hh => HY.out (by
            cases ts1 with
            | nil => simp at hh
            | cons a l => simp at hh; subst hh; exact ⟨l, h1, h2⟩)
          obtain ⟨m, rfl⟩ : ∃ m, gk = m + 1 := by
            cases gk with
            | zero => rw [HG0.out] at h2; cases h2
            | succ m => exact ⟨m, rfl⟩
          rw [HGL.out, if_neg hne] at h2
          obtain rfl := Option.some.inj h2
          exact ⟨rfl, h1.move hm⟩
        · exact StW.move h1 hm
theorem row_any (F : FuncId) (tok : Tok) (kind : Int) (Gp : Nat → Int → List Tok → Out Pred) (Gl : Nat → Int → Pred → List Tok → Out Pred) (b : Bool) (g k : Nat) (hz : 1 ≤ tok.size)
    (hGl : ∀ m i p ts, Gl (m + 1) i p ts = if ts.head? = some tok then Opt (adv b ts) fun t1 => (Gp m i t1).then_ fun q t2 => Gl m i ⟨kind, 0, [], [p, q]⟩ t2 else some (some (p, ts)))
    (hG0 : ∀ i p ts, Gl 0 i p ts = none) (IH : ∀ m, m ≤ k → PartC F Gp b g m) (WR : PartW F b g) (hcf : ∀ (x : Array Value) (w : World), Sem.run Tryz.prog (callFunc F x) w = .ok (.enter F x) w) (hg : 4 < g) (i : Int) (ts : List Tok) (o : Option (Pred × List Tok)) (w : World)
    (h0 : 0 ≤ i) (hi : i + k ≤ 100000) (hV : Vr w) (h : StT b w g i ts) (hr : (Gp k i ts).then_ (fun p t1 => Gl k i p t1) = some o) :
    Calls Tryz.prog 83 #[.pointer (some ⟨g, 0, none⟩), .string tok, .int .i64 kind, .func (.func F) #[.pointer (some ⟨g, 0, none⟩)] #[]] w (PredPost b g i o w) := by
  have hlt : g < w.heap.size := by obtain ⟨_, _, ho, _⟩ := h; exact blk_lt ho
  have hcall := fun o1 h1 => IH k (Nat.le_refl _) i ts o1 (w.alloc (.cells #[.int .i64 0, .int .i64 0, .slice none 0 0, .slice none 0 0] 41)) h0 hi (hV.move (World.grownBy_alloc _ _ none) (fun _ e => by cases e)) (h.below (below_alloc (Below.refl _ _) _)) h1
  rcases then_some hr with ⟨h1, h2⟩ | ⟨q, t2, h1, h2⟩
  · exact row_core F tok kind Gp Gl b g k hz hGl hG0 IH WR hcf hg i o none w h0 hi hV hlt (hcall _ h1) (.inl ⟨rfl, h2⟩)
  · exact row_core F tok kind Gp Gl b g k hz hGl hG0 IH WR hcf hg i o (some (q, t2)) w h0 hi hV hlt (hcall _ h1) (.inr ⟨q, t2, rfl, h2⟩)
theorem row_w (F : FuncId) (tok : Tok) (kind : Int) (b : Bool) (g : Nat) (hz : 1 ≤ tok.size) (WR : PartW F b g) (hcf : ∀ (x : Array Value) (w : World), Sem.run Tryz.prog (callFunc F x) w = .ok (.enter F x) w) (hg : 4 < g) (i : Int) (w : World) (h0 : 0 ≤ i) (hi : i ≤ 100000) (hV : Vr w) (h : StW w g i) :
    Calls Tryz.prog 83 #[.pointer (some ⟨g, 0, none⟩), .string tok, .int .i64 kind, .func (.func F) #[.pointer (some ⟨g, 0, none⟩)] #[]] w (PredPost b g i none w) :=
  row_core F tok kind (fun _ _ _ => none) (fun m _ p ts => match m with | 0 => none | _ + 1 => if ts.head? = some tok then (if adv b ts = none then some none else none) else some (some (p, ts))) b g 0 hz
    (fun m i p ts => by cases hx : adv b ts <;> simp [Opt, Out.then_]) (fun _ _ _ => rfl) (fun m hm i ts o w _ _ _ _ h => by cases h) WR hcf hg i none none w h0 (by simpa using hi) hV (blk_lt h)
    (WR i _ h0 hi (hV.move (World.grownBy_alloc _ _ none) (fun _ e => by cases e)) (StW.below h (below_alloc (Below.refl _ _) _))) (.inl ⟨rfl, rfl⟩)
end Go.Proofs.YtoanmoddppmffaaGreatDoor.T
