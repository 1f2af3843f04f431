/- step. -/
import Derived.Test.YtoanmoddppmffaaGreatDoorXQk
import Derived.Deep.Cut
import Derived.Deep.CutBlock
import Derived.Deep.DeepCutAuto
namespace Go.Proofs.YtoanmoddppmffaaGreatDoor.T
open Go.RowKit Go.Shelf Go.Proofs.YtoanmoddppmffaaGreatDoorW.PrintWords
set_option linter.unusedVariables false
set_option linter.unusedSimpArgs false
def HeadI (b : Bool) (g : Nat) (i : Int) (oh : Option ((Int × ByteArray) × List Tok)) (w : World) (wx : World) : Prop :=
  ∃ (ax : Int) (nm : ByteArray), wx.heap[w.heap.size + 1]? = some (.cells #[.bool false, .int .i64 ax, .string nm, .slice none 0 0] 39 (0, 0)) ∧
    wx.heap[w.heap.size]? = some (.cells #[.bool false, .int .i64 0, .string ⟨#[]⟩, .slice none 0 0] 39 (0, 0)) ∧ w.grownBy wx (some g) ∧ Vr wx ∧
    (match oh with | some (h, t1) => h = (ax, nm) ∧ StT b wx g i t1 | none => StW wx g i)
def BF (g : Nat) (w wy : World) : Prop :=
  wy.heap[w.heap.size + 1]? = some (.cells #[.bool false, .int .i64 0, .string ⟨#[]⟩, .slice none 0 0] 39 (0, 0)) ∧ wy.heap[w.heap.size]? = some (.cells #[.bool false, .int .i64 0, .string ⟨#[]⟩, .slice none 0 0] 39 (0, 0)) ∧ w.grownBy wy (some g) ∧ Vr wy
theorem BF.grown {g : Nat} {w wy wz : World} (h : BF g w wy) (hz : wy.grownBy wz (some g)) (hlt : g < w.heap.size) (hg : 4 < g) : BF g w wz :=
  ⟨blk_grown h.1 hz (fun e => by injection e; omega), blk_grown h.2.1 hz (fun e => by injection e; omega), gb_then h.2.2.1 hz, h.2.2.2.move hz (fun k e => by injection e; omega)⟩
theorem BF.below {g : Nat} {w wy wz : World} (h : BF g w wy) (hz : Below wy.heap.size wy wz) : BF g w wz :=
  ⟨blk_below h.1 hz, blk_below h.2.1 hz, gb_below h.2.2.1 hz, h.2.2.2.move (grown_of_below hz none) (fun k e => by cases e)⟩
def HeadEnd (b : Bool) (g : Nat) (i : Int) (oh : Option ((Int × ByteArray) × List Tok)) (ax : Int) (nm : ByteArray) (wy : World) : Prop :=
  match oh with | some (h, t1) => h = (ax, nm) ∧ StT b wy g i t1 | none => StW wy g i
theorem BF.axis {b : Bool} {g : Nat} {i : Int} {oh : Option ((Int × ByteArray) × List Tok)} {w wy : World} (h : BF g w wy) (hlt : g < w.heap.size) (hg : 4 < g) (ax : Int) (he : HeadEnd b g i oh ax ⟨#[]⟩ wy) : HeadI b g i oh w (wy.setCell ⟨w.heap.size + 1, 1, none⟩ (.int .i64 ax)) := by
  obtain ⟨h1, h2, h3, h4⟩ := h
  have far : ∀ k, k ≠ w.heap.size + 1 → (wy.setCell ⟨w.heap.size + 1, 1, none⟩ (.int .i64 ax)).heap[k]? = wy.heap[k]? := fun k hk => Below.heap_setCell _ _ _ _ hk
  refine ⟨ax, ⟨#[]⟩, blk_put h1 1 (.int .i64 ax) rfl, (far _ (by omega)).trans h2, gb_setNew h3 (by simp), h4.heap_ (far _ (by omega)), ?_⟩
  unfold HeadEnd at he
  cases oh with
  | none => exact StW.move he (far _ (by omega))
  | some r => exact ⟨he.1, he.2.move (far _ (by omega))⟩
theorem BF.both {b : Bool} {g : Nat} {i : Int} {oh : Option ((Int × ByteArray) × List Tok)} {w wy : World} (h : BF g w wy) (hlt : g < w.heap.size) (hg : 4 < g) (ax : Int) (nm : ByteArray) (he : HeadEnd b g i oh ax nm wy) :
    HeadI b g i oh w ((wy.setCell ⟨w.heap.size + 1, 1, none⟩ (.int .i64 ax)).setCell ⟨w.heap.size + 1, 2, none⟩ (.string nm)) := by
  obtain ⟨h1, h2, h3, h4⟩ := h
  have far : ∀ k, k ≠ w.heap.size + 1 → ((wy.setCell ⟨w.heap.size + 1, 1, none⟩ (.int .i64 ax)).setCell ⟨w.heap.size + 1, 2, none⟩ (.string nm)).heap[k]? = wy.heap[k]? := fun k hk => by
    rw [Below.heap_setCell _ _ _ _ hk, Below.heap_setCell _ _ _ _ hk]
  refine ⟨ax, nm, blk_put (blk_put h1 1 (.int .i64 ax) rfl) 2 (.string nm) rfl, (far _ (by omega)).trans h2, gb_setNew (gb_setNew h3 (by simp)) (by simp), h4.heap_ (far _ (by omega)), ?_⟩
  unfold HeadEnd at he
  cases oh with
  | none => exact StW.move he (far _ (by omega))
  | some r => exact ⟨he.1, he.2.move (far _ (by omega))⟩
theorem end_map {b : Bool} {g : Nat} {i : Int} {o : Option (List Tok)} {ax : Int} {nm : ByteArray} {wy : World} (h : StO b wy g i o) : HeadEnd b g i (o.map fun r => ((ax, nm), r)) ax nm wy := by
  cases o with
  | none => exact h
  | some r => exact ⟨rfl, h⟩
theorem end_named {b : Bool} {g : Nat} {i : Int} {o : Option (ByteArray × List Tok)} {ax : Int} {s : ByteArray} {wy : World} (h : match o with | some (nm, ts) => s = nm ∧ StT b wy g i ts | none => StW wy g i) : HeadEnd b g i (o.map fun r => ((ax, r.1), r.2)) ax s wy := by
  cases o with
  | none => exact h
  | some r => exact ⟨by rw [h.1], h.2⟩
theorem StO.obj {b : Bool} {w : World} {g : Nat} {i : Int} {o : Option (List Tok)} (h : StO b w g i o) : ∃ l s x, w.heap[g]? = some (rdO l s i x) := by
  cases o with
  | none => exact ⟨_, _, _, h⟩
  | some ts => obtain ⟨l, s, ho, _⟩ := h; exact ⟨l, s, _, ho⟩
theorem StO.inner {b : Bool} {w : World} {g : Nat} {i : Int} {o : Option (List Tok)} (h : StO b w g i o) (j : Int) : StO b (w.setCell ⟨g, 2, none⟩ (.int .i64 j)) g j o := by
  cases o with
  | none => exact blk_put (show w.heap[g]? = some (rdO ⟨#[]⟩ ⟨#[]⟩ i true) from h) 2 (.int .i64 j) rfl
  | some ts =>
    obtain ⟨l, s, ho, hl, hd⟩ := h
    exact ⟨l, s, blk_put ho 2 (.int .i64 j) rfl, hl, hd⟩
def StepI (b : Bool) (g : Nat) (i : Int) (o : Option (Step × List Tok)) (ax : Int) (nm : ByteArray) (w : World) (k gk : Nat) (wr : World) : Prop :=
  ∃ (ps : List Pred) (A : Option Addr) (c : Nat), wr.heap[w.heap.size + 1]? = some (.cells #[.bool false, .int .i64 ax, .string nm, .slice A ps.length c] 39 (0, 0)) ∧ OwnR PredR 41 (w.heap.size + 2) wr (.slice A ps.length c) ps ∧
    wr.heap[w.heap.size]? = some (.cells #[.bool false, .int .i64 0, .string ⟨#[]⟩, .slice none 0 0] 39 (0, 0)) ∧ w.grownBy wr (some g) ∧ Vr wr ∧ gk ≤ k ∧ ps.length + gk ≤ k ∧ w.heap.size + 2 ≤ wr.heap.size ∧
    ((∃ ts r, StT b wr g (i + 1) ts ∧ predsG b gk (i + 1) ts = some r ∧ o = r.map fun q => ((⟨false, ax, nm, ps ++ q.1⟩ : Step), q.2)) ∨ (StW wr g (i + 1) ∧ o = none))
theorem step_start (b : Bool) (g : Nat) (i : Int) (ts : List Tok) (o : Option (Step × List Tok)) (w wc : World) (k : Nat) (hg : 4 < g) (hlt : g < w.heap.size) (hr : stepG b (k + 1) i ts = some o) (hc : HeadI b g i (headG b ts) w wc) :
    ∃ (ax : Int) (nm : ByteArray) (oh : Option (List Tok)), StO b wc g i oh ∧ (∀ wx, wc.grownBy wx (some g) → StO b wx g (i + 1) oh → StepI b g i o ax nm w k k wx) := by
  obtain ⟨ax, nm, hS, hR, hgb, hv, he⟩ := hc
  have hsz := blk_lt hS
  simp only [stepG] at hr
  refine ⟨ax, nm, (headG b ts).map Prod.snd, ?_, ?_⟩
  · cases hh : headG b ts with
    | none => rw [hh] at he; exact he
    | some r => rw [hh] at he; exact he.2
  · intro wx hgx hst
    have hlx := hgx.size
    refine ⟨[], none, 0, blk_grown hS hgx (fun e => by injection e; omega), OwnR.nil _ _ _ _, blk_grown hR hgx (fun e => by injection e; omega), gb_then hgb hgx, hv.move hgx (fun k' e => by injection e; omega), Nat.le_refl _, by simp, by omega, ?_⟩
    rcases Opt_some hr with ⟨h1, rfl⟩ | ⟨h, h1, h2⟩
    · rw [h1] at hst; exact .inr ⟨hst, rfl⟩
    · rw [h1] at hst he
      obtain ⟨he1, _⟩ := he
      have hst' : StT b wx g (i + 1) h.2 := hst
      rcases then_some h2 with ⟨h3, rfl⟩ | ⟨ps, t2, h3, h4⟩
      · exact .inl ⟨h.2, none, hst', h3, rfl⟩
      · refine .inl ⟨h.2, some (ps, t2), hst', h3, ?_⟩
        rw [← Option.some.inj h4, he1]; rfl
theorem step_round {b : Bool} {m : Nat} {i : Int} {o : Option (Step × List Tok)} {ax : Int} {nm : ByteArray} {ps : List Pred} {ts' : List Tok} {r : Option (List Pred × List Tok)}
    (hG : predsG b (m + 1) (i + 1) (tLb :: ts') = some r) (ho : o = r.map fun q => ((⟨false, ax, nm, ps ++ q.1⟩ : Step), q.2)) :
    ∃ o', WithinR b tLb tRb (predG b) m (i + 1) (if i + 1 > 2 then none else some (tLb :: ts')) o' ∧
      ((o' = none ∧ o = none) ∨ ∃ p t3 r2, o' = some (p, t3) ∧ predsG b m (i + 1) t3 = some r2 ∧ o = r2.map fun q => ((⟨false, ax, nm, (ps ++ [p]) ++ q.1⟩ : Step), q.2)) := by
  simp only [predsG] at hG
  rw [if_pos (List.head?_cons)] at hG
  by_cases hi : i + 1 > 2
  · rw [if_pos hi] at hG ⊢
    obtain rfl := Option.some.inj hG
    exact ⟨none, .inl ⟨rfl, rfl⟩, .inl ⟨rfl, ho⟩⟩
  · rw [if_neg hi] at hG ⊢
    have hn : (some (tLb :: ts')).bind (need b tLb) = adv b (tLb :: ts') := by simp [need]
    rcases Opt_some hG with ⟨h1, rfl⟩ | ⟨t1, h1, h2⟩
    · exact ⟨none, .inl ⟨hn.trans h1, rfl⟩, .inl ⟨rfl, ho⟩⟩
    · rcases then_some h2 with ⟨h3, rfl⟩ | ⟨p, t2, h3, h4⟩
      · exact ⟨none, .inr ⟨t1, hn.trans h1, .inl ⟨h3, rfl⟩⟩, .inl ⟨rfl, ho⟩⟩
      · rcases Opt_some h4 with ⟨h5, rfl⟩ | ⟨t3, h5, h6⟩
        · exact ⟨none, .inr ⟨t1, hn.trans h1, .inr ⟨p, t2, h3, by rw [h5]; rfl⟩⟩, .inl ⟨rfl, ho⟩⟩
        · refine ⟨some (p, t3), .inr ⟨t1, hn.trans h1, .inr ⟨p, t2, h3, by rw [h5]; rfl⟩⟩, ?_⟩
          rcases then_some h6 with ⟨h7, rfl⟩ | ⟨qs, t4, h7, h8⟩
          · exact .inr ⟨p, t3, none, rfl, h7, ho⟩
          · refine .inr ⟨p, t3, some (qs, t4), rfl, h7, ?_⟩
            rw [ho, ← Option.some.inj h8]
            simp
theorem step_exit {b : Bool} {g : Nat} {i : Int} {o : Option (Step × List Tok)} {ax : Int} {nm : ByteArray} {gk : Nat} {wr : World} {ps : List Pred}
    (hst : (∃ ts r, StT b wr g (i + 1) ts ∧ predsG b gk (i + 1) ts = some r ∧ o = r.map fun q => ((⟨false, ax, nm, ps ++ q.1⟩ : Step), q.2)) ∨ (StW wr g (i + 1) ∧ o = none))
    (hn : ¬ ∃ ts' r, StT b wr g (i + 1) (tLb :: ts') ∧ predsG b gk (i + 1) (tLb :: ts') = some r ∧ o = r.map fun q => ((⟨false, ax, nm, ps ++ q.1⟩ : Step), q.2)) :
    ∃ oe l s x, StO b wr g (i + 1) oe ∧ (o = oe.map fun t => ((⟨false, ax, nm, ps⟩ : Step), t)) ∧ wr.heap[g]? = some (rdO l s (i + 1) x) ∧ (s.toList == [91]) = false := by
  rcases hst with ⟨ts, r, h1, h2, h3⟩ | ⟨h1, rfl⟩
  · have hne : ts.head? ≠ some tLb := fun hh => hn (by
      cases ts with
      | nil => simp at hh
      | cons a l => simp at hh; subst hh; exact ⟨l, r, h1, h2, h3⟩)
    cases gk with
    | zero => simp only [predsG] at h2; cases h2
    | succ m =>
      simp only [predsG] at h2
      rw [if_neg hne] at h2
      obtain ⟨l, s, ho, hl, hd⟩ := id h1
      refine ⟨some ts, l, s, false, h1, ?_, ho, ?_⟩
      · rw [h3, ← Option.some.inj h2]; simp
      · rw [beq_eq_false_iff_ne, toList_data]
        intro e
        have e1 : s = tLb := bs_ext e
        cases ts with
        | nil => rw [hd.2] at e1; exact absurd e1 (by decide)
        | cons t ts => exact hne (by rw [List.head?_cons, ← hd.1, e1])
  · refine ⟨none, _, _, _, h1, rfl, h1, ?_⟩
    rw [beq_eq_false_iff_ne, toList_data]
    exact fun e => by cases e
set_option maxHeartbeats 2000000 in
set_option maxRecDepth 100000 in
theorem step_step (b : Bool) (g k : Nat) (hg : 4 < g) (IH : ∀ m, m < k → PartC 63 (predG b) b g m) : StepC b g (k + 1) := by
  intro i ts o w h0 hi hV h hr
  have hlt : g < w.heap.size := by obtain ⟨_, _, ho, _⟩ := h; exact blk_lt ho
  go_enter Tryz.func42, Tryz.ntmps42
  go_upto_block 0 with fail
  go_outline
  go_cut [8] (fun _ wx => Aside0 (HeadI b g i (headG b ts) w wx))
  case first =>
    have hbf : BF g w ((w.alloc (.cells #[.bool false, .int .i64 0, .string ⟨#[]⟩, .slice none 0 0] 39)).alloc (.cells #[.bool false, .int .i64 0, .string ⟨#[]⟩, .slice none 0 0] 39)) :=
      ⟨by have := blk_new (w.alloc (.cells #[.bool false, .int .i64 0, .string ⟨#[]⟩, .slice none 0 0] 39)) (.cells #[.bool false, .int .i64 0, .string ⟨#[]⟩, .slice none 0 0] 39); simpa using this, blk_alloc (blk_new _ _) _, gb_alloc (gb_alloc (gb_refl _ _) _) _, (hV.move (World.grownBy_alloc _ _ none) (fun _ e => by cases e)).move (World.grownBy_alloc _ _ none) (fun _ e => by cases e)⟩
    have hT := (h.below (below_alloc (Below.refl _ _) (.cells #[.bool false, .int .i64 0, .string ⟨#[]⟩, .slice none 0 0] 39))).below (below_alloc (Below.refl _ _) (.cells #[.bool false, .int .i64 0, .string ⟨#[]⟩, .slice none 0 0] 39))
    generalize (w.alloc (.cells #[.bool false, .int .i64 0, .string ⟨#[]⟩, .slice none 0 0] 39)).alloc (.cells #[.bool false, .int .i64 0, .string ⟨#[]⟩, .slice none 0 0] 39) = w0 at hbf hT ⊢
    have HBF := Aside0.mk hbf
    have HLT := Aside0.mk hlt
    clear hV h hr IH hlt hbf
    by_cases c1 : ts.head? = some tDot
    · obtain ⟨ts', rfl⟩ : ∃ ts', ts = tDot :: ts' := by
        cases ts with
        | nil => simp at c1
        | cons a l => simp at c1; exact ⟨l, by rw [c1]⟩
      have htk := takes_yes b g i tDot ts' w0 hT
      have HH : Aside0 (headG b (tDot :: ts') = (adv b (tDot :: ts')).map fun r => ((4, ⟨#[]⟩), r)) := ⟨by unfold headG; rw [if_pos c1]⟩
      clear c1 hT
      go_wp2_with fail
      go_at_call 43
      refine htk.mono ?_
      rintro e w1 ⟨rfl, hg1, hs1⟩
      have hbf1 := HBF.out.grown hg1 HLT.out hg
      have s1 : w1.cell? ⟨w.heap.size + 1, 1, none⟩ = some (.int .i64 0) := (blk_cell hbf1.1 1).trans rfl
      have sf1 := blk_frozen hbf1.1 1
      have HB1 := Aside0.mk hbf1
      have HS1 := Aside0.mk hs1
      clear hg1 hs1 hbf1 htk
      go_wp2_with fail
      go_meet
      case rel => exact ⟨by rw [HH.out]; exact HB1.out.axis HLT.out hg 4 (end_map HS1.out)⟩
    · have hn1 := takes_st b g i tDot ts w0 hT c1
      by_cases c2 : ts.head? = some tDd
      · obtain ⟨ts', rfl⟩ : ∃ ts', ts = tDd :: ts' := by
          cases ts with
          | nil => simp at c2
          | cons a l => simp at c2; exact ⟨l, by rw [c2]⟩
        have htk := takes_yes b g i tDd ts' w0 hT
        have HH : Aside0 (headG b (tDd :: ts') = (adv b (tDd :: ts')).map fun r => ((5, ⟨#[]⟩), r)) := ⟨by unfold headG; rw [if_neg c1, if_pos c2]⟩
        clear c1 c2 hT
        go_wp2_with fail
        go_at_call 43
        refine hn1.mono ?_
        rintro e w1 ⟨rfl, rfl⟩
        go_wp2_with fail
        go_at_call 43
        refine htk.mono ?_
        rintro e w1 ⟨rfl, hg1, hs1⟩
        have hbf1 := HBF.out.grown hg1 HLT.out hg
        have s1 : w1.cell? ⟨w.heap.size + 1, 1, none⟩ = some (.int .i64 0) := (blk_cell hbf1.1 1).trans rfl
        have sf1 := blk_frozen hbf1.1 1
        have HB1 := Aside0.mk hbf1
        have HS1 := Aside0.mk hs1
        clear hg1 hs1 hbf1 htk
        go_wp2_with fail
        go_meet
        case rel => exact ⟨by rw [HH.out]; exact HB1.out.axis HLT.out hg 5 (end_map HS1.out)⟩
      · have hn2 := takes_st b g i tDd ts w0 hT c2
        have hcl := called_any b g i tText ts w0 hT (by decide)
        by_cases c3 : ts.head? = some tText ∧ ts[1]? = some tLp
        · obtain ⟨ts', rfl⟩ : ∃ ts', ts = tText :: ts' := by
            have c4 := c3.1
            cases ts with
            | nil => simp at c4
            | cons a l => simp at c4; exact ⟨l, by rw [c4]⟩
          have HH : Aside0 (headG b (tText :: ts') = (((adv b (tText :: ts')).bind fun t1 => need b tLp t1).bind fun t2 => need b tRp t2).map fun r => ((3, ⟨#[]⟩), r)) := ⟨by
            unfold headG; rw [if_neg c1, if_neg c2, if_pos c3]
            cases adv b (tText :: ts') with
            | none => rfl
            | some t1 => simp only [Option.bind_some]; cases need b tLp t1 <;> rfl⟩
          have e3 : isCalled tText (tText :: ts') = true := decide_eq_true c3
          rw [e3] at hcl
          have HT := Aside0.mk hT
          clear c1 c2 c3 hT e3
          go_wp2_with fail
          go_at_call 43
          refine hn1.mono ?_
          rintro e w1 ⟨rfl, rfl⟩
          go_wp2_with fail
          go_at_call 43
          refine hn2.mono ?_
          rintro e w1 ⟨rfl, rfl⟩
          go_wp2_with fail
          go_at_call 59
          refine hcl.mono ?_
          rintro e w1 ⟨rfl, hb1⟩
          have hbf1 := HBF.out.below hb1
          have s1 : w1.cell? ⟨w.heap.size + 1, 1, none⟩ = some (.int .i64 0) := (blk_cell hbf1.1 1).trans rfl
          have sf1 := blk_frozen hbf1.1 1
          have HB1 := Aside0.mk hbf1
          have HT1 := Aside0.mk (HT.out.below hb1)
          clear hb1 hbf1 hcl hn1 hn2
          go_wp2_with fail
          have far : ∀ k', k' ≠ w.heap.size + 1 → (w1.setCell ⟨w.heap.size + 1, 1, none⟩ (.int .i64 3)).heap[k']? = w1.heap[k']? := fun k' hk => Below.heap_setCell _ _ _ _ hk
          have hT2 : StT b (w1.setCell ⟨w.heap.size + 1, 1, none⟩ (.int .i64 3)) g i (tText :: ts') := HT1.out.move (far g (by have := HLT.out; omega))
          have hS2 := blk_put HB1.out.1 1 (.int .i64 3) rfl
          have hR2 := (far w.heap.size (by omega)).trans HB1.out.2.1
          have hG2 : w.grownBy (w1.setCell ⟨w.heap.size + 1, 1, none⟩ (.int .i64 3)) (some g) := gb_setNew HB1.out.2.2.1 (by simp)
          have hV2 : Vr (w1.setCell ⟨w.heap.size + 1, 1, none⟩ (.int .i64 3)) := HB1.out.2.2.2.heap_ (far _ (by have := HLT.out; omega))
          generalize w1.setCell ⟨w.heap.size + 1, 1, none⟩ (.int .i64 3) = w2 at *
          refine (next_st b g i tText ts' w2 hT2).mono ?_
          rintro e w3 ⟨⟨v3, rfl⟩, hg3, hs3⟩
          have HG3 := Aside0.mk hg3
          have HN3 := Aside0.mk (needs_any b g i tLp _ w3 hs3)
          have HX2 := Aside0.mk (And.intro hS2 (And.intro hR2 (And.intro hG2 hV2)))
          clear hg3 hs3 far hT2 hS2 hR2 hG2 hV2 s1 sf1
          go_wp2_with fail
          go_at_call 60
          refine HN3.out.mono ?_
          rintro e w4 ⟨⟨v4, rfl⟩, hg4, hs4⟩
          have HG4 := Aside0.mk hg4
          have HN4 := Aside0.mk (needs_any b g i tRp _ w4 hs4)
          clear hg4 hs4
          go_wp2_with fail
          go_at_call 60
          refine HN4.out.mono ?_
          rintro e w5 ⟨⟨v5, rfl⟩, hg5, hs5⟩
          have HG5 := Aside0.mk (gb_then (gb_then HG3.out HG4.out) hg5)
          have HS5 := Aside0.mk hs5
          clear hg5 hs5
          go_wp2_with fail
          go_meet
          case rel =>
            obtain ⟨x1, x2, x3, x4⟩ := HX2.out
            have hlt := HLT.out
            refine ⟨3, ⟨#[]⟩, blk_grown x1 HG5.out (fun e => by injection e; omega), blk_grown x2 HG5.out (fun e => by injection e; omega), gb_then x3 HG5.out, x4.move HG5.out (fun k e => by injection e; omega), ?_⟩
            rw [HH.out]
            exact end_map (ax := 3) (nm := ⟨#[]⟩) HS5.out
        · have e3 : isCalled tText ts = false := decide_eq_false c3
          rw [e3] at hcl
          by_cases c4 : ts.head? = some tAt
          · obtain ⟨ts', rfl⟩ : ∃ ts', ts = tAt :: ts' := by
              cases ts with
              | nil => simp at c4
              | cons a l => simp at c4; exact ⟨l, by rw [c4]⟩
            have HH : Aside0 (headG b (tAt :: ts') = ((adv b (tAt :: ts')).bind fun t1 => namedG b t1).map fun r => ((2, r.1), r.2)) := ⟨by
              unfold headG; rw [if_neg c1, if_neg c2, if_neg c3, if_pos c4]
              cases adv b (tAt :: ts') <;> rfl⟩
            have HTK := Aside0.mk (fun w1 (hb : Below w0.heap.size w0 w1) => takes_yes b g i tAt ts' w1 (hT.below hb))
            clear c1 c2 c3 c4 hT e3
            go_wp2_with fail
            go_at_call 43
            refine hn1.mono ?_
            rintro e w1 ⟨rfl, rfl⟩
            go_wp2_with fail
            go_at_call 43
            refine hn2.mono ?_
            rintro e w1 ⟨rfl, rfl⟩
            go_wp2_with fail
            go_at_call 59
            refine hcl.mono ?_
            rintro e w1 ⟨rfl, hb1⟩
            have HB1 := Aside0.mk (HBF.out.below hb1)
            have htk := HTK.out w1 hb1
            clear hb1 hcl hn1 hn2 HTK
            go_wp2_with fail
            go_at_call 43
            refine htk.mono ?_
            rintro e w2 ⟨rfl, hg2, hs2⟩
            have HB2 := Aside0.mk (HB1.out.grown hg2 HLT.out hg)
            have hnm := named_any b g i _ w2 hs2
            clear hg2 hs2 htk
            go_wp2_with fail
            go_at_call 61
            refine hnm.mono ?_
            rintro e w3 ⟨s, rfl, hg3, hs3⟩
            have hbf3 := HB2.out.grown hg3 HLT.out hg
            have s1 : w3.cell? ⟨w.heap.size + 1, 1, none⟩ = some (.int .i64 0) := (blk_cell hbf3.1 1).trans rfl
            have s2 : w3.cell? ⟨w.heap.size + 1, 2, none⟩ = some (.string ⟨#[]⟩) := (blk_cell hbf3.1 2).trans rfl
            have sf1 := blk_frozen hbf3.1 1
            have sf2 := blk_frozen hbf3.1 2
            have HB3 := Aside0.mk hbf3
            have HE3 := Aside0.mk (end_named (ax := 2) hs3)
            clear hg3 hs3 hbf3 hnm
            go_wp2_with fail
            go_meet
            case rel => exact ⟨by rw [HH.out]; exact HB3.out.both HLT.out hg 2 s HE3.out⟩
          · have HH : Aside0 (headG b ts = ((some ts).bind fun t1 => namedG b t1).map fun r => ((1, r.1), r.2)) := ⟨by
              unfold headG; rw [if_neg c1, if_neg c2, if_neg c3, if_neg c4]; rfl⟩
            have HT := Aside0.mk (fun w1 (hb : Below w0.heap.size w0 w1) => And.intro (takes_st b g i tAt ts w1 (hT.below hb) c4) (named_any b g i (some ts) w1 (hT.below hb)))
            clear c1 c2 c3 c4 hT e3
            go_wp2_with fail
            go_at_call 43
            refine hn1.mono ?_
            rintro e w1 ⟨rfl, rfl⟩
            go_wp2_with fail
            go_at_call 43
            refine hn2.mono ?_
            rintro e w1 ⟨rfl, rfl⟩
            go_wp2_with fail
            go_at_call 59
            refine hcl.mono ?_
            rintro e w1 ⟨rfl, hb1⟩
            have HB1 := Aside0.mk (HBF.out.below hb1)
            obtain ⟨htk, hnm⟩ := HT.out w1 hb1
            clear hb1 hcl hn1 hn2 HT
            go_wp2_with fail
            go_at_call 43
            refine htk.mono ?_
            rintro e w2 ⟨rfl, rfl⟩
            go_wp2_with fail
            go_at_call 61
            refine hnm.mono ?_
            rintro e w3 ⟨s, rfl, hg3, hs3⟩
            have hbf3 := HB1.out.grown hg3 HLT.out hg
            have s1 : w3.cell? ⟨w.heap.size + 1, 1, none⟩ = some (.int .i64 0) := (blk_cell hbf3.1 1).trans rfl
            have s2 : w3.cell? ⟨w.heap.size + 1, 2, none⟩ = some (.string ⟨#[]⟩) := (blk_cell hbf3.1 2).trans rfl
            have sf1 := blk_frozen hbf3.1 1
            have sf2 := blk_frozen hbf3.1 2
            have HB3 := Aside0.mk hbf3
            have HE3 := Aside0.mk (end_named (ax := 1) hs3)
            clear hg3 hs3 hbf3 hnm htk
            go_wp2_with fail
            go_meet
            case rel => exact ⟨by rw [HH.out]; exact HB3.out.both HLT.out hg 1 s HE3.out⟩
  case rest =>
    obtain ⟨ax, nm, oh, hst, hstart⟩ := step_start b g i ts o w wc k hg hlt hr hcut.out
    obtain ⟨l, s, x, hob⟩ := hst.obj
    have c2 : wc.cell? ⟨g, 2, none⟩ = some (.int .i64 i) := (blk_cell hob 2).trans rfl
    have f2 := blk_frozen hob 2
    have HST := Aside0.mk (hstart _ (gb_set (gb_refl _ _)) (hst.inner (i + 1)))
    have HLT := Aside0.mk hlt
    have HIH := Aside0.mk IH
    have hi1 : i + 1 ≤ 100000 := by omega
    have hi0 : (0 : Int) ≤ i + 1 := by omega
    clear hcut hstart hst hob hV h hr hlt IH
    go_wp2_with fail
    go_loopg [43] k (fun gk _ wr => Aside0 (StepI b g i o ax nm w k gk wr))
    case atStart => exact HST
    case round =>
      obtain ⟨ps, A, c, hS, hown, hR, hgb, hv, hgk, hlen, hsz, hst⟩ := hrel.out
      clear hrel
      by_cases hB : ∃ ts' r, StT b wr g (i + 1) (tLb :: ts') ∧ predsG b gk (i + 1) (tLb :: ts') = some r ∧ o = r.map fun q => ((⟨false, ax, nm, ps ++ q.1⟩ : Step), q.2)
      · obtain ⟨ts', r, hT, hG, ho⟩ := hB
        obtain ⟨m, rfl⟩ : ∃ m, gk = m + 1 := by
          cases gk with
          | zero => simp only [predsG] at hG; cases hG
          | succ m => exact ⟨m, rfl⟩
        obtain ⟨o', hwr, hcont⟩ := step_round hG ho
        obtain ⟨l1, rest, hob, _⟩ := hT.open_
        have q1 : wr.cell? ⟨g, 1, none⟩ = some (.string ⟨#[91]⟩) := (blk_cell hob 1).trans rfl
        have q2 : wr.cell? ⟨g, 2, none⟩ = some (.int .i64 (i + 1)) := (blk_cell hob 2).trans rfl
        have q3 : wr.cell? ⟨g, 3, none⟩ = some (.bool false) := (blk_cell hob 3).trans rfl
        have HC := Aside0.mk hcont
        have HOW := Aside0.mk hown
        have HK := Aside0.mk (And.intro hgk hlen)
        have HSZ := Aside0.mk hsz
        by_cases hdeep : i + 1 > 2
        · rw [if_pos hdeep] at hwr
          have HWR := Aside0.mk hwr
          have HF := Aside0.mk (fails_any g _ _ (i + 1) _ wr hob)
          have HS := Aside0.mk hS
          have HR := Aside0.mk hR
          have HGB := Aside0.mk hgb
          have HV := Aside0.mk hv
          have hdb : decide (2 < i + 1) = true := decide_eq_true (by omega)
          clear hst hT hG ho hwr hcont hob hown hgk hlen hsz hS hR hgb hv c2 f2
          go_wp2_with fail
          go_at_call 41
          refine HF.out.mono ?_
          rintro e w1 ⟨⟨v1, rfl⟩, hw1, hg1⟩
          have HS1 := Aside0.mk (blk_grown HS.out hg1 (fun e => by have e' := Option.some.inj e; have := HLT.out; omega))
          have HR1 := Aside0.mk (blk_grown HR.out hg1 (fun e => by have e' := Option.some.inj e; have := HLT.out; omega))
          have HG1 := Aside0.mk hg1
          have HV1 := Aside0.mk (HV.out.move hg1 (fun k e => by injection e; omega))
          have HT1 : Aside0 (StO b w1 g (i + 1) none) := ⟨hw1⟩
          have HGB1 := Aside0.mk (gb_then HGB.out hg1)
          clear hw1 hg1 q1 q2 q3 HS HR HV HGB HF
          go_wp2_with fail
          -- one more that must hold
          have a3 : w1.cell? ⟨w.heap.size + 1, 3, none⟩ = some (.slice A ps.length c) := (blk_cell HS1.out 3).trans rfl
          have HW := Aside0.mk (within_any 63 tLb tRb (predG b) b g m cf_pred hg (HIH.out m (by have := HK.out; omega)) (i + 1) _ o' w1.drew hi0 (by have := HK.out; omega) (HV1.out.move (grown_of_below (below_drew (Below.refl _ _)) none) (fun _ e => by cases e)) (StO.below HT1.out (below_drew (Below.refl _ _))) HWR.out)
          refine B_region (fun w' => w'.cell? ⟨w.heap.size + 1, 3, none⟩ = some (.slice A ps.length c)) 8 (by kernel_rfl) a3 (fun hS0 => ?_)
          refine B_take 5 (i := 0) (v := .pointer (some ⟨w.heap.size + 1, 3, none⟩)) rfl (by kernel_rfl) (fun _ _ _ h => h) (by rfl) (fun w' hSw => ?_) hS0 ?_
          · go_simp
          try simp only [Act.put, List.setIfInBounds_toArray, List.set_cons_zero, List.set_cons_succ]
          refine B_take 5 (i := 1) (v := .slice A ps.length c) rfl (by kernel_rfl) (fun _ _ _ h => h) (by rfl) (fun w' hSw => ?_) hS0 ?_
          · go_simp
          try simp only [Act.put, List.setIfInBounds_toArray, List.set_cons_zero, List.set_cons_succ]
          refine B_take 5 (i := 2) (v := .pointer (some ⟨g, 0, none⟩)) rfl (by kernel_rfl) (fun _ _ _ h => h) (by rfl) (fun w' hSw => ?_) hS0 ?_
          · go_simp
          try simp only [Act.put, List.setIfInBounds_toArray, List.set_cons_zero, List.set_cons_succ]
          refine B_take 5 (i := 3) (v := .pointer (some ⟨g, 0, none⟩)) rfl (by kernel_rfl) (fun _ _ _ h => h) (by rfl) (fun w' hSw => ?_) hS0 ?_
          · go_simp
          try simp only [Act.put, List.setIfInBounds_toArray, List.set_cons_zero, List.set_cons_succ]
          refine B_take 5 (i := 4) (v := .func (.func 63) #[.pointer (some ⟨g, 0, none⟩)] #[]) rfl (by kernel_rfl) (fun _ _ _ h => h) (by rfl) (fun w' hSw => ?_) hS0 ?_
          · go_simp
          try simp only [Act.put, List.setIfInBounds_toArray, List.set_cons_zero, List.set_cons_succ]
          refine B_one (i := 5) rfl (by kernel_rfl) (fun K' hK => ?_)
          go_simp
          go_at_call 62
          refine HW.out.mono ?_
          rintro e w2 ⟨x2, A2, c2', B2, d2, rfl, hx2⟩
          obtain ⟨hx21, hx22, hx23, hx24⟩ := hx2
          have hz2 : w1.heap.size ≤ w2.heap.size := hx23.size
          have hS2 := blk_grown (w := w1.drew) HS1.out hx23 (fun e => by have e' := Option.some.inj e; have := HLT.out; omega)
          have hR2 := blk_grown (w := w1.drew) HR1.out hx23 (fun e => by have e' := Option.some.inj e; have := HLT.out; omega)
          have hg12 : w1.grownBy w2 (some g) := ⟨hx23.os, hx23.tape, hx23.output, hx23.size, hx23.block⟩
          refine hK.out _ _ ((blk_cell hS2 3).trans rfl) ?_
          clear hK K'
          try simp only [Act.put, List.setIfInBounds_toArray, List.set_cons_zero, List.set_cons_succ]
          refine B_one (i := 6) rfl (by kernel_rfl) (fun K' hK => ?_)
          go_simp
          refine hK.out _ _ ((blk_cell (blk_alloc hS2 _) 3).trans rfl) ?_
          clear hK K'
          try simp only [Act.put, List.setIfInBounds_toArray, List.set_cons_zero, List.set_cons_succ]
          have hpx : PredR (fun k => w1.heap.size ≤ k) w2 x2 [.int .i64 x2.kind, .int .i64 x2.n, .slice A2 x2.path.length c2', .slice B2 x2.args.length d2] := PredR.mk_ hx21 hx22
          have hz1 := HG1.out.size
          have hsz := HSZ.out
          obtain ⟨inner, how, hmore⟩ := row_more movP HOW.out (gb_then HG1.out hg12) (show g < w.heap.size + 2 by have := HLT.out; omega) hsz (Below.refl _ _) (PredR.imp_ hpx (fun _ _ => rfl) (fun k hk => Nat.le_trans hz1 hk))
          have hobase : ∀ k', (Value.slice A ps.length c).ownBlock = some k' → w.heap.size + 2 ≤ k' := fun k' hk => own_base how k' hk
          refine B_one (i := 7) rfl (by kernel_rfl) (fun K' hK => ?_)
          refine step_append_cells (w0 := w2) (w.heap.size + 2) (by rfl) (.tmp 60) (.tmp 65) 37 41 (.agg #[.int .i64 0, .int .i64 0, .slice none 0 0, .slice none 0 0]) 4 64 rfl Tryz.underlying37 infoP rfl (by decide) (by decide) (.slice A ps.length c) ps.length inner [.int .i64 x2.kind, .int .i64 x2.n, .slice A2 x2.path.length c2', .slice B2 x2.args.length d2] rfl rfl rfl (movP.len hpx).2 how (Below.refl _ _) (by omega) (by have := HK.out; omega) ?_
          intro v3 w3 ho3 _ hg3 hat3
          have hown3 := hmore v3 w3 ho3 hg3 hat3
          have hS3 := blk_grown hS2 hg3 (fun e => by have := hobase _ e.symm; omega)
          have hR3 := blk_grown hR2 hg3 (fun e => by have := hobase _ e.symm; omega)
          refine hK.out _ _ ((blk_cell hS3 3).trans rfl) ?_
          clear hK K'
          try simp only [Act.put, List.setIfInBounds_toArray, List.set_cons_zero, List.set_cons_succ]
          obtain ⟨A3, c3, hv3, _⟩ := hown3.slice
          have HV3 := Aside0.mk hv3
          have s3 : w3.cell? ⟨w.heap.size + 1, 3, none⟩ = some (.slice A ps.length c) := (blk_cell hS3 3).trans rfl
          have sf3 := blk_frozen hS3 3
          rw [hv3]
          have HO3 := Aside0.mk hown3
          have HS3 := Aside0.mk hS3
          have HR3 := Aside0.mk hR3
          have HGB3 := Aside0.mk (show w.grownBy w3 (some g) from gb_trans (gb_then HGB1.out hg12) hg3 (.inr (fun k' hk => by have := hobase k' hk; omega)))
          have hm3 : w3.heap[g]? = w2.heap[g]? := hg3.block g (by have := HLT.out; omega) (fun e => by have := hobase _ e.symm; have := HLT.out; omega)
          have HVr3 := Aside0.mk (show Vr w3 from (HV1.out.move hg12 (fun k e => by injection e; omega)).heap_ (hg3.block _ (by have := HLT.out; omega) (fun e => by have := hobase _ e.symm; have := HLT.out; omega)))
          have HE3 := Aside0.mk (hx24.move hm3)
          have HZ3 := Aside0.mk (show w2.heap.size ≤ w3.heap.size from hg3.size)
          have HZ2 := Aside0.mk (show w1.heap.size ≤ w2.heap.size from hz2)
          clear hx21 hx22 hx23 hx24 hz2 hS2 hR2 hg12 hpx how hmore hobase ho3 hg3 hat3 hown3 hS3 hR3 hm3 a3 hS0 HW hv3
          refine B_tail 8 rfl (by decide) (by kernel_rfl) ?_
          simp only [List.drop_succ_cons, List.drop_zero]
          go_wp2
          go_roundg m
          case measure => omega
          case rel =>
            have hlt := HLT.out
            have hz2 := HZ2.out
            rw [show ps.length + 1 = (ps ++ [x2]).length by simp]
            have far : ∀ k', k' ≠ w.heap.size + 1 → (w3.setCell ⟨w.heap.size + 1, 3, none⟩ (.slice A3 (ps ++ [x2]).length c3)).heap[k']? = w3.heap[k']? := fun k' hk => Below.heap_setCell _ _ _ _ hk
            have hO := HO3.out
            rw [HV3.out] at hO
            refine ⟨ps ++ [x2], A3, c3, blk_put HS3.out 3 (.slice A3 (ps ++ [x2]).length c3) rfl, hO.move movP (fun k' h1 _ => far k' (by omega)), (far _ (by omega)).trans HR3.out, gb_setNew HGB3.out (by simp), HVr3.out.heap_ (far _ (by omega)), by have := HK.out; omega, by have := HK.out; simp; omega, by have := HZ3.out; simp [World.setCell]; omega, ?_⟩
            rcases HC.out with ⟨rfl, rfl⟩ | ⟨p, t3, r2, rfl, h2, h3⟩
            · exact .inr ⟨StW.move HE3.out (far g (by omega)), rfl⟩
            · obtain ⟨rfl, h4⟩ := HE3.out
              exact .inl ⟨t3, r2, h4.move (far g (by omega)), h2, h3⟩
        · rw [if_neg hdeep] at hwr
          have HWR := Aside0.mk hwr
          obtain ⟨w1, hw1⟩ : ∃ w1, w1 = wr := ⟨_, rfl⟩
          have HS1 := Aside0.mk (show w1.heap[w.heap.size + 1]? = some (.cells #[.bool false, .int .i64 ax, .string nm, .slice A ps.length c] 39 (0, 0)) by rw [hw1]; exact hS)
          have HR1 := Aside0.mk (show w1.heap[w.heap.size]? = some (.cells #[.bool false, .int .i64 0, .string ⟨#[]⟩, .slice none 0 0] 39 (0, 0)) by rw [hw1]; exact hR)
          have HG1 : Aside0 (wr.grownBy w1 (some g)) := ⟨by rw [hw1]; exact gb_refl _ _⟩
          have HV1 : Aside0 (Vr w1) := ⟨by rw [hw1]; exact hv⟩
          have HT1 : Aside0 (StO b w1 g (i + 1) (some (tLb :: ts'))) := ⟨by rw [hw1]; exact hT⟩
          have HGB1 : Aside0 (w.grownBy w1 (some g)) := ⟨by rw [hw1]; exact hgb⟩
          have hdb : decide (2 < i + 1) = false := decide_eq_false (by omega)
          clear hst hT hG ho hwr hcont hob hown hgk hlen hsz hS hR hgb hv c2 f2
          subst hw1
          go_wp2_with fail
          -- one more that must hold
          have a3 : w1.cell? ⟨w.heap.size + 1, 3, none⟩ = some (.slice A ps.length c) := (blk_cell HS1.out 3).trans rfl
          have HW := Aside0.mk (within_any 63 tLb tRb (predG b) b g m cf_pred hg (HIH.out m (by have := HK.out; omega)) (i + 1) _ o' w1.drew hi0 (by have := HK.out; omega) (HV1.out.move (grown_of_below (below_drew (Below.refl _ _)) none) (fun _ e => by cases e)) (StO.below HT1.out (below_drew (Below.refl _ _))) HWR.out)
          refine B_region (fun w' => w'.cell? ⟨w.heap.size + 1, 3, none⟩ = some (.slice A ps.length c)) 8 (by kernel_rfl) a3 (fun hS0 => ?_)
          refine B_take 5 (i := 0) (v := .pointer (some ⟨w.heap.size + 1, 3, none⟩)) rfl (by kernel_rfl) (fun _ _ _ h => h) (by rfl) (fun w' hSw => ?_) hS0 ?_
          · go_simp
          try simp only [Act.put, List.setIfInBounds_toArray, List.set_cons_zero, List.set_cons_succ]
          refine B_take 5 (i := 1) (v := .slice A ps.length c) rfl (by kernel_rfl) (fun _ _ _ h => h) (by rfl) (fun w' hSw => ?_) hS0 ?_
          · go_simp
          try simp only [Act.put, List.setIfInBounds_toArray, List.set_cons_zero, List.set_cons_succ]
          refine B_take 5 (i := 2) (v := .pointer (some ⟨g, 0, none⟩)) rfl (by kernel_rfl) (fun _ _ _ h => h) (by rfl) (fun w' hSw => ?_) hS0 ?_
          · go_simp
          try simp only [Act.put, List.setIfInBounds_toArray, List.set_cons_zero, List.set_cons_succ]
          refine B_take 5 (i := 3) (v := .pointer (some ⟨g, 0, none⟩)) rfl (by kernel_rfl) (fun _ _ _ h => h) (by rfl) (fun w' hSw => ?_) hS0 ?_
          · go_simp
          try simp only [Act.put, List.setIfInBounds_toArray, List.set_cons_zero, List.set_cons_succ]
          refine B_take 5 (i := 4) (v := .func (.func 63) #[.pointer (some ⟨g, 0, none⟩)] #[]) rfl (by kernel_rfl) (fun _ _ _ h => h) (by rfl) (fun w' hSw => ?_) hS0 ?_
          · go_simp
          try simp only [Act.put, List.setIfInBounds_toArray, List.set_cons_zero, List.set_cons_succ]
          refine B_one (i := 5) rfl (by kernel_rfl) (fun K' hK => ?_)
          go_simp
          go_at_call 62
          refine HW.out.mono ?_
          rintro e w2 ⟨x2, A2, c2', B2, d2, rfl, hx2⟩
          obtain ⟨hx21, hx22, hx23, hx24⟩ := hx2
          have hz2 : w1.heap.size ≤ w2.heap.size := hx23.size
          have hS2 := blk_grown (w := w1.drew) HS1.out hx23 (fun e => by have e' := Option.some.inj e; have := HLT.out; omega)
          have hR2 := blk_grown (w := w1.drew) HR1.out hx23 (fun e => by have e' := Option.some.inj e; have := HLT.out; omega)
          have hg12 : w1.grownBy w2 (some g) := ⟨hx23.os, hx23.tape, hx23.output, hx23.size, hx23.block⟩
          refine hK.out _ _ ((blk_cell hS2 3).trans rfl) ?_
          clear hK K'
          try simp only [Act.put, List.setIfInBounds_toArray, List.set_cons_zero, List.set_cons_succ]
          refine B_one (i := 6) rfl (by kernel_rfl) (fun K' hK => ?_)
          go_simp
          refine hK.out _ _ ((blk_cell (blk_alloc hS2 _) 3).trans rfl) ?_
          clear hK K'
          try simp only [Act.put, List.setIfInBounds_toArray, List.set_cons_zero, List.set_cons_succ]
          have hpx : PredR (fun k => w1.heap.size ≤ k) w2 x2 [.int .i64 x2.kind, .int .i64 x2.n, .slice A2 x2.path.length c2', .slice B2 x2.args.length d2] := PredR.mk_ hx21 hx22
          have hz1 := HG1.out.size
          have hsz := HSZ.out
          obtain ⟨inner, how, hmore⟩ := row_more movP HOW.out (gb_then HG1.out hg12) (show g < w.heap.size + 2 by have := HLT.out; omega) hsz (Below.refl _ _) (PredR.imp_ hpx (fun _ _ => rfl) (fun k hk => Nat.le_trans hz1 hk))
          have hobase : ∀ k', (Value.slice A ps.length c).ownBlock = some k' → w.heap.size + 2 ≤ k' := fun k' hk => own_base how k' hk
          refine B_one (i := 7) rfl (by kernel_rfl) (fun K' hK => ?_)
          refine step_append_cells (w0 := w2) (w.heap.size + 2) (by rfl) (.tmp 60) (.tmp 65) 37 41 (.agg #[.int .i64 0, .int .i64 0, .slice none 0 0, .slice none 0 0]) 4 64 rfl Tryz.underlying37 infoP rfl (by decide) (by decide) (.slice A ps.length c) ps.length inner [.int .i64 x2.kind, .int .i64 x2.n, .slice A2 x2.path.length c2', .slice B2 x2.args.length d2] rfl rfl rfl (movP.len hpx).2 how (Below.refl _ _) (by omega) (by have := HK.out; omega) ?_
          intro v3 w3 ho3 _ hg3 hat3
          have hown3 := hmore v3 w3 ho3 hg3 hat3
          have hS3 := blk_grown hS2 hg3 (fun e => by have := hobase _ e.symm; omega)
          have hR3 := blk_grown hR2 hg3 (fun e => by have := hobase _ e.symm; omega)
          refine hK.out _ _ ((blk_cell hS3 3).trans rfl) ?_
          clear hK K'
          try simp only [Act.put, List.setIfInBounds_toArray, List.set_cons_zero, List.set_cons_succ]
          obtain ⟨A3, c3, hv3, _⟩ := hown3.slice
          have HV3 := Aside0.mk hv3
          have s3 : w3.cell? ⟨w.heap.size + 1, 3, none⟩ = some (.slice A ps.length c) := (blk_cell hS3 3).trans rfl
          have sf3 := blk_frozen hS3 3
          rw [hv3]
          have HO3 := Aside0.mk hown3
          have HS3 := Aside0.mk hS3
          have HR3 := Aside0.mk hR3
          have HGB3 := Aside0.mk (show w.grownBy w3 (some g) from gb_trans (gb_then HGB1.out hg12) hg3 (.inr (fun k' hk => by have := hobase k' hk; omega)))
          have hm3 : w3.heap[g]? = w2.heap[g]? := hg3.block g (by have := HLT.out; omega) (fun e => by have := hobase _ e.symm; have := HLT.out; omega)
          have HVr3 := Aside0.mk (show Vr w3 from (HV1.out.move hg12 (fun k e => by injection e; omega)).heap_ (hg3.block _ (by have := HLT.out; omega) (fun e => by have := hobase _ e.symm; have := HLT.out; omega)))
          have HE3 := Aside0.mk (hx24.move hm3)
          have HZ3 := Aside0.mk (show w2.heap.size ≤ w3.heap.size from hg3.size)
          have HZ2 := Aside0.mk (show w1.heap.size ≤ w2.heap.size from hz2)
          clear hx21 hx22 hx23 hx24 hz2 hS2 hR2 hg12 hpx how hmore hobase ho3 hg3 hat3 hown3 hS3 hR3 hm3 a3 hS0 HW hv3
          refine B_tail 8 rfl (by decide) (by kernel_rfl) ?_
          simp only [List.drop_succ_cons, List.drop_zero]
          go_wp2
          go_roundg m
          case measure => omega
          case rel =>
            have hlt := HLT.out
            have hz2 := HZ2.out
            rw [show ps.length + 1 = (ps ++ [x2]).length by simp]
            have far : ∀ k', k' ≠ w.heap.size + 1 → (w3.setCell ⟨w.heap.size + 1, 3, none⟩ (.slice A3 (ps ++ [x2]).length c3)).heap[k']? = w3.heap[k']? := fun k' hk => Below.heap_setCell _ _ _ _ hk
            have hO := HO3.out
            rw [HV3.out] at hO
            refine ⟨ps ++ [x2], A3, c3, blk_put HS3.out 3 (.slice A3 (ps ++ [x2]).length c3) rfl, hO.move movP (fun k' h1 _ => far k' (by omega)), (far _ (by omega)).trans HR3.out, gb_setNew HGB3.out (by simp), HVr3.out.heap_ (far _ (by omega)), by have := HK.out; omega, by have := HK.out; simp; omega, by have := HZ3.out; simp [World.setCell]; omega, ?_⟩
            rcases HC.out with ⟨rfl, rfl⟩ | ⟨p, t3, r2, rfl, h2, h3⟩
            · exact .inr ⟨StW.move HE3.out (far g (by omega)), rfl⟩
            · obtain ⟨rfl, h4⟩ := HE3.out
              exact .inl ⟨t3, r2, h4.move (far g (by omega)), h2, h3⟩
      · obtain ⟨oe, l1, s1, x1, he1, he2, he3, he4⟩ := step_exit hst hB
        have q1 : wr.cell? ⟨g, 1, none⟩ = some (.string s1) := (blk_cell he3 1).trans rfl
        have q2 : wr.cell? ⟨g, 2, none⟩ = some (.int .i64 (i + 1)) := (blk_cell he3 2).trans rfl
        have qf2 := blk_frozen he3 2
        have hlt := HLT.out
        have n1 : w.heap.size ≠ g := by omega
        have n2 : w.heap.size + 1 ≠ g := by omega
        have n3 : g ≠ w.heap.size := by omega
        have n4 : g ≠ w.heap.size + 1 := by omega
        have a0 : wr.cell? ⟨w.heap.size + 1, 0, none⟩ = some (.bool false) := (blk_cell hS 0).trans rfl
        have a1 : wr.cell? ⟨w.heap.size + 1, 1, none⟩ = some (.int .i64 ax) := (blk_cell hS 1).trans rfl
        have a2 : wr.cell? ⟨w.heap.size + 1, 2, none⟩ = some (.string nm) := (blk_cell hS 2).trans rfl
        have a3 : wr.cell? ⟨w.heap.size + 1, 3, none⟩ = some (.slice A ps.length c) := (blk_cell hS 3).trans rfl
        have ze0 : wr.cell? ⟨w.heap.size, 0, none⟩ = some (.bool false) := (blk_cell hR 0).trans rfl
        have ze1 : wr.cell? ⟨w.heap.size, 1, none⟩ = some (.int .i64 0) := (blk_cell hR 1).trans rfl
        have ze2 : wr.cell? ⟨w.heap.size, 2, none⟩ = some (.string ⟨#[]⟩) := (blk_cell hR 2).trans rfl
        have ze3 : wr.cell? ⟨w.heap.size, 3, none⟩ = some (.slice none 0 0) := (blk_cell hR 3).trans rfl
        have zf0 := blk_frozen hR 0
        have zf1 := blk_frozen hR 1
        have zf2 := blk_frozen hR 2
        have zf3 := blk_frozen hR 3
        have HS := Aside0.mk hS
        have HOW := Aside0.mk hown
        have HR := Aside0.mk hR
        have HGB := Aside0.mk hgb
        have HE := Aside0.mk (he1.inner i)
        have HE2 := Aside0.mk he2
        clear hS hown hR hgb hv hgk hlen hst hB he1 he2 he3 c2 f2
        go_wp2
        have hw9 := put4_at ((Below.heap_setCell wr ⟨g, 2, none⟩ (.int .i64 i) w.heap.size n1).trans HR.out) (.bool false) (.int .i64 ax) (.string nm) (.slice A ps.length c)
        have hfar := fun k' (hk : k' ≠ w.heap.size) => put4_far (wr.setCell ⟨g, 2, none⟩ (.int .i64 i)) hk (.bool false) (.int .i64 ax) (.string nm) (.slice A ps.length c)
        have hg9 := put4_gb (gb_set (j := 2) (u := .int .i64 i) HGB.out) (Nat.le_refl w.heap.size) (.bool false) (.int .i64 ax) (.string nm) (.slice A ps.length c)
        change bodyPost _ _ _ _ _ (put4 (wr.setCell ⟨g, 2, none⟩ (.int .i64 i)) w.heap.size (.bool false) (.int .i64 ax) (.string nm) (.slice A ps.length c))
        generalize put4 (wr.setCell ⟨g, 2, none⟩ (.int .i64 i)) w.heap.size (.bool false) (.int .i64 ax) (.string nm) (.slice A ps.length c) = w9 at hw9 hfar hg9 ⊢
        have y0 : w9.cell? ⟨w.heap.size, 0, none⟩ = some (.bool false) := (blk_cell hw9 0).trans rfl
        have y1 : w9.cell? ⟨w.heap.size, 1, none⟩ = some (.int .i64 ax) := (blk_cell hw9 1).trans rfl
        have y2 : w9.cell? ⟨w.heap.size, 2, none⟩ = some (.string nm) := (blk_cell hw9 2).trans rfl
        have y3 : w9.cell? ⟨w.heap.size, 3, none⟩ = some (.slice A ps.length c) := (blk_cell hw9 3).trans rfl
        refine bodyPost_ret (v := .agg #[.bool false, .int .i64 ax, .string nm, .slice A ps.length c]) (by simp [results, Tryz.results42, go_sem, y0, y1, y2, y3]) rfl ?_
        refine ⟨⟨false, ax, nm, ps⟩, A, c, rfl, ?_, hg9, ?_⟩
        · refine HOW.out.preds.imp_ (fun k' hk => ?_) (fun k' hk => by omega)
          rw [hfar k' (by omega), Below.heap_setCell _ _ _ _ (show k' ≠ g by omega)]
        · have hmv := hfar g n3
          have h5 := HE.out
          rw [HE2.out]
          cases oe with
          | none => exact StW.move h5 hmv
          | some t5 => exact ⟨rfl, StT.move h5 hmv⟩
end Go.Proofs.YtoanmoddppmffaaGreatDoor.T
