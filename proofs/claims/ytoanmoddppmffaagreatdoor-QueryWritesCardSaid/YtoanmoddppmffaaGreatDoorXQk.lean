/- path. -/
import Derived.Test.YtoanmoddppmffaaGreatDoorXQj
import Derived.LoopN
import Derived.WalkMore
import Derived.Deep.DeepCutAuto
namespace Go.Proofs.YtoanmoddppmffaaGreatDoor.T
open Go.RowKit Go.Shelf Go.Proofs.YtoanmoddppmffaaGreatDoorW.PrintWords
set_option linter.unusedVariables false
set_option linter.unusedSimpArgs false
def StepPost (b : Bool) (g : Nat) (i : Int) (o : Option (Step × List Tok)) (w : World) (e : Ending) (w' : World) : Prop :=
  ∃ (x : Step) (A : Option Addr) (c : Nat), e = .returned (.agg #[.bool x.deep, .int .i64 x.axis, .string x.name, .slice A x.preds.length c]) ∧ PredsR (fun k => w.heap.size ≤ k) w' (.slice A x.preds.length c) x.preds ∧ w.grownBy w' (some g) ∧ Ends b g i o x w'
def StepC (b : Bool) (g m : Nat) : Prop :=
  ∀ (i : Int) (ts : List Tok) (o : Option (Step × List Tok)) (w : World), 0 ≤ i → i + (m : Int) ≤ 100000 → Vr w → StT b w g i ts → stepG b m i ts = some o → Calls Tryz.prog 42 #[.pointer (some ⟨g, 0, none⟩)] w (StepPost b g i o w)
set_option maxHeartbeats 1000000 in
set_option maxRecDepth 100000 in
theorem path_w (b : Bool) (g : Nat) : PathW b g := by
  intro i deep w h
  have c3 : w.cell? ⟨g, 3, none⟩ = some (.bool true) := (blk_cell h 3).trans rfl
  have H := Aside0.mk h
  clear h
  go_enter Tryz.func20, Tryz.ntmps20
  go_wp2_with fail
  go_step3
  go_wp2_with fail
  go_step3
  go_wp2_with fail
  refine wp_loop_rounds 1 ?_
  rw [rounds_succ]
  go_wp2
  rw [Exit.noGoto_ret]
  go_ret
  exact ⟨[], none, 0, rfl, StepsR.nil _ _, gb_refl _ _, H.out⟩
theorem row_more {α : Type} {K : (Nat → Prop) → World → α → List Value → Prop} (M : Movable K) {T : TypeId} {base g : Nat} {wr w1 W : World} {v : Value} {xs : List α} (hown : OwnR K T base wr v xs) (hg1 : wr.grownBy w1 (some g)) (hg : g < base) (hb : base ≤ wr.heap.size) (hW : Below w1.heap.size w1 W)
    {y : α} {ys : List Value} (hy : K (fun k => wr.heap.size ≤ k) w1 y ys) :
    ∃ inner, W.ownsRow base T 4 v xs.length inner ∧ ∀ v1 w2, w2.ownsRow base T 4 v1 (xs.length + 1) (inner ++ ys) → W.grownBy w2 v.ownBlock → (v1.ownBlock = v.ownBlock ∨ ∃ b, v1.ownBlock = some b ∧ W.heap.size ≤ b) → OwnR K T base w2 v1 (xs ++ [y]) := by
  have hlt : ∀ k, v.ownBlock = some k → k < wr.heap.size := by
    obtain ⟨_, ho, _⟩ := hown
    exact fun k hk => own_lt ho k hk
  have h2 : OwnR K T base W v xs := (hown.grown M hg1 hg).below M hW
  obtain ⟨inner, ho, hk⟩ := h2
  refine ⟨inner, ho, fun v1 w2 h3 hgr hat => OwnR.appended M (W0 := w1) hk ho ?_ h3 hgr hat⟩
  exact M.imp_ (M.bound hy) (fun k hk => hW.block k hk.2) (fun k hk => ⟨by omega, fun e => by have := hlt k e.symm; omega⟩)
theorem infoS : (Tryz.prog.info? 39).map (fun i => (i.zero, i.size, i.bytes)) = some (some (.agg #[.bool false, .int .i64 0, .string ⟨#[]⟩, .slice none 0 0]), 4, 56) := by kernel_rfl
theorem infoP : (Tryz.prog.info? 41).map (fun i => (i.zero, i.size, i.bytes)) = some (some (.agg #[.int .i64 0, .int .i64 0, .slice none 0 0, .slice none 0 0]), 4, 64) := by kernel_rfl
def PathI (b : Bool) (g : Nat) (i : Int) (o : Option (List Step × List Tok)) (w : World) (k gk : Nat) (dv ov : Value) (wr : World) : Prop :=
  ∃ (deep : Bool) (xs : List Step), dv = .bool deep ∧ OwnR StepR 39 w.heap.size wr ov xs ∧ w.grownBy wr (some g) ∧ Vr wr ∧ gk ≤ k ∧ xs.length + gk ≤ k ∧
    ((∃ ts r, StT b wr g i ts ∧ pathG b gk i deep ts = some r ∧ o = r.map fun q => (xs ++ q.1, q.2)) ∨ (StW wr g i ∧ o = none))
set_option maxHeartbeats 1000000 in
set_option maxRecDepth 100000 in
theorem path_step (b : Bool) (g k : Nat) (hg : 4 < g) (IH : ∀ m, m < k → StepC b g m) : PathC b g k := by
  intro i deep ts o w h0 hi hV h hr
  have hlt : g < w.heap.size := by obtain ⟨_, _, ho, _⟩ := h; exact blk_lt ho
  have HSTART : Aside0 (PathI b g i o w k k (.bool deep) (.slice none 0 0) w) := ⟨deep, [], rfl, OwnR.nil _ _ _ _, gb_refl _ _, hV, Nat.le_refl _, by simp, .inl ⟨ts, o, h, hr, by cases o <;> simp⟩⟩
  have HLT := Aside0.mk hlt
  have HIH := Aside0.mk IH
  clear h hr IH hV
  go_enter Tryz.func20, Tryz.ntmps20
  go_wp2_with fail
  go_step3
  go_wp2_with fail
  go_step3
  go_wp2_with fail
  go_loopg [1, 5] k (fun gk dv ov wr => Aside0 (PathI b g i o w k gk dv ov wr))
  case atStart => exact HSTART
  case round =>
    obtain ⟨deepr, xs, rfl, hown, hgb, hv, hgk, hlen, hst⟩ := hrel.out
    obtain ⟨A, c, rfl, hcap⟩ := hown.slice
    clear hrel
    by_cases hw : StW wr g i ∧ o = none
    · obtain ⟨hw, rfl⟩ := hw
      have c3 : wr.cell? ⟨g, 3, none⟩ = some (.bool true) := (blk_cell hw 3).trans rfl
      have HW := Aside0.mk hw
      have HO := Aside0.mk hown
      have HG := Aside0.mk hgb
      clear hw hown hgb hst hv
      go_wp2
      rw [Exit.noGoto_ret]
      go_ret
      exact ⟨xs, A, c, rfl, HO.out.steps, HG.out, HW.out⟩
    · obtain ⟨ts1, r, hT, hG, ho⟩ : ∃ ts r, StT b wr g i ts ∧ pathG b gk i deepr ts = some r ∧ o = r.map fun q => (xs ++ q.1, q.2) := hst.resolve_right hw
      clear hw hst
      obtain ⟨m, rfl⟩ : ∃ m, gk = m + 1 := by
        cases gk with
        | zero => simp only [pathG] at hG; cases hG
        | succ m => exact ⟨m, rfl⟩
      simp only [pathG] at hG
      obtain ⟨o1, ho1⟩ : ∃ o1, stepG b m i ts1 = some o1 := by
        rcases then_some hG with ⟨h1, _⟩ | ⟨y, t, h1, _⟩ <;> exact ⟨_, h1⟩
      have hcall := HIH.out m (by omega) i ts1 o1 wr h0 (by omega) hv hT ho1
      have c3 : wr.cell? ⟨g, 3, none⟩ = some (.bool false) := by obtain ⟨l, s, ho, _⟩ := hT; exact (blk_cell ho 3).trans rfl
      have HG := Aside0.mk hG
      have HO1 := Aside0.mk ho1
      have HOW := Aside0.mk hown
      have HGB := Aside0.mk hgb
      have HV := Aside0.mk hv
      have HO := Aside0.mk ho
      have HLEN := Aside0.mk (And.intro hgk hlen)
      clear hT hG ho1 hown hgb hv ho hgk hlen
      go_wp2_with fail
      go_at_call 42
      refine hcall.mono ?_
      rintro e w1 ⟨x, A1, c1, rfl, hx1, hx2, hx3⟩
      have HX1 := Aside0.mk hx1
      have HX2 := Aside0.mk hx2
      have HX3 := Aside0.mk hx3
      clear hx1 hx2 hx3 hcall c3
      have hz1 := HX2.out.size
      have hzr := HGB.out.size
      obtain ⟨inner, how, hmore⟩ := row_more movS HOW.out HX2.out HLT.out hzr (below_alloc (Below.refl _ _) (.cells #[.bool deepr, .int .i64 x.axis, .string x.name, .slice A1 x.preds.length c1] 39)) (y := { x with deep := deepr }) (StepR.mk_ HX1.out)
      have HOWN := Aside0.mk how
      have HMORE := Aside0.mk hmore
      have HLEN2 : Aside0 ((xs.length + 1) * 56 ≤ 140737488355328) := ⟨by have := HLEN.out; omega⟩
      have HBASE : Aside0 (w.heap.size ≤ (w1.alloc (.cells #[.bool deepr, .int .i64 x.axis, .string x.name, .slice A1 x.preds.length c1] 39)).heap.size) := ⟨by simp; omega⟩
      clear how hmore
      go_wp2_with (at_builtin; refine print_append_cells (w0 := w1.alloc (.cells #[.bool deepr, .int .i64 x.axis, .string x.name, .slice A1 x.preds.length c1] 39)) w.heap.size rfl (.tmp 16) (.tmp 18) 22 39 (.agg #[.bool false, .int .i64 0, .string ⟨#[]⟩, .slice none 0 0]) 4 56 rfl Tryz.underlying22 infoS rfl (by decide) (by decide) (.slice A xs.length c) xs.length inner [.bool deepr, .int .i64 x.axis, .string x.name, .slice A1 x.preds.length c1] rfl ?c2 rfl ?c1 HOWN.out (Below.refl _ _) HBASE.out HLEN2.out ?_; (case c2 => (simp only [World.size_alloc]; rfl)); (case c1 => exact (movS.len (StepR.mk_ (x := { x with deep := deepr }) HX1.out)).2); intro v1 w2 ho hbel hg hat; have HO2 := Aside0.mk (HMORE.out v1 w2 ho hg hat); have HG2 := Aside0.mk hg; clear ho hbel hg hat)
      have hobase : ∀ k', (Value.slice A xs.length c).ownBlock = some k' → w.heap.size ≤ k' := fun k' hk => own_base HOWN.out k' hk
      have hbW : Below w1.heap.size w1 (w1.alloc (.cells #[.bool deepr, .int .i64 x.axis, .string x.name, .slice A1 x.preds.length c1] 39)) := below_alloc (Below.refl _ _) _
      have HGB2 : Aside0 (w.grownBy w2 (some g)) := ⟨gb_trans (gb_below (gb_then HGB.out HX2.out) hbW) HG2.out (.inr hobase)⟩
      have hm2 : w2.heap[g]? = w1.heap[g]? := by
        rw [HG2.out.block g (by simp; omega) (fun e => by have := hobase g e.symm; omega), hbW.block g (by omega)]
      have HV2 : Aside0 (Vr w2) := ⟨(HV.out.move HX2.out (fun k' e => by injection e; omega)).heap_ (by rw [HG2.out.block _ (by simp; omega) (fun e => by have := hobase _ e.symm; omega), hbW.block _ (by omega)])⟩
      have HE2 := Aside0.mk (HX3.out.move hm2)
      clear hobase hbW hm2 HG2
      rcases then_some HG.out with ⟨h1, h2⟩ | ⟨s, t1, h1, hG2⟩
      · -- nothing came
        rw [HO1.out] at h1
        obtain rfl := Option.some.inj h1
        have ho : o = none := by rw [HO.out, h2]; rfl
        subst ho
        have hw2 : StW w2 g i := HE2.out
        refine (takes_w g i ⟨#[47]⟩ w2 hw2).mono ?_
        rintro e w3 ⟨rfl, rfl⟩
        go_wp2_with fail
        go_at_call 43
        refine (takes_w g i ⟨#[47, 47]⟩ w2 hw2).mono ?_
        rintro e w3 ⟨rfl, rfl⟩
        go_wp2
        rw [Exit.noGoto_ret]
        obtain ⟨A2, c2, hv1, _⟩ := HO2.out.slice
        rw [hv1] at HO2 ⊢
        go_ret
        exact ⟨_, A2, c2, rfl, HO2.out.steps, HGB2.out, hw2⟩
      · rw [HO1.out] at h1
        obtain rfl := Option.some.inj h1
        obtain ⟨rfl, hT2⟩ := HE2.out
        by_cases hs1 : t1.head? = some tSl
        · obtain ⟨ts', rfl⟩ : ∃ ts', t1 = tSl :: ts' := by
            cases t1 with
            | nil => simp at hs1
            | cons a l => simp at hs1; exact ⟨l, by rw [hs1]⟩
          rw [if_pos hs1] at hG2
          obtain ⟨hrest⟩ : Aside0 ((adv b (tSl :: ts') = none ∧ o = none) ∨ ∃ t2 r2, adv b (tSl :: ts') = some t2 ∧ pathG b m i false t2 = some r2 ∧ o = r2.map fun q => ((xs ++ [{ x with deep := deepr }]) ++ q.1, q.2)) := ⟨by
            rcases Opt_some hG2 with ⟨h1, rfl⟩ | ⟨t2, h1, h2⟩
            · exact .inl ⟨h1, HO.out⟩
            · rcases then_some h2 with ⟨h3, rfl⟩ | ⟨l, t3, h3, h4⟩
              · exact .inr ⟨t2, none, h1, h3, HO.out⟩
              · refine .inr ⟨t2, some (l, t3), h1, h3, ?_⟩
                rw [HO.out, ← Option.some.inj h4]
                simp⟩
          have hrest := Aside0.mk hrest
          have htk := takes_yes b g i tSl ts' w2 hT2
          clear hG2 hs1 hT2
          refine htk.mono ?_
          rintro e w3 ⟨rfl, hg3, hs3⟩
          have HG3 := Aside0.mk hg3
          have HS3 := Aside0.mk hs3
          clear hg3 hs3 htk
          go_wp2
          go_roundg m
          case measure => omega
          case rel =>
            refine ⟨false, xs ++ [{ x with deep := deepr }], rfl, HO2.out.grown movS HG3.out HLT.out, gb_then HGB2.out HG3.out, HV2.out.move HG3.out (fun k e => by injection e; omega), by have := HLEN.out; omega, by have := HLEN.out; simp; omega, ?_⟩
            rcases hrest.out with ⟨h1, h2⟩ | ⟨t2, r2, h1, h2, h3⟩
            · have := HS3.out; rw [h1] at this; exact .inr ⟨this, h2⟩
            · have := HS3.out; rw [h1] at this; exact .inl ⟨t2, r2, this, h2, h3⟩
        · rw [if_neg hs1] at hG2
          have ht0 := takes_st b g i tSl t1 w2 hT2 hs1
          refine ht0.mono ?_
          rintro e w3 ⟨rfl, rfl⟩
          by_cases hs2 : t1.head? = some tDs
          · obtain ⟨ts', rfl⟩ : ∃ ts', t1 = tDs :: ts' := by
              cases t1 with
              | nil => simp at hs2
              | cons a l => simp at hs2; exact ⟨l, by rw [hs2]⟩
            rw [if_pos hs2] at hG2
            obtain ⟨hrest⟩ : Aside0 ((adv b (tDs :: ts') = none ∧ o = none) ∨ ∃ t2 r2, adv b (tDs :: ts') = some t2 ∧ pathG b m i true t2 = some r2 ∧ o = r2.map fun q => ((xs ++ [{ x with deep := deepr }]) ++ q.1, q.2)) := ⟨by
              rcases Opt_some hG2 with ⟨h1, rfl⟩ | ⟨t2, h1, h2⟩
              · exact .inl ⟨h1, HO.out⟩
              · rcases then_some h2 with ⟨h3, rfl⟩ | ⟨l, t3, h3, h4⟩
                · exact .inr ⟨t2, none, h1, h3, HO.out⟩
                · refine .inr ⟨t2, some (l, t3), h1, h3, ?_⟩
                  rw [HO.out, ← Option.some.inj h4]
                  simp⟩
            have hrest := Aside0.mk hrest
            have htk := takes_yes b g i tDs ts' w2 hT2
            clear hG2 hs1 hs2 hT2 ht0
            go_wp2_with fail
            go_at_call 43
            refine htk.mono ?_
            rintro e w3 ⟨rfl, hg3, hs3⟩
            have HG3 := Aside0.mk hg3
            have HS3 := Aside0.mk hs3
            clear hg3 hs3 htk
            go_wp2
            go_roundg m
            case measure => omega
            case rel =>
              refine ⟨true, xs ++ [{ x with deep := deepr }], rfl, HO2.out.grown movS HG3.out HLT.out, gb_then HGB2.out HG3.out, HV2.out.move HG3.out (fun k e => by injection e; omega), by have := HLEN.out; omega, by have := HLEN.out; simp; omega, ?_⟩
              rcases hrest.out with ⟨h1, h2⟩ | ⟨t2, r2, h1, h2, h3⟩
              · have := HS3.out; rw [h1] at this; exact .inr ⟨this, h2⟩
              · have := HS3.out; rw [h1] at this; exact .inl ⟨t2, r2, this, h2, h3⟩
          · rw [if_neg hs2] at hG2
            have ho : o = some (xs ++ [{ x with deep := deepr }], t1) := by rw [HO.out, ← Option.some.inj hG2]; rfl
            subst ho
            have htk := takes_st b g i tDs t1 w2 hT2 hs2
            have HT2 := Aside0.mk hT2
            clear hG2 hs1 hs2 hT2 ht0
            go_wp2_with fail
            go_at_call 43
            refine htk.mono ?_
            rintro e w3 ⟨rfl, rfl⟩
            go_wp2
            rw [Exit.noGoto_ret]
            obtain ⟨A2, c2, hv1, _⟩ := HO2.out.slice
            rw [hv1] at HO2 ⊢
            go_ret
            exact ⟨_, A2, c2, rfl, HO2.out.steps, HGB2.out, rfl, HT2.out⟩
end Go.Proofs.YtoanmoddppmffaaGreatDoor.T
