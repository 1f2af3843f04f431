/- The reference: path. -/
import Derived.Test.YtoanmoddppmffaaGreatDoorXRg
import Derived.Test.YtoanmoddppmffaaGreatDoorXQk
namespace Go.Proofs.YtoanmoddppmffaaGreatDoor.T
open Go.RowKit Go.Shelf Go.Proofs.YtoanmoddppmffaaGreatDoorW.PrintWords
set_option linter.unusedVariables false
set_option linter.unusedSimpArgs false
def RStepPost (l : List Tok) (j : Nat) (o : Option (Step × List Tok)) (w : World) (e : Ending) (w' : World) : Prop :=
  ∃ (x : Step) (A : Option Addr) (c : Nat) (kk : Int), e = .returned (.tuple #[.agg #[.bool x.deep, .int .i64 x.axis, .string x.name, .slice A x.preds.length c], .int .i64 kk]) ∧ PredsR (fun k => w.heap.size ≤ k) w' (.slice A x.preds.length c) x.preds ∧ Below w.heap.size w w' ∧ RAt l j o x kk
def RStepC (l : List Tok) (A : Option Addr) (c j : Nat) : Prop :=
  ∀ (k : Nat) (inner : Int) (o : Option (Step × List Tok)) (w : World), 0 ≤ inner → inner ≤ j → TokR w A l → stepG false k inner (l.drop j) = some o → Calls Tryz.prog 52 #[.slice A l.length c, .int .i64 (j : Int), .int .i64 inner] w (RStepPost l j o w)
theorem below_of_gb {w w' : World} (h : w.grownBy w' none) : Below w.heap.size w w' := ⟨h.os, h.tape, h.output, h.size, fun i hi => h.block i hi (by simp)⟩
theorem row_more2 {α : Type} {K : (Nat → Prop) → World → α → List Value → Prop} (M : Movable K) {T : TypeId} {base : Nat} {wr w1 W : World} {v : Value} {xs : List α} (hown : OwnR K T base wr v xs) (hb1 : Below wr.heap.size wr w1) (hb : base ≤ wr.heap.size) (hW : Below w1.heap.size w1 W)
    {y : α} {ys : List Value} (hy : K (fun k => wr.heap.size ≤ k) w1 y ys) :
    ∃ inner, W.ownsRow base T 4 v xs.length inner ∧ ∀ v1 w2, w2.ownsRow base T 4 v1 (xs.length + 1) (inner ++ ys) → W.grownBy w2 v.ownBlock → (v1.ownBlock = v.ownBlock ∨ ∃ b, v1.ownBlock = some b ∧ W.heap.size ≤ b) → OwnR K T base w2 v1 (xs ++ [y]) := by
  have hlt : ∀ k, v.ownBlock = some k → k < wr.heap.size := by
    obtain ⟨_, ho, _⟩ := hown
    exact fun k hk => own_lt ho k hk
  have h2 : OwnR K T base W v xs := (hown.below M hb1).below M hW
  obtain ⟨inner, ho, hk⟩ := h2
  refine ⟨inner, ho, fun v1 w2 h3 hgr hat => OwnR.appended M (W0 := w1) hk ho ?_ h3 hgr hat⟩
  exact M.imp_ (M.bound hy) (fun k hk => hW.block k hk.2) (fun k hk => ⟨by omega, fun e => by have := hlt k e.symm; omega⟩)
def RPathI (l : List Tok) (j : Nat) (inner : Int) (o : Option (List Step × List Tok)) (w : World) (k gk : Nat) (iv dv ov : Value) (wr : World) : Prop :=
  ∃ (i : Nat) (deep : Bool) (xs : List Step), iv = .int .i64 i ∧ j ≤ i ∧ i ≤ l.length ∧ dv = .bool deep ∧ OwnR StepR 39 w.heap.size wr ov xs ∧ Below w.heap.size w wr ∧ xs.length ≤ i ∧ gk ≤ k ∧
    ∃ r, pathG false gk inner deep (l.drop i) = some r ∧ o = r.map fun q => (xs ++ q.1, q.2)
set_option maxHeartbeats 4000000 in
set_option maxRecDepth 100000 in
theorem rPath_any (l : List Tok) (A : Option Addr) (c j : Nat) (hl : l.length ≤ 1000) (hj : j ≤ l.length) (IH : ∀ j', j ≤ j' → j' ≤ l.length → RStepC l A c j') : RPathC l A c j := by
  intro k inner deep o w h0 hin hT hr
  have HST : Aside0 (RPathI l j inner o w k k (.int .i64 j) (.bool deep) (.slice none 0 0) w) := ⟨j, deep, [], rfl, Nat.le_refl _, hj, rfl, OwnR.nil _ _ _ _, Below.refl _ _, by simp, Nat.le_refl _, o, hr, by cases o <;> simp⟩
  have HT := Aside0.mk hT
  have HIH := Aside0.mk IH
  have hin' : inner ≤ 1000 := by omega
  clear hT hr IH
  go_enter Tryz.func33, Tryz.ntmps33
  go_wp2
  go_loopg [1, 2, 10] k (fun gk iv dv ov wr => Aside0 (RPathI l j inner o w k gk iv dv ov wr))
  case atStart => exact HST
  case round =>
    obtain ⟨i, deepr, xs, rfl, hji, hil, rfl, hown, hb, hxl, hgk, r, hG, ho⟩ := hrel.out
    obtain ⟨A0, c0, rfl, hcap⟩ := hown.slice
    clear hrel HST
    obtain ⟨m, rfl⟩ : ∃ m, gk = m + 1 := by
      cases gk with
      | zero => simp only [pathG] at hG; cases hG
      | succ m => exact ⟨m, rfl⟩
    simp only [pathG] at hG
    obtain ⟨o1, ho1⟩ : ∃ o1, stepG false m inner (l.drop i) = some o1 := by
      rcases then_some hG with ⟨h1, _⟩ | ⟨y, t, h1, _⟩ <;> exact ⟨_, h1⟩
    have hcall := HIH.out i hji hil m inner o1 wr h0 (by omega) (HT.out.below hb) ho1
    have hi0 : (0 : Int) ≤ (i : Int) := by omega
    have hi1 : (i : Int) ≤ 1000 := by omega
    have HG := Aside0.mk hG
    have HO1 := Aside0.mk ho1
    have HOW := Aside0.mk hown
    have HB := Aside0.mk hb
    have HO := Aside0.mk ho
    have HXL := Aside0.mk hxl
    have HGK := Aside0.mk hgk
    clear hG ho1 hown hb ho hxl hgk
    go_wp2_with fail
    go_at_call 52
    refine hcall.mono ?_
    rintro e w1 ⟨x, A1, c1, kk, rfl, hx1, hx2, hx3⟩
    have HX1 := Aside0.mk hx1
    have HX2 := Aside0.mk hx2
    by_cases hk0 : kk < 0
    · have HN : Aside0 (o = none) := ⟨by
        have : o1 = none := by
          cases o1 with
          | none => rfl
          | some q => obtain ⟨_, j', _, _, h, _⟩ := hx3; omega
        rw [this] at HO1
        rcases then_some HG.out with ⟨h1, h2⟩ | ⟨s, t1, h1, _⟩
        · rw [HO.out, h2]; rfl
        · rw [HO1.out] at h1; cases h1⟩
      clear hx1 hx2 hx3 hcall
      go_wp2
      go_ret2
      refine ⟨[], none, 0, -1, rfl, StepsR.nil _ _, ?_, ?_⟩
      · exact below_step (below_step HB.out HX2.out) (below_alloc (Below.refl _ _) _)
      · rw [HN.out]; rfl
    · obtain ⟨t1, i', rfl, hi2, hi3, rfl, rfl⟩ : ∃ t1 i', o1 = some (x, t1) ∧ i ≤ i' ∧ i' ≤ l.length ∧ kk = ((i' : Nat) : Int) ∧ t1 = l.drop i' := by
        cases o1 with
        | none => exact absurd hx3 (by intro h; have h' : kk = -1 := h; omega)
        | some q => obtain ⟨y, ts⟩ := q; obtain ⟨rfl, j', h1, h2, h3, h4⟩ := hx3; exact ⟨ts, j', rfl, h1, h2, h3, h4⟩
      have HG2 : Aside0 ((if l[i']? = some tSl then Opt (some (l.drop (i' + 1))) fun t2 => (pathG false m inner false t2).then_ fun l' t3 => some (some ({ x with deep := deepr } :: l', t3))
          else if l[i']? = some tDs then Opt (some (l.drop (i' + 1))) fun t2 => (pathG false m inner true t2).then_ fun l' t3 => some (some ({ x with deep := deepr } :: l', t3))
          else some (some ([{ x with deep := deepr }], l.drop i'))) = some r) := ⟨by
        rcases then_some HG.out with ⟨h1, h2⟩ | ⟨s, t1, h1, h2⟩
        · rw [HO1.out] at h1; cases h1
        · rw [HO1.out] at h1
          obtain ⟨rfl, rfl⟩ := Prod.mk.inj (Option.some.inj (Option.some.inj h1))
          rw [head_drop, adv_drop] at h2
          exact h2⟩
      clear hx3 HG HO1 hcall
      have hz1 := hx2.size
      have hzr := HB.out.size
      have hWb : Below w1.heap.size w1 ((w1.alloc (.cells #[.bool x.deep, .int .i64 x.axis, .string x.name, .slice A1 x.preds.length c1] 39)).setCell ⟨w1.heap.size, 0, none⟩ (.bool deepr)) := below_of_gb (gb_setNew (gb_alloc (gb_refl _ _) _) (Nat.le_refl _))
      generalize hW0 : w1.alloc (.cells #[.bool x.deep, .int .i64 x.axis, .string x.name, .slice A1 x.preds.length c1] 39) = W0 at hWb
      have hn0 : W0.heap[w1.heap.size]? = some (.cells #[.bool x.deep, .int .i64 x.axis, .string x.name, .slice A1 x.preds.length c1] 39 (0, 0)) := by rw [← hW0]; exact blk_new _ _
      have f0 := blk_frozen hn0 0
      have z0 : W0.cell? ⟨w1.heap.size, 0, none⟩ = some (.bool x.deep) := (blk_cell hn0 0).trans rfl
      have hn1 := blk_put hn0 0 (.bool deepr) rfl
      generalize hW : W0.setCell ⟨w1.heap.size, 0, none⟩ (.bool deepr) = W at hWb hn1
      have y0 : W.cell? ⟨w1.heap.size, 0, none⟩ = some (.bool deepr) := (blk_cell hn1 0).trans rfl
      have y1 : W.cell? ⟨w1.heap.size, 1, none⟩ = some (.int .i64 x.axis) := (blk_cell hn1 1).trans rfl
      have y2 : W.cell? ⟨w1.heap.size, 2, none⟩ = some (.string x.name) := (blk_cell hn1 2).trans rfl
      have y3 : W.cell? ⟨w1.heap.size, 3, none⟩ = some (.slice A1 x.preds.length c1) := (blk_cell hn1 3).trans rfl
      obtain ⟨inr, how, hmore⟩ := row_more2 movS HOW.out HX2.out hzr hWb (y := { x with deep := deepr }) (StepR.mk_ (x := { x with deep := deepr }) HX1.out)
      have HOWN := Aside0.mk how
      have HMORE := Aside0.mk hmore
      have HLEN2 : Aside0 ((xs.length + 1) * 56 ≤ 140737488355328) := ⟨by have := HXL.out; omega⟩
      have hzw := hWb.size
      have HBASE : Aside0 (w.heap.size ≤ W.heap.size) := ⟨by omega⟩
      have HWB := Aside0.mk hWb
      clear how hmore hx1 hx2 hWb hn0 hn1
      have hi20 : (0 : Int) ≤ (i' : Int) := by omega
      have hi21 : (i' : Int) ≤ 1000 := by omega
      go_wp2_with (at_builtin; refine print_append_cells (w0 := W) w.heap.size rfl (.tmp 24) (.tmp 26) 22 39 (.agg #[.bool false, .int .i64 0, .string ⟨#[]⟩, .slice none 0 0]) 4 56 rfl Tryz.underlying22 infoS rfl (by decide) (by decide) (.slice A0 xs.length c0) xs.length inr [.bool deepr, .int .i64 x.axis, .string x.name, .slice A1 x.preds.length c1] rfl rfl rfl ?c1 HOWN.out (Below.refl _ _) HBASE.out HLEN2.out ?_; (case c1 => exact (movS.len (StepR.mk_ (x := { x with deep := deepr }) HX1.out)).2); intro v1 w2 ho hbel hg hat; have HO2 := Aside0.mk (HMORE.out v1 w2 ho hg hat); have HG3 := Aside0.mk hg; clear ho hbel hg hat)
      have hobase : ∀ k', (Value.slice A0 xs.length c0).ownBlock = some k' → w.heap.size ≤ k' := fun k' hk => own_base HOWN.out k' hk
      have HB2 : Aside0 (Below w.heap.size w w2) := ⟨below_of_gb (gb_trans (gb_below (gb_below (grown_of_below HB.out none) HX2.out) HWB.out) HG3.out (.inr hobase))⟩
      have hTr := HT.out.below HB2.out
      have hG := HG2.out
      clear hobase HG3 HG2 y0 y1 y2 y3 z0 f0
      by_cases c1' : l[i']? = some tSl
      · rw [if_pos c1'] at hG
        have HREST : Aside0 (∃ r2, pathG false m inner false (l.drop (i' + 1)) = some r2 ∧ o = r2.map fun q => ((xs ++ [{ x with deep := deepr }]) ++ q.1, q.2)) := ⟨by
          simp only [Opt] at hG
          rcases then_some hG with ⟨h3, h4⟩ | ⟨l', t3, h3, h4⟩
          · exact ⟨none, h3, by rw [HO.out, h4]; rfl⟩
          · refine ⟨some (l', t3), h3, ?_⟩
            rw [HO.out, ← Option.some.inj h4]
            simp⟩
        have hil2 := tok_lt c1'
        have hat := at_lit (A := A) (c := c) hTr c1'
        have hat' : Calls Tryz.prog 32 #[.slice A l.length c, .int .i64 (i' : Int)] w2 fun e w' => e = .returned (.string ⟨#[47]⟩) ∧ w2 = w' := hat
        clear hat hTr hG c1'
        go_at_call 32
        refine hat'.mono ?_
        rintro e w3 ⟨rfl, rfl⟩
        go_wp2_with fail
        go_at_call 32
        refine hat'.mono ?_
        rintro e w3 ⟨rfl, rfl⟩
        go_wp2
        go_roundg m
        case measure => omega
        case rel =>
          obtain ⟨r2, h1, h2⟩ := HREST.out
          exact ⟨i' + 1, false, xs ++ [{ x with deep := deepr }], by simp, by omega, by omega, rfl, HO2.out, HB2.out, by have := HXL.out; simp; omega, by have := HGK.out; omega, r2, h1, h2⟩
      · rw [if_neg c1'] at hG
        by_cases c2' : l[i']? = some tDs
        · rw [if_pos c2'] at hG
          have HREST : Aside0 (∃ r2, pathG false m inner true (l.drop (i' + 1)) = some r2 ∧ o = r2.map fun q => ((xs ++ [{ x with deep := deepr }]) ++ q.1, q.2)) := ⟨by
            simp only [Opt] at hG
            rcases then_some hG with ⟨h3, h4⟩ | ⟨l', t3, h3, h4⟩
            · exact ⟨none, h3, by rw [HO.out, h4]; rfl⟩
            · refine ⟨some (l', t3), h3, ?_⟩
              rw [HO.out, ← Option.some.inj h4]
              simp⟩
          have hil2 := tok_lt c2'
          have hat := at_lit (A := A) (c := c) hTr c2'
          have hat' : Calls Tryz.prog 32 #[.slice A l.length c, .int .i64 (i' : Int)] w2 fun e w' => e = .returned (.string ⟨#[47, 47]⟩) ∧ w2 = w' := hat
          clear hat hTr hG c1' c2'
          go_at_call 32
          refine hat'.mono ?_
          rintro e w3 ⟨rfl, rfl⟩
          go_wp2_with fail
          go_at_call 32
          refine hat'.mono ?_
          rintro e w3 ⟨rfl, rfl⟩
          go_wp2_with fail
          go_at_call 32
          refine hat'.mono ?_
          rintro e w3 ⟨rfl, rfl⟩
          go_wp2
          go_roundg m
          case measure => omega
          case rel =>
            obtain ⟨r2, h1, h2⟩ := HREST.out
            exact ⟨i' + 1, true, xs ++ [{ x with deep := deepr }], by simp, by omega, by omega, rfl, HO2.out, HB2.out, by have := HXL.out; simp; omega, by have := HGK.out; omega, r2, h1, h2⟩
        · rw [if_neg c2'] at hG
          have ho : o = some (xs ++ [{ x with deep := deepr }], l.drop i') := by rw [HO.out, ← Option.some.inj hG]; rfl
          have HOO := Aside0.mk ho
          have hat := at_any l A c i' w2 hTr
          have hb1 := ne_beq (bs' := [47]) (atL_ne c1' (by decide))
          have hb2 := ne_beq (bs' := [47, 47]) (atL_ne c2' (by decide))
          generalize atL l i' = s5 at hat hb1 hb2
          clear hTr hG c1' c2' ho
          go_at_call 32
          refine hat.mono ?_
          rintro e w3 ⟨rfl, rfl⟩
          go_wp2_with fail
          go_at_call 32
          refine hat.mono ?_
          rintro e w3 ⟨rfl, rfl⟩
          go_wp2
          obtain ⟨A2, c2, hv1, _⟩ := HO2.out.slice
          rw [hv1] at HO2 ⊢
          go_ret2
          refine ⟨_, A2, c2, _, rfl, HO2.out.steps, HB2.out, ?_⟩
          rw [HOO.out]
          exact ⟨rfl, i', by omega, hi3, rfl, rfl⟩
end Go.Proofs.YtoanmoddppmffaaGreatDoor.T
