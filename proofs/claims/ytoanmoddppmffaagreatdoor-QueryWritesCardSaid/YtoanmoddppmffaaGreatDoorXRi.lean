/- The reference: step. -/
import Derived.Test.YtoanmoddppmffaaGreatDoorXRh
import Derived.Test.YtoanmoddppmffaaGreatDoorXQl
import Derived.Deep.QuietTactic
namespace Go.Proofs.YtoanmoddppmffaaGreatDoor.T
open Go.RowKit Go.Shelf Go.Proofs.YtoanmoddppmffaaGreatDoorW.PrintWords
set_option linter.unusedVariables false
set_option linter.unusedSimpArgs false
theorem isNm_nil : isNm ⟨#[]⟩ = false := rfl
theorem namedG_at (l : List Tok) (i : Nat) : namedG false (l.drop i) = if l[i]? = some tStar ∨ isNm (atL l i) = true then some (atL l i, l.drop (i + 1)) else none := by
  have e := head_drop l i
  have ea := adv_drop l i
  cases hd : l.drop i with
  | nil =>
    rw [hd] at e
    have h1 : atL l i = ⟨#[]⟩ := by unfold atL; rw [← e]; rfl
    rw [h1, ← e]
    simp [namedG, isNm_nil]
  | cons t ts =>
    rw [hd] at e ea
    have ht : l[i]? = some t := by rw [← e]; rfl
    rw [atL_some ht, ht]
    simp only [namedG, ea, Option.map_some, Option.some.injEq]
theorem headG_at (l : List Tok) (j : Nat) : headG false (l.drop j) =
    if l[j]? = some tDot then some ((4, ⟨#[]⟩), l.drop (j + 1))
    else if l[j]? = some tDd then some ((5, ⟨#[]⟩), l.drop (j + 1))
    else if l[j]? = some tText ∧ l[j + 1]? = some tLp then (if l[j + 2]? = some tRp then some ((3, ⟨#[]⟩), l.drop (j + 3)) else none)
    else if l[j]? = some tAt then (if l[j + 1]? = some tStar ∨ isNm (atL l (j + 1)) = true then some ((2, atL l (j + 1)), l.drop (j + 2)) else none)
    else if l[j]? = some tStar ∨ isNm (atL l j) = true then some ((1, atL l j), l.drop (j + 1)) else none := by
  have e1 : (l.drop j)[1]? = l[j + 1]? := by rw [List.getElem?_drop]
  unfold headG
  rw [head_drop, e1, adv_drop]
  simp only [Option.map_some, Option.bind_some]
  by_cases h1 : l[j]? = some tDot
  · rw [if_pos h1, if_pos h1]
  rw [if_neg h1, if_neg h1]
  by_cases h2 : l[j]? = some tDd
  · rw [if_pos h2, if_pos h2]
  rw [if_neg h2, if_neg h2]
  by_cases h3 : l[j]? = some tText ∧ l[j + 1]? = some tLp
  · rw [if_pos h3, if_pos h3]
    unfold need
    rw [head_drop, if_pos h3.2, adv_drop]
    simp only [Option.bind_some]
    rw [head_drop, adv_drop]
    by_cases h4 : l[j + 1 + 1]? = some tRp
    · rw [if_pos h4, if_pos h4]; rfl
    · rw [if_neg h4, if_neg h4]; rfl
  rw [if_neg h3, if_neg h3]
  by_cases h4 : l[j]? = some tAt
  · rw [if_pos h4, if_pos h4, namedG_at]
    by_cases h5 : l[j + 1]? = some tStar ∨ isNm (atL l (j + 1)) = true
    · rw [if_pos h5, if_pos h5]; rfl
    · rw [if_neg h5, if_neg h5]; rfl
  rw [if_neg h4, if_neg h4, namedG_at]
  by_cases h5 : l[j]? = some tStar ∨ isNm (atL l j) = true
  · rw [if_pos h5, if_pos h5]; rfl
  · rw [if_neg h5, if_neg h5]; rfl
theorem rstep_done {l : List Tok} {j : Nat} {o : Option (Step × List Tok)} {w w2 : World} {x : Step} {v : Value} {kk : Int}
    (h1 : PredsR (fun k => w.heap.size < k) w2 v x.preds) (hb : Below w.heap.size w w2) (ha : RAt l j o x kk) :
    PredsR (fun k => w.heap.size ≤ k) (put4 w2 w.heap.size (.bool x.deep) (.int .i64 x.axis) (.string x.name) v) v x.preds ∧ Below w.heap.size w (put4 w2 w.heap.size (.bool x.deep) (.int .i64 x.axis) (.string x.name) v) ∧ RAt l j o x kk := by
  have h3 := put4_gb (grown_of_below hb none) (Nat.le_refl _) (.bool x.deep) (.int .i64 x.axis) (.string x.name) v
  exact ⟨h1.imp_ (fun k hk => put4_far _ (by omega) _ _ _ _) (fun k hk => by omega), below_of_gb h3, ha⟩
def RHead (l : List Tok) (j : Nat) (w : World) (iv : Value) (wx : World) : Prop :=
  ∃ (i' : Nat) (ax : Int) (nm : ByteArray), iv = .int .i64 i' ∧ j < i' ∧ i' ≤ l.length ∧ wx.heap[w.heap.size + 1]? = some (.cells #[.bool false, .int .i64 ax, .string nm, .slice none 0 0] 39 (0, 0)) ∧
    wx.heap[w.heap.size]? = some (.cells #[.bool false, .int .i64 0, .string ⟨#[]⟩, .slice none 0 0] 39 (0, 0)) ∧ Below w.heap.size w wx ∧ w.heap.size + 2 ≤ wx.heap.size ∧ headG false (l.drop j) = some ((ax, nm), l.drop i')
def RStI (l : List Tok) (j : Nat) (inner : Int) (o : Option (Step × List Tok)) (w : World) (k gk : Nat) (iv : Value) (wr : World) : Prop :=
  ∃ (i' : Nat) (x : Step) (A : Option Addr) (c : Nat), iv = .int .i64 i' ∧ j < i' ∧ i' ≤ l.length ∧ wr.heap[w.heap.size + 1]? = some (.cells #[.bool x.deep, .int .i64 x.axis, .string x.name, .slice A x.preds.length c] 39 (0, 0)) ∧
    wr.heap[w.heap.size]? = some (.cells #[.bool false, .int .i64 0, .string ⟨#[]⟩, .slice none 0 0] 39 (0, 0)) ∧ OwnR PredR 41 (w.heap.size + 2) wr (.slice A x.preds.length c) x.preds ∧ Below w.heap.size w wr ∧ w.heap.size + 2 ≤ wr.heap.size ∧ gk ≤ k ∧ x.preds.length ≤ i' ∧
    ∃ r, predsG false gk (inner + 1) (l.drop i') = some r ∧ o = r.map fun q => ({ x with preds := x.preds ++ q.1 }, q.2)
theorem rhead {l : List Tok} {j : Nat} {w wx : World} {iv : Value} (i' : Nat) (ax : Int) (nm : ByteArray) (h1 : iv = .int .i64 (i' : Int)) (h2 : j < i') (h3 : i' ≤ l.length) (h4 : wx.heap[w.heap.size + 1]? = some (.cells #[.bool false, .int .i64 ax, .string nm, .slice none 0 0] 39 (0, 0)))
    (h5 : wx.heap[w.heap.size]? = some (.cells #[.bool false, .int .i64 0, .string ⟨#[]⟩, .slice none 0 0] 39 (0, 0))) (h6 : Below w.heap.size w wx) (h7 : headG false (l.drop j) = some ((ax, nm), l.drop i')) : Aside0 (RHead l j w iv wx) :=
  ⟨i', ax, nm, h1, h2, h3, h4, h5, h6, by have := blk_lt h4; omega, h7⟩
theorem below_set {w w1 : World} {p : Addr} {u : Value} (h : Below w.heap.size w w1) (hp : w.heap.size ≤ p.block) : Below w.heap.size w (w1.setCell p u) := below_of_gb (gb_setNew (grown_of_below h none) hp)
set_option maxHeartbeats 4000000 in
set_option maxRecDepth 100000 in
theorem rStep_any (l : List Tok) (A : Option Addr) (c j : Nat) (hl : l.length ≤ 1000) (hj : j ≤ l.length) (hW : TokW l) (HEN : ∀ i inner, ∃ k o, predG false k inner (l.drop i) = some o) (IH : ∀ j', j < j' → j' ≤ l.length → RC 68 (predG false) l A c j') : RStepC l A c j := by
  intro k inner o w h0 hin hT hr
  obtain ⟨k, rfl⟩ : ∃ k', k = k' + 1 := by
    cases k with
    | zero => simp only [stepG] at hr; cases hr
    | succ k => exact ⟨k, rfl⟩
  simp only [stepG] at hr
  have hbf : (w.alloc (.cells #[.bool false, .int .i64 0, .string ⟨#[]⟩, .slice none 0 0] 39)).heap.size = w.heap.size + 1 := by simp
  have hn1 := blk_new (w.alloc (.cells #[.bool false, .int .i64 0, .string ⟨#[]⟩, .slice none 0 0] 39)) (.cells #[.bool false, .int .i64 0, .string ⟨#[]⟩, .slice none 0 0] 39)
  rw [hbf] at hn1
  have hr1 := blk_alloc (blk_new w (.cells #[.bool false, .int .i64 0, .string ⟨#[]⟩, .slice none 0 0] 39)) (.cells #[.bool false, .int .i64 0, .string ⟨#[]⟩, .slice none 0 0] 39)
  have hb1 : Below w.heap.size w ((w.alloc (.cells #[.bool false, .int .i64 0, .string ⟨#[]⟩, .slice none 0 0] 39)).alloc (.cells #[.bool false, .int .i64 0, .string ⟨#[]⟩, .slice none 0 0] 39)) := below_step (below_alloc (Below.refl _ _) _) (below_alloc (Below.refl _ _) _)
  generalize hw1 : (w.alloc (.cells #[.bool false, .int .i64 0, .string ⟨#[]⟩, .slice none 0 0] 39)).alloc (.cells #[.bool false, .int .i64 0, .string ⟨#[]⟩, .slice none 0 0] 39) = w1 at hn1 hr1 hb1
  have hat := at_any l A c j w1 (hT.below hb1)
  have hsz : (atL l j).size ≤ 1000 := by
    unfold atL
    cases he : l[j]? with
    | none => decide
    | some t => exact (hW t (List.mem_of_getElem? he)).2.2
  have hnm := refName_any (atL l j) w1 (by omega)
  obtain ⟨s, HS⟩ : ∃ s, Aside0 (atL l j = s) := ⟨_, ⟨rfl⟩⟩
  obtain ⟨nmb, HNM⟩ : ∃ b, Aside0 (isNm (atL l j) = b) := ⟨_, ⟨rfl⟩⟩
  rw [HNM.out, HS.out] at hnm
  rw [HS.out] at hat
  have HR := Aside0.mk hr
  have HT := Aside0.mk hT
  have HIH := Aside0.mk IH
  have HENs := Aside0.mk HEN
  have HWs := Aside0.mk hW
  have HN1 := Aside0.mk hn1
  have HR1 := Aside0.mk hr1
  have HB1 := Aside0.mk hb1
  have hin' : inner ≤ 1000 := by omega
  have hj0 : (0 : Int) ≤ (j : Int) := by omega
  have hj1 : (j : Int) ≤ 1000 := by omega
  clear hr hT IH HEN hW hn1 hr1 hb1 hsz
  go_enter Tryz.func52, Tryz.ntmps52
  go_wp2_with fail
  go_at_call 32
  refine hat.mono ?_
  rintro e w2 ⟨rfl, rfl⟩
  go_wp2_with fail
  go_at_call 47
  refine hnm.mono ?_
  rintro e w2 ⟨rfl, rfl⟩
  clear hat hnm
  go_upto_block 0 with fail
  go_outline
  go_cut [1, 11] (fun iv _ wx => Aside0 (RHead l j w iv wx))
  case first =>
    have hneS : w.heap.size ≠ w.heap.size + 1 := Nat.ne_of_lt (Nat.lt_succ_self _)
    have HNO : Aside0 (headG false (l.drop j) = none → o = none) := ⟨fun h => by
      have h1 := HR.out
      rw [h] at h1
      exact (Option.some.inj h1).symm⟩
    have hn1 := HN1.out
    have hr1 := HR1.out
    have se0 : w1.cell? ⟨w.heap.size + 1, 0, none⟩ = some (.bool false) := (blk_cell hn1 0).trans rfl
    have se1 : w1.cell? ⟨w.heap.size + 1, 1, none⟩ = some (.int .i64 0) := (blk_cell hn1 1).trans rfl
    have se2 : w1.cell? ⟨w.heap.size + 1, 2, none⟩ = some (.string ⟨#[]⟩) := (blk_cell hn1 2).trans rfl
    have se3 : w1.cell? ⟨w.heap.size + 1, 3, none⟩ = some (.slice none 0 0) := (blk_cell hn1 3).trans rfl
    have sf0 := blk_frozen hn1 0
    have sf1 := blk_frozen hn1 1
    have sf2 := blk_frozen hn1 2
    have sf3 := blk_frozen hn1 3
    have re0 : w1.cell? ⟨w.heap.size, 0, none⟩ = some (.bool false) := (blk_cell hr1 0).trans rfl
    have re1 : w1.cell? ⟨w.heap.size, 1, none⟩ = some (.int .i64 0) := (blk_cell hr1 1).trans rfl
    have re2 : w1.cell? ⟨w.heap.size, 2, none⟩ = some (.string ⟨#[]⟩) := (blk_cell hr1 2).trans rfl
    have re3 : w1.cell? ⟨w.heap.size, 3, none⟩ = some (.slice none 0 0) := (blk_cell hr1 3).trans rfl
    have rf0 := blk_frozen hr1 0
    have rf1 := blk_frozen hr1 1
    have rf2 := blk_frozen hr1 2
    have rf3 := blk_frozen hr1 3
    clear hn1 hr1
    by_cases c1 : l[j]? = some tDot
    · have hs : s = ⟨#[46]⟩ := by rw [← HS.out, atL_some c1]; rfl
      subst hs
      have hlt := tok_lt c1
      have hG := headG_at l j
      rw [if_pos c1] at hG
      clear c1
      go_wp2
      go_meet
      case rel => exact rhead (j + 1) 4 ⟨#[]⟩ (by simp) (by omega) (by omega) (blk_put HN1.out 1 (.int .i64 4) rfl) (blk_far HR1.out hneS _) (below_set HB1.out (by simp)) hG
    by_cases c2 : l[j]? = some tDd
    · have hs : s = ⟨#[46, 46]⟩ := by rw [← HS.out, atL_some c2]; rfl
      subst hs
      have hlt := tok_lt c2
      have hG := headG_at l j
      rw [if_neg c1, if_pos c2] at hG
      clear c1 c2
      go_wp2
      go_meet
      case rel => exact rhead (j + 1) 5 ⟨#[]⟩ (by simp) (by omega) (by omega) (blk_put HN1.out 1 (.int .i64 5) rfl) (blk_far HR1.out hneS _) (below_set HB1.out (by simp)) hG
    by_cases c3 : l[j]? = some tText ∧ l[j + 1]? = some tLp
    · have hs : s = ⟨#[116, 101, 120, 116]⟩ := by rw [← HS.out, atL_some c3.1]; rfl
      subst hs
      have hlt := tok_lt c3.2
      have hat := at_lit (A := A) (c := c) (HT.out.below HB1.out) c3.2
      have hat' : Calls Tryz.prog 32 #[.slice A l.length c, .int .i64 ((j : Int) + 1)] w1 fun e w' => e = .returned (.string ⟨#[40]⟩) ∧ w1 = w' := hat
      have hG := headG_at l j
      rw [if_neg c1, if_neg c2, if_pos c3] at hG
      by_cases c4 : l[j + 2]? = some tRp
      · have hlt2 := tok_lt c4
        have hat2 := at_lit (A := A) (c := c) (HT.out.below HB1.out) c4
        have hat2' : Calls Tryz.prog 32 #[.slice A l.length c, .int .i64 ((j : Int) + 2)] w1 fun e w' => e = .returned (.string ⟨#[41]⟩) ∧ w1 = w' := hat2
        rw [if_pos c4] at hG
        clear c1 c2 c3 c4 hat hat2
        go_wp2_with fail
        go_at_call 32
        refine hat'.mono ?_
        rintro e w2 ⟨rfl, rfl⟩
        go_wp2_with fail
        go_at_call 32
        refine hat2'.mono ?_
        rintro e w2 ⟨rfl, rfl⟩
        go_wp2
        go_meet
        case rel => exact rhead (j + 3) 3 ⟨#[]⟩ (by simp) (by omega) (by omega) (blk_put HN1.out 1 (.int .i64 3) rfl) (blk_far HR1.out hneS _) (below_set HB1.out (by simp)) hG
      · have hat2 := at_any l A c (j + 2) w1 (HT.out.below HB1.out)
        have hat2' : Calls Tryz.prog 32 #[.slice A l.length c, .int .i64 ((j : Int) + 2)] w1 fun e w' => e = .returned (.string (atL l (j + 2))) ∧ w1 = w' := hat2
        have hb5 := ne_beq (bs' := [41]) (atL_ne c4 (by decide))
        rw [if_neg c4] at hG
        generalize atL l (j + 2) = s2 at hat2' hb5
        clear c1 c2 c3 c4 hat hat2
        go_wp2_with fail
        go_at_call 32
        refine hat'.mono ?_
        rintro e w2 ⟨rfl, rfl⟩
        go_wp2_with fail
        go_at_call 32
        refine hat2'.mono ?_
        rintro e w2 ⟨rfl, rfl⟩
        go_wp2
        have hw9 := put4_at HR1.out (.bool (⟨false, 0, ⟨#[]⟩, []⟩ : Step).deep) (.int .i64 (⟨false, 0, ⟨#[]⟩, []⟩ : Step).axis) (.string (⟨false, 0, ⟨#[]⟩, []⟩ : Step).name) (.slice none (⟨false, 0, ⟨#[]⟩, []⟩ : Step).preds.length 0)
        have hgot := rstep_done (x := (⟨false, 0, ⟨#[]⟩, []⟩ : Step)) (PredsR.nil _ _) (HB1.out) (show RAt l j o (⟨false, 0, ⟨#[]⟩, []⟩ : Step) (-1) by rw [HNO.out hG]; exact rfl)
        change bodyPost _ _ _ _ _ (put4 w1 w.heap.size (.bool (⟨false, 0, ⟨#[]⟩, []⟩ : Step).deep) (.int .i64 (⟨false, 0, ⟨#[]⟩, []⟩ : Step).axis) (.string (⟨false, 0, ⟨#[]⟩, []⟩ : Step).name) (.slice none (⟨false, 0, ⟨#[]⟩, []⟩ : Step).preds.length 0))
        generalize put4 w1 w.heap.size (.bool (⟨false, 0, ⟨#[]⟩, []⟩ : Step).deep) (.int .i64 (⟨false, 0, ⟨#[]⟩, []⟩ : Step).axis) (.string (⟨false, 0, ⟨#[]⟩, []⟩ : Step).name) (.slice none (⟨false, 0, ⟨#[]⟩, []⟩ : Step).preds.length 0) = w9 at hw9 hgot ⊢
        have q0 : w9.cell? ⟨w.heap.size, 0, none⟩ = some (.bool (⟨false, 0, ⟨#[]⟩, []⟩ : Step).deep) := (blk_cell hw9 0).trans rfl
        have q1 : w9.cell? ⟨w.heap.size, 1, none⟩ = some (.int .i64 (⟨false, 0, ⟨#[]⟩, []⟩ : Step).axis) := (blk_cell hw9 1).trans rfl
        have q2 : w9.cell? ⟨w.heap.size, 2, none⟩ = some (.string (⟨false, 0, ⟨#[]⟩, []⟩ : Step).name) := (blk_cell hw9 2).trans rfl
        have q3 : w9.cell? ⟨w.heap.size, 3, none⟩ = some (.slice none (⟨false, 0, ⟨#[]⟩, []⟩ : Step).preds.length 0) := (blk_cell hw9 3).trans rfl
        refine bodyPost_ret (v := .tuple #[.agg #[.bool (⟨false, 0, ⟨#[]⟩, []⟩ : Step).deep, .int .i64 (⟨false, 0, ⟨#[]⟩, []⟩ : Step).axis, .string (⟨false, 0, ⟨#[]⟩, []⟩ : Step).name, .slice none (⟨false, 0, ⟨#[]⟩, []⟩ : Step).preds.length 0], .int .i64 (-1:Int)]) (by simp [results, Tryz.results52, go_sem, q0, q1, q2, q3]) rfl ?_
        exact ⟨(⟨false, 0, ⟨#[]⟩, []⟩ : Step), none, 0, (-1:Int), rfl, hgot⟩
    by_cases c4 : l[j]? = some tAt
    · have hs : s = ⟨#[64]⟩ := by rw [← HS.out, atL_some c4]; rfl
      subst hs
      have hlt := tok_lt c4
      have hG := headG_at l j
      rw [if_neg c1, if_neg c2, if_neg c3, if_pos c4] at hG
      have hsz2 : (atL l (j + 1)).size ≤ 1000 := by
        unfold atL
        cases he : l[j + 1]? with
        | none => decide
        | some t => exact (HWs.out t (List.mem_of_getElem? he)).2.2
      obtain ⟨s2, HS2⟩ : ∃ s, Aside0 (atL l (j + 1) = s) := ⟨_, ⟨rfl⟩⟩
      rw [HS2.out] at hG hsz2
      have hat2 : ∀ w', Below w.heap.size w w' → Calls Tryz.prog 32 #[.slice A l.length c, .int .i64 ((j : Int) + 1)] w' fun e w'' => e = .returned (.string s2) ∧ w' = w'' := fun w' hb => by
        have := at_any l A c (j + 1) w' (HT.out.below hb)
        rwa [HS2.out] at this
      have hnm2 := fun w' => refName_any s2 w' (by omega)
      have HW2 : Aside0 (Below w.heap.size w (w1.setCell ⟨w.heap.size + 1, 1, none⟩ (.int .i64 2))) := ⟨below_set HB1.out (by simp)⟩
      have hn2 := blk_put HN1.out 1 (.int .i64 2) rfl
      have hr2 := blk_far HR1.out (p := ⟨w.heap.size + 1, 1, none⟩) hneS (.int .i64 2)
      have HN2 := Aside0.mk hn2
      have HR2 := Aside0.mk hr2
      have nb_ : ∃ b, Aside0 (isNm s2 = b) := ⟨_, ⟨rfl⟩⟩
      obtain ⟨nb2, HNB⟩ := nb_
      rw [HNB.out] at hnm2 hG
      by_cases d1 : l[j + 1]? = some tStar
      · have HL2 : Aside0 (j + 1 < l.length) := ⟨tok_lt d1⟩
        have hs2 : s2 = ⟨#[42]⟩ := by rw [← HS2.out, atL_some d1]; rfl
        subst hs2
        rw [if_pos (.inl d1)] at hG
        clear hn2 hr2 c1 c2 c3 c4 d1
        go_wp2_with fail
        go_at_call 32
        refine (hat2 _ HW2.out).mono ?_
        rintro e w2 ⟨rfl, rfl⟩
        go_wp2_with fail
        go_at_call 47
        refine (hnm2 _).mono ?_
        rintro e w2 ⟨rfl, rfl⟩
        go_wp2
        go_meet
        case rel => exact rhead (j + 2) 2 ⟨#[42]⟩ (by simp) (by omega) (by have := HL2.out; omega) (blk_put HN2.out 2 (.string ⟨#[42]⟩) rfl) (blk_far HR2.out (p := ⟨w.heap.size + 1, 2, none⟩) hneS _) (below_set HW2.out (by simp)) hG
      · have hb6 := ne_beq (bs' := [42]) (atL_ne d1 (by decide))
        rw [HS2.out] at hb6
        cases nb2 with
        | true =>
          have HL2 : Aside0 (j + 1 < l.length) := ⟨by
            rcases Nat.lt_or_ge (j + 1) l.length with h | h
            · exact h
            · have h1 : s2 = ⟨#[]⟩ := by rw [← HS2.out]; simp [atL, h]
              have h2 := HNB.out
              rw [h1] at h2
              cases h2⟩
          rw [if_pos (.inr rfl)] at hG
          clear hn2 hr2 c1 c2 c3 c4 d1
          go_wp2_with fail
          go_at_call 32
          refine (hat2 _ HW2.out).mono ?_
          rintro e w2 ⟨rfl, rfl⟩
          go_wp2_with fail
          go_at_call 47
          refine (hnm2 _).mono ?_
          rintro e w2 ⟨rfl, rfl⟩
          go_wp2
          go_meet
          case rel => exact rhead (j + 2) 2 s2 (by simp) (by omega) (by have := HL2.out; omega) (blk_put HN2.out 2 (.string s2) rfl) (blk_far HR2.out (p := ⟨w.heap.size + 1, 2, none⟩) hneS _) (below_set HW2.out (by simp)) hG
        | false =>
          rw [if_neg (by rintro (h | h); exact d1 h; cases h)] at hG
          clear hn2 hr2 c1 c2 c3 c4 d1
          go_wp2_with fail
          go_at_call 32
          refine (hat2 _ HW2.out).mono ?_
          rintro e w2 ⟨rfl, rfl⟩
          go_wp2_with fail
          go_at_call 47
          refine (hnm2 _).mono ?_
          rintro e w2 ⟨rfl, rfl⟩
          go_wp2
          have hr3 := blk_far HR2.out (p := ⟨w.heap.size + 1, 2, none⟩) hneS (.string s2)
          have hb3 := below_set (p := ⟨w.heap.size + 1, 2, none⟩) (u := .string s2) HW2.out (by simp)
          change bodyPost _ _ _ _ _ (put4 ((w1.setCell ⟨w.heap.size + 1, 1, none⟩ (.int .i64 2)).setCell ⟨w.heap.size + 1, 2, none⟩ (.string s2)) w.heap.size _ _ _ _)
          generalize (w1.setCell ⟨w.heap.size + 1, 1, none⟩ (.int .i64 2)).setCell ⟨w.heap.size + 1, 2, none⟩ (.string s2) = w5 at hr3 hb3 ⊢
          have hw9 := put4_at hr3 (.bool (⟨false, 2, s2, []⟩ : Step).deep) (.int .i64 (⟨false, 2, s2, []⟩ : Step).axis) (.string (⟨false, 2, s2, []⟩ : Step).name) (.slice none (⟨false, 2, s2, []⟩ : Step).preds.length 0)
          have hgot := rstep_done (x := (⟨false, 2, s2, []⟩ : Step)) (PredsR.nil _ _) hb3 (show RAt l j o (⟨false, 2, s2, []⟩ : Step) (-1) by rw [HNO.out hG]; exact rfl)
          change bodyPost _ _ _ _ _ (put4 w5 w.heap.size (.bool (⟨false, 2, s2, []⟩ : Step).deep) (.int .i64 (⟨false, 2, s2, []⟩ : Step).axis) (.string (⟨false, 2, s2, []⟩ : Step).name) (.slice none (⟨false, 2, s2, []⟩ : Step).preds.length 0))
          generalize put4 w5 w.heap.size (.bool (⟨false, 2, s2, []⟩ : Step).deep) (.int .i64 (⟨false, 2, s2, []⟩ : Step).axis) (.string (⟨false, 2, s2, []⟩ : Step).name) (.slice none (⟨false, 2, s2, []⟩ : Step).preds.length 0) = w9 at hw9 hgot ⊢
          have q0 : w9.cell? ⟨w.heap.size, 0, none⟩ = some (.bool (⟨false, 2, s2, []⟩ : Step).deep) := (blk_cell hw9 0).trans rfl
          have q1 : w9.cell? ⟨w.heap.size, 1, none⟩ = some (.int .i64 (⟨false, 2, s2, []⟩ : Step).axis) := (blk_cell hw9 1).trans rfl
          have q2 : w9.cell? ⟨w.heap.size, 2, none⟩ = some (.string (⟨false, 2, s2, []⟩ : Step).name) := (blk_cell hw9 2).trans rfl
          have q3 : w9.cell? ⟨w.heap.size, 3, none⟩ = some (.slice none (⟨false, 2, s2, []⟩ : Step).preds.length 0) := (blk_cell hw9 3).trans rfl
          refine bodyPost_ret (v := .tuple #[.agg #[.bool (⟨false, 2, s2, []⟩ : Step).deep, .int .i64 (⟨false, 2, s2, []⟩ : Step).axis, .string (⟨false, 2, s2, []⟩ : Step).name, .slice none (⟨false, 2, s2, []⟩ : Step).preds.length 0], .int .i64 (-1:Int)]) (by simp [results, Tryz.results52, go_sem, q0, q1, q2, q3]) rfl ?_
          exact ⟨(⟨false, 2, s2, []⟩ : Step), none, 0, (-1:Int), rfl, hgot⟩
    have b1 := ne_beq (bs' := [46]) (atL_ne c1 (by decide))
    have b2 := ne_beq (bs' := [46, 46]) (atL_ne c2 (by decide))
    have b4 := ne_beq (bs' := [64]) (atL_ne c4 (by decide))
    have HG : Aside0 (headG false (l.drop j) = if l[j]? = some tStar ∨ isNm (atL l j) = true then some ((1, atL l j), l.drop (j + 1)) else none) := ⟨by
      rw [headG_at, if_neg c1, if_neg c2, if_neg c3, if_neg c4]⟩
    rw [HS.out] at b1 b2 b4
    have HW2 : Aside0 (Below w.heap.size w (w1.setCell ⟨w.heap.size + 1, 1, none⟩ (.int .i64 1))) := ⟨below_set HB1.out (by simp)⟩
    have HN2 := Aside0.mk (blk_put HN1.out 1 (.int .i64 1) rfl)
    have HR2 := Aside0.mk (blk_far HR1.out (p := ⟨w.heap.size + 1, 1, none⟩) hneS (.int .i64 1))
    by_cases c5 : l[j]? = some tText
    · have hs : s = ⟨#[116, 101, 120, 116]⟩ := by rw [← HS.out, atL_some c5]; rfl
      subst hs
      have hlt := tok_lt c5
      have hnb : nmb = true := by rw [← HNM.out, HS.out]; decide
      subst hnb
      have hat2 := at_any l A c (j + 1) w1 (HT.out.below HB1.out)
      have hat2' : Calls Tryz.prog 32 #[.slice A l.length c, .int .i64 ((j : Int) + 1)] w1 fun e w' => e = .returned (.string (atL l (j + 1))) ∧ w1 = w' := hat2
      have hb5 := ne_beq (bs' := [40]) (atL_ne (fun h => c3 ⟨c5, h⟩) (by decide))
      have hG := HG.out
      rw [if_pos (.inr HNM.out), HS.out] at hG
      generalize atL l (j + 1) = s2 at hat2' hb5
      clear c1 c2 c3 c4 c5 hat2 b1 b2 b4
      go_wp2_with fail
      go_at_call 32
      refine hat2'.mono ?_
      rintro e w2 ⟨rfl, rfl⟩
      go_wp2
      go_meet
      case rel => exact rhead (j + 1) 1 _ (by simp) (by omega) (by omega) (blk_put HN2.out 2 (.string ⟨#[116, 101, 120, 116]⟩) rfl) (blk_far HR2.out (p := ⟨w.heap.size + 1, 2, none⟩) hneS _) (below_set HW2.out (by simp)) hG
    have b5 := ne_beq (bs' := [116, 101, 120, 116]) (atL_ne c5 (by decide))
    rw [HS.out] at b5
    by_cases c6 : l[j]? = some tStar
    · have hs : s = ⟨#[42]⟩ := by rw [← HS.out, atL_some c6]; rfl
      subst hs
      have hlt := tok_lt c6
      have hG := HG.out
      rw [if_pos (.inl c6), HS.out] at hG
      clear c1 c2 c3 c4 c5 c6 b1 b2 b4 b5
      go_wp2
      go_meet
      case rel => exact rhead (j + 1) 1 _ (by simp) (by omega) (by omega) (blk_put HN2.out 2 (.string ⟨#[42]⟩) rfl) (blk_far HR2.out (p := ⟨w.heap.size + 1, 2, none⟩) hneS _) (below_set HW2.out (by simp)) hG
    have b6 := ne_beq (bs' := [42]) (atL_ne c6 (by decide))
    rw [HS.out] at b6
    have hG := HG.out
    rw [HNM.out, HS.out] at hG
    cases nmb with
    | true =>
      have HL2 : Aside0 (j < l.length) := ⟨by
        rcases Nat.lt_or_ge j l.length with h | h
        · exact h
        · have h1 : s = ⟨#[]⟩ := by rw [← HS.out]; simp [atL, h]
          have h2 := HNM.out
          rw [HS.out, h1] at h2
          cases h2⟩
      rw [if_pos (.inr rfl)] at hG
      clear c1 c2 c3 c4 c5 c6
      go_wp2
      go_meet
      case rel => exact rhead (j + 1) 1 s (by simp) (by omega) (by have := HL2.out; omega) (blk_put HN2.out 2 (.string s) rfl) (blk_far HR2.out (p := ⟨w.heap.size + 1, 2, none⟩) hneS _) (below_set HW2.out (by simp)) hG
    | false =>
      rw [if_neg (by rintro (h | h); exact c6 h; cases h)] at hG
      clear c1 c2 c3 c4 c5 c6
      go_wp2
      have hw9 := put4_at HR1.out (.bool (⟨false, 0, ⟨#[]⟩, []⟩ : Step).deep) (.int .i64 (⟨false, 0, ⟨#[]⟩, []⟩ : Step).axis) (.string (⟨false, 0, ⟨#[]⟩, []⟩ : Step).name) (.slice none (⟨false, 0, ⟨#[]⟩, []⟩ : Step).preds.length 0)
      have hgot := rstep_done (x := (⟨false, 0, ⟨#[]⟩, []⟩ : Step)) (PredsR.nil _ _) HB1.out (show RAt l j o (⟨false, 0, ⟨#[]⟩, []⟩ : Step) (-1) by rw [HNO.out hG]; exact rfl)
      change bodyPost _ _ _ _ _ (put4 w1 w.heap.size (.bool (⟨false, 0, ⟨#[]⟩, []⟩ : Step).deep) (.int .i64 (⟨false, 0, ⟨#[]⟩, []⟩ : Step).axis) (.string (⟨false, 0, ⟨#[]⟩, []⟩ : Step).name) (.slice none (⟨false, 0, ⟨#[]⟩, []⟩ : Step).preds.length 0))
      generalize put4 w1 w.heap.size (.bool (⟨false, 0, ⟨#[]⟩, []⟩ : Step).deep) (.int .i64 (⟨false, 0, ⟨#[]⟩, []⟩ : Step).axis) (.string (⟨false, 0, ⟨#[]⟩, []⟩ : Step).name) (.slice none (⟨false, 0, ⟨#[]⟩, []⟩ : Step).preds.length 0) = w9 at hw9 hgot ⊢
      have q0 : w9.cell? ⟨w.heap.size, 0, none⟩ = some (.bool (⟨false, 0, ⟨#[]⟩, []⟩ : Step).deep) := (blk_cell hw9 0).trans rfl
      have q1 : w9.cell? ⟨w.heap.size, 1, none⟩ = some (.int .i64 (⟨false, 0, ⟨#[]⟩, []⟩ : Step).axis) := (blk_cell hw9 1).trans rfl
      have q2 : w9.cell? ⟨w.heap.size, 2, none⟩ = some (.string (⟨false, 0, ⟨#[]⟩, []⟩ : Step).name) := (blk_cell hw9 2).trans rfl
      have q3 : w9.cell? ⟨w.heap.size, 3, none⟩ = some (.slice none (⟨false, 0, ⟨#[]⟩, []⟩ : Step).preds.length 0) := (blk_cell hw9 3).trans rfl
      refine bodyPost_ret (v := .tuple #[.agg #[.bool (⟨false, 0, ⟨#[]⟩, []⟩ : Step).deep, .int .i64 (⟨false, 0, ⟨#[]⟩, []⟩ : Step).axis, .string (⟨false, 0, ⟨#[]⟩, []⟩ : Step).name, .slice none (⟨false, 0, ⟨#[]⟩, []⟩ : Step).preds.length 0], .int .i64 (-1:Int)]) (by simp [results, Tryz.results52, go_sem, q0, q1, q2, q3]) rfl ?_
      exact ⟨(⟨false, 0, ⟨#[]⟩, []⟩ : Step), none, 0, (-1:Int), rfl, hgot⟩
  case rest =>
    obtain ⟨i0, ax, nm, rfl, a1, a2, a3, a4, a5, a6, a7⟩ := hcut.out
    clear hcut
    have HST : Aside0 (RStI l j inner o w k k (.int .i64 i0) wc) := ⟨by
      have h1 := HR.out
      rw [a7] at h1
      refine ⟨i0, ⟨false, ax, nm, []⟩, none, 0, rfl, a1, a2, a3, a4, OwnR.nil _ _ _ _, a5, a6, Nat.le_refl _, by simp, ?_⟩
      rcases then_some h1 with ⟨h2, rfl⟩ | ⟨ps, t2, h2, h3⟩
      · exact ⟨none, h2, rfl⟩
      · exact ⟨some (ps, t2), h2, by rw [← Option.some.inj h3]; simp⟩⟩
    clear a1 a2 a3 a4 a5 a6 a7 HR HNM HS HN1 HR1 HB1 hw1
    go_wp2
    go_loopg [1] k (fun gk iv wr => Aside0 (RStI l j inner o w k gk iv wr))
    case atStart => exact HST
    case round =>
      obtain ⟨i', x, A1, c1, rfl, hji, hil, hS, hR, hown, hb, hsz, hgk, hpl, r, hG, ho⟩ := hrel.out
      clear hrel HST
      obtain ⟨m, rfl⟩ : ∃ m, gk = m + 1 := by
        cases gk with
        | zero => simp only [predsG] at hG; cases hG
        | succ m => exact ⟨m, rfl⟩
      simp only [predsG] at hG
      rw [head_drop, adv_drop] at hG
      have hTr := HT.out.below hb
      have hi0 : (0 : Int) ≤ (i' : Int) := by omega
      have hi1 : (i' : Int) ≤ 1000 := by omega
      have HSz := Aside0.mk hsz
      have HB := Aside0.mk hb
      have HSc := Aside0.mk hS
      have HRc := Aside0.mk hR
      have HOW := Aside0.mk hown
      have HPL := Aside0.mk hpl
      have HGK := Aside0.mk hgk
      by_cases ht : l[i']? = some tLb
      · rw [if_pos ht] at hG
        have hil2 := tok_lt ht
        obtain ⟨kf, o1, hp, hrest⟩ : ∃ kf o1, predG false kf (inner + 1) (l.drop (i' + 1)) = some o1 ∧ ((inner + 1 > 2 ∧ o = none) ∨ (¬ inner + 1 > 2 ∧ ((o1 = none ∧ o = none) ∨
            ∃ p t2, o1 = some (p, t2) ∧ (Opt (need false tRb t2) fun t3 => (predsG false m (inner + 1) t3).then_ fun ps t4 => some (some (p :: ps, t4))) = some r))) := by
          by_cases h2 : inner + 1 > 2
          · rw [if_pos h2] at hG
            obtain ⟨kf, o1, hp⟩ := HENs.out (i' + 1) (inner + 1)
            refine ⟨kf, o1, hp, .inl ⟨h2, ?_⟩⟩
            rw [ho, ← Option.some.inj hG]; rfl
          · rw [if_neg h2] at hG
            simp only [Opt] at hG
            rcases then_some hG with ⟨h3, h4⟩ | ⟨p, t2, h3, h4⟩
            · exact ⟨m, none, h3, .inr ⟨h2, .inl ⟨rfl, by rw [ho, h4]; rfl⟩⟩⟩
            · exact ⟨m, some (p, t2), h3, .inr ⟨h2, .inr ⟨p, t2, rfl, h4⟩⟩⟩
        have hat := at_lit (A := A) (c := c) hTr ht
        have hat' : Calls Tryz.prog 32 #[.slice A l.length c, .int .i64 (i' : Int)] wr fun e w' => e = .returned (.string ⟨#[91]⟩) ∧ wr = w' := hat
        have hcall := HIH.out (i' + 1) (by omega) (by omega) kf (inner + 1) o1 wr (by omega) (by omega) hTr hp
        have hcall' : Calls Tryz.prog 68 #[.slice A l.length c, .int .i64 ((i' : Int) + 1), .int .i64 (inner + 1)] wr _ := hcall
        have HREST := Aside0.mk hrest
        have HO := Aside0.mk ho
        clear hat hcall hTr hG ho hrest hp ht hS hR hown hb hsz hpl hgk
        go_wp2_with fail
        go_at_call 32
        refine hat'.mono ?_
        rintro e w2 ⟨rfl, rfl⟩
        go_wp2_with fail
        go_at_call 68
        refine hcall'.mono ?_
        rintro e w1 ⟨x2, A2, c2, B2, d2, kk, rfl, hx1, hx2, hb1, hx4⟩
        have hz1 := hb1.size
        have hSr := blk_lt HSc.out
        generalize hw2 : w1.alloc (.cells #[.int .i64 x2.kind, .int .i64 x2.n, .slice A2 x2.path.length c2, .slice B2 x2.args.length d2] 41) = w2
        have hbw2 : Below w1.heap.size w1 w2 := by rw [← hw2]; exact below_alloc (Below.refl _ _) _
        have hn2 : w2.heap[w1.heap.size]? = some (.cells #[.int .i64 x2.kind, .int .i64 x2.n, .slice A2 x2.path.length c2, .slice B2 x2.args.length d2] 41 (0, 0)) := by rw [← hw2]; exact blk_new _ _
        have hS2 := blk_below (blk_below HSc.out hb1) hbw2
        have hR2 := blk_below (blk_below HRc.out hb1) hbw2
        have HX2 : Aside0 (PredsR (fun k => w.heap.size < k) w2 (.slice A1 x.preds.length c1) x.preds) := ⟨((HOW.out.below movP hb1).below movP hbw2).preds.imp_ (fun _ _ => rfl) (fun k hk => by omega)⟩
        have HB2 : Aside0 (Below w.heap.size w w2) := ⟨below_step (below_step HB.out hb1) hbw2⟩
        have hT2 := HT.out.below HB2.out
        have sp0 : w2.cell? ⟨w.heap.size + 1, 0, none⟩ = some (.bool x.deep) := (blk_cell hS2 0).trans rfl
        have sp1 : w2.cell? ⟨w.heap.size + 1, 1, none⟩ = some (.int .i64 x.axis) := (blk_cell hS2 1).trans rfl
        have sp2 : w2.cell? ⟨w.heap.size + 1, 2, none⟩ = some (.string x.name) := (blk_cell hS2 2).trans rfl
        have sp3 : w2.cell? ⟨w.heap.size + 1, 3, none⟩ = some (.slice A1 x.preds.length c1) := (blk_cell hS2 3).trans rfl
        have re0 : w2.cell? ⟨w.heap.size, 0, none⟩ = some (.bool false) := (blk_cell hR2 0).trans rfl
        have re1 : w2.cell? ⟨w.heap.size, 1, none⟩ = some (.int .i64 0) := (blk_cell hR2 1).trans rfl
        have re2 : w2.cell? ⟨w.heap.size, 2, none⟩ = some (.string ⟨#[]⟩) := (blk_cell hR2 2).trans rfl
        have re3 : w2.cell? ⟨w.heap.size, 3, none⟩ = some (.slice none 0 0) := (blk_cell hR2 3).trans rfl
        have rf0 := blk_frozen hR2 0
        have rf1 := blk_frozen hR2 1
        have rf2 := blk_frozen hR2 2
        have rf3 := blk_frozen hR2 3
        have pp0 : w2.cell? ⟨w1.heap.size, 0, none⟩ = some (.int .i64 x2.kind) := (blk_cell hn2 0).trans rfl
        have pp1 : w2.cell? ⟨w1.heap.size, 1, none⟩ = some (.int .i64 x2.n) := (blk_cell hn2 1).trans rfl
        have pp2 : w2.cell? ⟨w1.heap.size, 2, none⟩ = some (.slice A2 x2.path.length c2) := (blk_cell hn2 2).trans rfl
        have pp3 : w2.cell? ⟨w1.heap.size, 3, none⟩ = some (.slice B2 x2.args.length d2) := (blk_cell hn2 3).trans rfl
        have HR2 := Aside0.mk hR2
        have HS2 := Aside0.mk hS2
        have HBW2 := Aside0.mk hbw2
        have HX21 := Aside0.mk hx1
        have HX22 := Aside0.mk hx2
        have HB1 := Aside0.mk hb1
        clear hbw2 hn2 hS2 hR2 hx1 hx2 hb1 hcall'
        by_cases hk0 : kk < 0
        · have HON : Aside0 (o = none) := ⟨by
            have h1 : o1 = none := by
              cases o1 with
              | none => rfl
              | some q => obtain ⟨_, j', _, _, h, _⟩ := hx4; omega
            rcases HREST.out with ⟨_, h⟩ | ⟨_, ⟨_, h⟩ | ⟨p, t2, h, _⟩⟩
            · exact h
            · exact h
            · rw [h1] at h; cases h⟩
          clear hx4 hT2
          go_wp2
          have hw9 := put4_at HR2.out (.bool x.deep) (.int .i64 x.axis) (.string x.name) (.slice A1 x.preds.length c1)
          have hgot := rstep_done HX2.out HB2.out (show RAt l j o x (-1) by rw [HON.out]; exact rfl)
          change bodyPost _ _ _ _ _ (put4 w2 w.heap.size (.bool x.deep) (.int .i64 x.axis) (.string x.name) (.slice A1 x.preds.length c1))
          generalize put4 w2 w.heap.size (.bool x.deep) (.int .i64 x.axis) (.string x.name) (.slice A1 x.preds.length c1) = w9 at hw9 hgot ⊢
          have q0 : w9.cell? ⟨w.heap.size, 0, none⟩ = some (.bool x.deep) := (blk_cell hw9 0).trans rfl
          have q1 : w9.cell? ⟨w.heap.size, 1, none⟩ = some (.int .i64 x.axis) := (blk_cell hw9 1).trans rfl
          have q2 : w9.cell? ⟨w.heap.size, 2, none⟩ = some (.string x.name) := (blk_cell hw9 2).trans rfl
          have q3 : w9.cell? ⟨w.heap.size, 3, none⟩ = some (.slice A1 x.preds.length c1) := (blk_cell hw9 3).trans rfl
          refine bodyPost_ret (v := .tuple #[.agg #[.bool x.deep, .int .i64 x.axis, .string x.name, .slice A1 x.preds.length c1], .int .i64 (-1:Int)]) (by simp [results, Tryz.results52, go_sem, q0, q1, q2, q3]) rfl ?_
          exact ⟨x, A1, c1, (-1:Int), rfl, hgot⟩
        · obtain ⟨t3, i2, ho1, hj1, hj2, rfl, rfl⟩ : ∃ t3 i2, o1 = some (x2, t3) ∧ i' + 1 ≤ i2 ∧ i2 ≤ l.length ∧ kk = ((i2 : Nat) : Int) ∧ t3 = l.drop i2 := by
            cases o1 with
            | none => exact absurd hx4 (by intro h; have h' : kk = -1 := h; omega)
            | some q => obtain ⟨y, ts⟩ := q; obtain ⟨rfl, j', h1, h2, h3, h4⟩ := hx4; exact ⟨ts, j', rfl, h1, h2, h3, h4⟩
          clear hx4
          subst ho1
          have hii0 : (0 : Int) ≤ (i2 : Int) := by omega
          have hii1 : (i2 : Int) ≤ 1000 := by omega
          by_cases hrb : l[i2]? = some tRb
          · have hil3 := tok_lt hrb
            have hat := at_lit (A := A) (c := c) hT2 hrb
            have hat2 : Calls Tryz.prog 32 #[.slice A l.length c, .int .i64 (i2 : Int)] w2 fun e w' => e = .returned (.string ⟨#[93]⟩) ∧ w2 = w' := hat
            clear hat hT2
            by_cases h2 : inner + 1 > 2
            · have HON : Aside0 (o = none) := ⟨by
                rcases HREST.out with ⟨_, h⟩ | ⟨h, _⟩
                · exact h
                · exact (by omega : False).elim⟩
              clear hrb
              go_wp2_with fail
              go_at_call 32
              refine hat2.mono ?_
              rintro e w5 ⟨rfl, rfl⟩
              go_wp2
              have hw9 := put4_at HR2.out (.bool x.deep) (.int .i64 x.axis) (.string x.name) (.slice A1 x.preds.length c1)
              have hgot := rstep_done HX2.out HB2.out (show RAt l j o x (-1) by rw [HON.out]; exact rfl)
              change bodyPost _ _ _ _ _ (put4 w2 w.heap.size (.bool x.deep) (.int .i64 x.axis) (.string x.name) (.slice A1 x.preds.length c1))
              generalize put4 w2 w.heap.size (.bool x.deep) (.int .i64 x.axis) (.string x.name) (.slice A1 x.preds.length c1) = w9 at hw9 hgot ⊢
              have q0 : w9.cell? ⟨w.heap.size, 0, none⟩ = some (.bool x.deep) := (blk_cell hw9 0).trans rfl
              have q1 : w9.cell? ⟨w.heap.size, 1, none⟩ = some (.int .i64 x.axis) := (blk_cell hw9 1).trans rfl
              have q2 : w9.cell? ⟨w.heap.size, 2, none⟩ = some (.string x.name) := (blk_cell hw9 2).trans rfl
              have q3 : w9.cell? ⟨w.heap.size, 3, none⟩ = some (.slice A1 x.preds.length c1) := (blk_cell hw9 3).trans rfl
              refine bodyPost_ret (v := .tuple #[.agg #[.bool x.deep, .int .i64 x.axis, .string x.name, .slice A1 x.preds.length c1], .int .i64 (-1:Int)]) (by simp [results, Tryz.results52, go_sem, q0, q1, q2, q3]) rfl ?_
              exact ⟨x, A1, c1, (-1:Int), rfl, hgot⟩
            · have HNX : Aside0 (∃ r2, predsG false m (inner + 1) (l.drop (i2 + 1)) = some r2 ∧ o = r2.map fun q => ({ x with preds := (x.preds ++ [x2]) ++ q.1 }, q.2)) := ⟨by
                rcases HREST.out with ⟨h, _⟩ | ⟨_, ⟨h, _⟩ | ⟨p, t2, h, h3⟩⟩
                · exact (by omega : False).elim
                · cases h
                · obtain ⟨rfl, rfl⟩ := Prod.mk.inj (Option.some.inj h)
                  unfold need at h3
                  rw [head_drop, if_pos hrb, adv_drop] at h3
                  simp only [Opt] at h3
                  rcases then_some h3 with ⟨h4, h5⟩ | ⟨ps, t4, h4, h5⟩
                  · exact ⟨none, h4, by rw [HO.out, h5]; rfl⟩
                  · exact ⟨some (ps, t4), h4, by rw [HO.out, ← Option.some.inj h5]; simp⟩⟩
              obtain ⟨inr, how, hmore⟩ := row_more2 movP HOW.out HB1.out HSz.out HBW2.out (PredR.mk_ HX21.out HX22.out)
              have HOWN := Aside0.mk how
              have HMORE := Aside0.mk hmore
              have HLEN2 : Aside0 ((x.preds.length + 1) * 64 ≤ 140737488355328) := ⟨by have := HPL.out; omega⟩
              have hzw := HBW2.out.size
              have hzs := HSz.out
              have HBASE : Aside0 (w.heap.size + 2 ≤ w2.heap.size) := ⟨by omega⟩
              have h2' : inner + 1 ≤ 2 := by omega
              clear how hmore hrb h2
              go_wp2_with fail
              go_at_call 32
              refine hat2.mono ?_
              rintro e w5 ⟨rfl, rfl⟩
              go_wp2_with (at_builtin; refine print_append_cells (w0 := w2) (w.heap.size + 2) rfl (.tmp 112) (.tmp 114) 37 41 (.agg #[.int .i64 0, .int .i64 0, .slice none 0 0, .slice none 0 0]) 4 64 rfl Tryz.underlying37 infoP rfl (by decide) (by decide) (.slice A1 x.preds.length c1) x.preds.length inr [.int .i64 x2.kind, .int .i64 x2.n, .slice A2 x2.path.length c2, .slice B2 x2.args.length d2] rfl rfl rfl ?c1 HOWN.out (Below.refl _ _) HBASE.out HLEN2.out ?_; (case c1 => exact (movP.len (PredR.mk_ HX21.out HX22.out)).2); intro v1 w3 ho hbel hg hat; have HO2 := Aside0.mk (HMORE.out v1 w3 ho hg hat); have hS3 := blk_grown HS2.out hg (fun e => by have := own_base HOWN.out _ e.symm; omega); have hsf3 := blk_frozen hS3 3; have hsp3 : w3.cell? ⟨w.heap.size + 1, 3, none⟩ = some (.slice A1 x.preds.length c1) := (blk_cell hS3 3).trans rfl; have HS3 := Aside0.mk hS3; have HG3 := Aside0.mk hg; clear ho hbel hg hat hS3; obtain ⟨A3, c3, rfl, hc3⟩ := HO2.out.slice)
              go_roundg m
              case measure => omega
              case rel =>
                obtain ⟨r2, h1, h3⟩ := HNX.out
                have hz3 := HG3.out.size
                have hb3 : Below w.heap.size w w3 := below_of_gb (gb_trans (grown_of_below HB2.out none) HG3.out (.inr (fun b hb => by have := own_base HOWN.out b hb; omega)))
                have hR3 := blk_grown HR2.out HG3.out (fun e => by have := own_base HOWN.out _ e.symm; omega)
                refine ⟨i2 + 1, { x with preds := x.preds ++ [x2] }, A3, c3, by simp, by omega, by omega, ?_, ?_, ?_, ?_, ?_, by have := HGK.out; omega, by have := HPL.out; simp; omega, r2, h1, h3⟩
                · exact blk_put HS3.out 3 _ (by simp)
                · exact blk_far hR3 (p := ⟨w.heap.size + 1, 3, none⟩) (Nat.ne_of_lt (Nat.lt_succ_self _)) _
                · exact HO2.out.move movP (fun k hk hlt => Below.heap_setCell _ ⟨w.heap.size + 1, 3, none⟩ _ k (by simp; omega))
                · exact below_set hb3 (by simp)
                · simp [World.setCell]; omega
          · have HON : Aside0 (o = none) := ⟨by
              rcases HREST.out with ⟨_, h⟩ | ⟨_, ⟨h, _⟩ | ⟨p, t2, h, h3⟩⟩
              · exact h
              · cases h
              · obtain ⟨rfl, rfl⟩ := Prod.mk.inj (Option.some.inj h)
                unfold need at h3
                rw [head_drop, if_neg hrb] at h3
                rw [HO.out, ← Option.some.inj h3]; rfl⟩
            have hat := at_any l A c i2 w2 hT2
            have hb7 := ne_beq (bs' := [93]) (atL_ne hrb (by decide))
            generalize atL l i2 = s7 at hat hb7
            clear hT2 hrb
            go_wp2_with fail
            go_at_call 32
            refine hat.mono ?_
            rintro e w5 ⟨rfl, rfl⟩
            go_wp2
            have hw9 := put4_at HR2.out (.bool x.deep) (.int .i64 x.axis) (.string x.name) (.slice A1 x.preds.length c1)
            have hgot := rstep_done HX2.out HB2.out (show RAt l j o x (-1) by rw [HON.out]; exact rfl)
            change bodyPost _ _ _ _ _ (put4 w2 w.heap.size (.bool x.deep) (.int .i64 x.axis) (.string x.name) (.slice A1 x.preds.length c1))
            generalize put4 w2 w.heap.size (.bool x.deep) (.int .i64 x.axis) (.string x.name) (.slice A1 x.preds.length c1) = w9 at hw9 hgot ⊢
            have q0 : w9.cell? ⟨w.heap.size, 0, none⟩ = some (.bool x.deep) := (blk_cell hw9 0).trans rfl
            have q1 : w9.cell? ⟨w.heap.size, 1, none⟩ = some (.int .i64 x.axis) := (blk_cell hw9 1).trans rfl
            have q2 : w9.cell? ⟨w.heap.size, 2, none⟩ = some (.string x.name) := (blk_cell hw9 2).trans rfl
            have q3 : w9.cell? ⟨w.heap.size, 3, none⟩ = some (.slice A1 x.preds.length c1) := (blk_cell hw9 3).trans rfl
            refine bodyPost_ret (v := .tuple #[.agg #[.bool x.deep, .int .i64 x.axis, .string x.name, .slice A1 x.preds.length c1], .int .i64 (-1:Int)]) (by simp [results, Tryz.results52, go_sem, q0, q1, q2, q3]) rfl ?_
            exact ⟨x, A1, c1, (-1:Int), rfl, hgot⟩
      · rw [if_neg ht] at hG
        have HOK : Aside0 (o = some (x, l.drop i')) := ⟨by
          rw [ho, ← Option.some.inj hG]
          simp⟩
        have hat := at_any l A c i' wr hTr
        have hb7 := ne_beq (bs' := [91]) (atL_ne ht (by decide))
        generalize atL l i' = s7 at hat hb7
        have sp0 : wr.cell? ⟨w.heap.size + 1, 0, none⟩ = some (.bool x.deep) := (blk_cell hS 0).trans rfl
        have sp1 : wr.cell? ⟨w.heap.size + 1, 1, none⟩ = some (.int .i64 x.axis) := (blk_cell hS 1).trans rfl
        have sp2 : wr.cell? ⟨w.heap.size + 1, 2, none⟩ = some (.string x.name) := (blk_cell hS 2).trans rfl
        have sp3 : wr.cell? ⟨w.heap.size + 1, 3, none⟩ = some (.slice A1 x.preds.length c1) := (blk_cell hS 3).trans rfl
        have re0 : wr.cell? ⟨w.heap.size, 0, none⟩ = some (.bool false) := (blk_cell hR 0).trans rfl
        have re1 : wr.cell? ⟨w.heap.size, 1, none⟩ = some (.int .i64 0) := (blk_cell hR 1).trans rfl
        have re2 : wr.cell? ⟨w.heap.size, 2, none⟩ = some (.string ⟨#[]⟩) := (blk_cell hR 2).trans rfl
        have re3 : wr.cell? ⟨w.heap.size, 3, none⟩ = some (.slice none 0 0) := (blk_cell hR 3).trans rfl
        have rf0 := blk_frozen hR 0
        have rf1 := blk_frozen hR 1
        have rf2 := blk_frozen hR 2
        have rf3 := blk_frozen hR 3
        clear hTr hG ho ht hS hR hown hb hsz hpl hgk
        go_wp2_with fail
        go_at_call 32
        refine hat.mono ?_
        rintro e w5 ⟨rfl, rfl⟩
        go_wp2
        have hw9 := put4_at HRc.out (.bool x.deep) (.int .i64 x.axis) (.string x.name) (.slice A1 x.preds.length c1)
        have hgot := rstep_done (HOW.out.preds.imp_ (fun _ _ => rfl) (fun k hk => by omega)) HB.out (show RAt l j o x (i':Int) by rw [HOK.out]; exact ⟨rfl, i', by omega, hil, rfl, rfl⟩)
        change bodyPost _ _ _ _ _ (put4 wr w.heap.size (.bool x.deep) (.int .i64 x.axis) (.string x.name) (.slice A1 x.preds.length c1))
        generalize put4 wr w.heap.size (.bool x.deep) (.int .i64 x.axis) (.string x.name) (.slice A1 x.preds.length c1) = w9 at hw9 hgot ⊢
        have q0 : w9.cell? ⟨w.heap.size, 0, none⟩ = some (.bool x.deep) := (blk_cell hw9 0).trans rfl
        have q1 : w9.cell? ⟨w.heap.size, 1, none⟩ = some (.int .i64 x.axis) := (blk_cell hw9 1).trans rfl
        have q2 : w9.cell? ⟨w.heap.size, 2, none⟩ = some (.string x.name) := (blk_cell hw9 2).trans rfl
        have q3 : w9.cell? ⟨w.heap.size, 3, none⟩ = some (.slice A1 x.preds.length c1) := (blk_cell hw9 3).trans rfl
        refine bodyPost_ret (v := .tuple #[.agg #[.bool x.deep, .int .i64 x.axis, .string x.name, .slice A1 x.preds.length c1], .int .i64 (i':Int)]) (by simp [results, Tryz.results52, go_sem, q0, q1, q2, q3]) rfl ?_
        exact ⟨x, A1, c1, (i':Int), rfl, hgot⟩
end Go.Proofs.YtoanmoddppmffaaGreatDoor.T
