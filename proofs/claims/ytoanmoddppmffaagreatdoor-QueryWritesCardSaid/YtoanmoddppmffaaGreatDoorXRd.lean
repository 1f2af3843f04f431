/- The reference: choice. -/
import Derived.Test.YtoanmoddppmffaaGreatDoorXRc
namespace Go.Proofs.YtoanmoddppmffaaGreatDoor.T
open Go.RowKit Go.Shelf Go.Proofs.YtoanmoddppmffaaGreatDoorW.PrintWords
set_option linter.unusedVariables false
set_option linter.unusedSimpArgs false
set_option maxHeartbeats 4000000 in
set_option maxRecDepth 100000 in
theorem rChoice_any (l : List Tok) (A : Option Addr) (c j : Nat) (hl : l.length ≤ 1000) (hj : j ≤ l.length) (IH : ∀ j', j ≤ j' → j' ≤ l.length → RC 89 (bothG false) l A c j') :
    RC 78 (choiceG false) l A c j := by
  intro k inner o w h0 hin hT hr
  obtain ⟨k, rfl⟩ : ∃ k', k = k' + 1 := by
    cases k with
    | zero => simp only [choiceG] at hr; cases hr
    | succ k => exact ⟨k, rfl⟩
  simp only [choiceG] at hr
  obtain ⟨o1, ho1, hcont⟩ : ∃ o1, bothG false k inner (l.drop j) = some o1 ∧ ((o1 = none ∧ o = none) ∨ ∃ q t2, o1 = some (q, t2) ∧ choiceL false k inner q t2 = some o) := by
    rcases then_some hr with ⟨h1, h2⟩ | ⟨q, t2, h1, h2⟩
    · exact ⟨none, h1, .inl ⟨rfl, h2⟩⟩
    · exact ⟨some (q, t2), h1, .inr ⟨q, t2, rfl, h2⟩⟩
  have hcall := IH j (Nat.le_refl _) hj k inner o1 (w.alloc (.cells zeroP 41)) h0 hin (hT.below (below_alloc (Below.refl _ _) _)) ho1
  have hcall' : Calls Tryz.prog 89 #[.slice A l.length c, .int .i64 (j : Int), .int .i64 inner] (w.alloc (.cells #[.int .i64 0, .int .i64 0, .slice none 0 0, .slice none 0 0] 41)) _ := hcall
  have HIH := Aside0.mk IH
  have HT := Aside0.mk hT
  have HC := Aside0.mk hcont
  have hin' : inner ≤ 1000 := by omega
  clear hcall IH hT hcont hr ho1
  go_enter Tryz.func78, Tryz.ntmps78
  go_wp2_with fail
  go_at_call 89
  refine hcall'.mono ?_
  rintro e w2 ⟨x, A1, c1, B1, d1, kk, rfl, hx1, hx2, hb2, hat⟩
  generalize hw3 : w2.alloc (.cells #[.int .i64 x.kind, .int .i64 x.n, .slice A1 x.path.length c1, .slice B1 x.args.length d1] 41) = w3
  have HST := Aside0.mk (rrow_start hx1 hx2 hb2 hat HC.out hw3)
  have HP : Aside0 (w.heap.size < w2.heap.size) := ⟨by have := hb2.size; simp at this; omega⟩
  clear hx1 hx2 hb2 hat HC hcall'
  go_wp2
  generalize w2.heap.size = P at *
  clear hw3
  go_loopg [9] k (fun gk kv wr => Aside0 (RRowI l j inner o (choiceL false) w P k gk kv wr))
  case atStart => exact HST
  case round =>
    obtain ⟨p, A1, c1, B1, d1, kk, rfl, hp, hs1, hs2, hb, hr0, hgk, hst⟩ := hrel.out
    clear hrel HST
    have c0 : wr.cell? ⟨P, 0, none⟩ = some (.int .i64 p.kind) := (blk_cell hp 0).trans rfl
    have c1' : wr.cell? ⟨P, 1, none⟩ = some (.int .i64 p.n) := (blk_cell hp 1).trans rfl
    have c2 : wr.cell? ⟨P, 2, none⟩ = some (.slice A1 p.path.length c1) := (blk_cell hp 2).trans rfl
    have c3 : wr.cell? ⟨P, 3, none⟩ = some (.slice B1 p.args.length d1) := (blk_cell hp 3).trans rfl
    have hTr := HT.out.below hb
    by_cases hy : ∃ jj : Nat, kk = (jj : Int) ∧ j ≤ jj ∧ jj ≤ l.length ∧ choiceL false gk inner p (l.drop jj) = some o ∧ l[jj]? = some tOr
    · obtain ⟨jj, rfl, hj1, hj2, hG, htk⟩ := hy
      have hjl := tok_lt htk
      obtain ⟨m, rfl⟩ : ∃ m, gk = m + 1 := by
        cases gk with
        | zero => simp only [choiceL] at hG; cases hG
        | succ m => exact ⟨m, rfl⟩
      simp only [choiceL] at hG
      rw [if_pos (by rw [head_drop]; exact htk), adv_drop] at hG
      simp only [Opt] at hG
      obtain ⟨oq, ho2, hcont⟩ : ∃ o1, bothG false m inner (l.drop (jj + 1)) = some o1 ∧ ((o1 = none ∧ o = none) ∨ ∃ q t2, o1 = some (q, t2) ∧ choiceL false m inner ⟨4, 0, [], [p, q]⟩ t2 = some o) := by
        rcases then_some hG with ⟨h1, h2⟩ | ⟨q, t2, h1, h2⟩
        · exact ⟨none, h1, .inl ⟨rfl, h2⟩⟩
        · exact ⟨some (q, t2), h1, .inr ⟨q, t2, rfl, h2⟩⟩
      have hat := at_any l A c jj wr hTr
      rw [atL_some htk] at hat
      have hat2 : Calls Tryz.prog 32 #[.slice A l.length c, .int .i64 (jj : Int)] wr fun e w' => e = .returned (.string ⟨#[111, 114]⟩) ∧ wr = w' := hat
      clear hat
      have hcall := HIH.out (jj + 1) (by omega) (by omega) m inner oq wr h0 (by omega) hTr ho2
      have hcall2 : Calls Tryz.prog 89 #[.slice A l.length c, .int .i64 ((jj : Int) + 1), .int .i64 inner] wr _ := hcall
      have hjj0 : (0 : Int) ≤ (jj : Int) := by omega
      have hjj1 : (jj : Int) < (l.length : Int) := by omega
      have HP1 := Aside0.mk hp
      have HS1 := Aside0.mk hs1
      have HS2 := Aside0.mk hs2
      have HB := Aside0.mk hb
      have HR0 := Aside0.mk hr0
      have HC := Aside0.mk hcont
      clear hp hs1 hs2 hb hr0 hst hG hcont hcall ho2 hTr htk
      go_wp2_with fail
      go_at_call 32
      refine hat2.mono ?_
      rintro e w4 ⟨rfl, rfl⟩
      go_wp2_with fail
      go_at_call 89
      refine hcall2.mono ?_
      rintro e w5 ⟨x2, A2, c2', B2, d2, kk2, rfl, hx1, hx2, hb5, hat5⟩
      have hp5 := blk_below HP1.out hb5
      have hr5 := blk_below HR0.out hb5
      generalize hw6 : w5.alloc (.cells #[.int .i64 x2.kind, .int .i64 x2.n, .slice A2 x2.path.length c2', .slice B2 x2.args.length d2] 41) = w6
      have hb6 : Below w5.heap.size w5 w6 := by rw [← hw6]; exact below_alloc (Below.refl _ _) _
      have hn6 : w6.heap[w5.heap.size]? = some (.cells #[.int .i64 x2.kind, .int .i64 x2.n, .slice A2 x2.path.length c2', .slice B2 x2.args.length d2] 41 (0, 0)) := by rw [← hw6]; exact blk_new _ _
      have hp6 := blk_below hp5 hb6
      have hr6 := blk_below hr5 hb6
      generalize hw7 : w6.alloc (.cells #[.int .i64 p.kind, .int .i64 p.n, .slice A1 p.path.length c1, .slice B1 p.args.length d1, .int .i64 x2.kind, .int .i64 x2.n, .slice A2 x2.path.length c2', .slice B2 x2.args.length d2] 41) = w7
      have hb7 : Below w6.heap.size w6 w7 := by rw [← hw7]; exact below_alloc (Below.refl _ _) _
      have hp7 := blk_below hp6 hb7
      have ap0 : w6.cell? ⟨P, 0, none⟩ = some (.int .i64 p.kind) := (blk_cell hp6 0).trans rfl
      have ap1 : w6.cell? ⟨P, 1, none⟩ = some (.int .i64 p.n) := (blk_cell hp6 1).trans rfl
      have ap2 : w6.cell? ⟨P, 2, none⟩ = some (.slice A1 p.path.length c1) := (blk_cell hp6 2).trans rfl
      have ap3 : w6.cell? ⟨P, 3, none⟩ = some (.slice B1 p.args.length d1) := (blk_cell hp6 3).trans rfl
      have bp0 : w6.cell? ⟨w5.heap.size, 0, none⟩ = some (.int .i64 x2.kind) := (blk_cell hn6 0).trans rfl
      have bp1 : w6.cell? ⟨w5.heap.size, 1, none⟩ = some (.int .i64 x2.n) := (blk_cell hn6 1).trans rfl
      have bp2 : w6.cell? ⟨w5.heap.size, 2, none⟩ = some (.slice A2 x2.path.length c2') := (blk_cell hn6 2).trans rfl
      have bp3 : w6.cell? ⟨w5.heap.size, 3, none⟩ = some (.slice B2 x2.args.length d2) := (blk_cell hn6 3).trans rfl
      have dp0 : w7.cell? ⟨P, 0, none⟩ = some (.int .i64 p.kind) := (blk_cell hp7 0).trans rfl
      have dp1 : w7.cell? ⟨P, 1, none⟩ = some (.int .i64 p.n) := (blk_cell hp7 1).trans rfl
      have dp2 : w7.cell? ⟨P, 2, none⟩ = some (.slice A1 p.path.length c1) := (blk_cell hp7 2).trans rfl
      have dp3 : w7.cell? ⟨P, 3, none⟩ = some (.slice B1 p.args.length d1) := (blk_cell hp7 3).trans rfl
      have df0 := blk_frozen hp7 0
      have df1 := blk_frozen hp7 1
      have df2 := blk_frozen hp7 2
      have df3 := blk_frozen hp7 3
      have HN := Aside0.mk (fun (hPr : P < wr.heap.size) (hz : w.heap.size < wr.heap.size) (hm : m ≤ k) => rrow_next (kind := 4) HP.out hPr hz hj1 HS1.out HS2.out HB.out hx1 hx2 hb5 hat5 hb6 hp6 hr6 hw7 HC.out hm)
      have HGK := Aside0.mk hgk
      clear hx1 hx2 hb5 hat5 hb6 hp6 hr6 hp5 hr5 hn6 hb7 hp7 c0 c1' c2 c3 hat2 hcall2 hgk
      go_wp2
      go_roundg m
      case measure => omega
      case rel => exact ⟨HN.out (blk_lt HP1.out) (blk_lt HR0.out) (by have := HGK.out; omega)⟩
    · have HST : Aside0 (RAt l j o p kk ∧ (0 ≤ kk → ∃ jj : Nat, kk = (jj : Int) ∧ jj ≤ l.length ∧ l[jj]? ≠ some tOr)) := ⟨by
        rcases hst with ⟨jj, rfl, a1, a2, hG⟩ | ⟨rfl, rfl⟩
        · have hne : l[jj]? ≠ some tOr := fun hh => hy ⟨jj, rfl, a1, a2, hG, hh⟩
          obtain ⟨m, rfl⟩ : ∃ m, gk = m + 1 := by
            cases gk with
            | zero => simp only [choiceL] at hG; cases hG
            | succ m => exact ⟨m, rfl⟩
          simp only [choiceL] at hG
          rw [if_neg (by rw [head_drop]; exact hne)] at hG
          obtain rfl := Option.some.inj hG
          exact ⟨⟨rfl, jj, a1, a2, rfl, rfl⟩, fun _ => ⟨jj, rfl, a2, hne⟩⟩
        · exact ⟨rfl, fun h => absurd h (by decide)⟩⟩
      have re0 : wr.cell? ⟨w.heap.size, 0, none⟩ = some (.int .i64 0) := (blk_cell hr0 0).trans rfl
      have re1 : wr.cell? ⟨w.heap.size, 1, none⟩ = some (.int .i64 0) := (blk_cell hr0 1).trans rfl
      have re2 : wr.cell? ⟨w.heap.size, 2, none⟩ = some (.slice none 0 0) := (blk_cell hr0 2).trans rfl
      have re3 : wr.cell? ⟨w.heap.size, 3, none⟩ = some (.slice none 0 0) := (blk_cell hr0 3).trans rfl
      have rf0 := blk_frozen hr0 0
      have rf1 := blk_frozen hr0 1
      have rf2 := blk_frozen hr0 2
      have rf3 := blk_frozen hr0 3
      have HS1 := Aside0.mk hs1
      have HS2 := Aside0.mk hs2
      have HB := Aside0.mk hb
      have HR0 := Aside0.mk hr0
      clear hs1 hs2 hb hr0 hst hy hp hgk
      by_cases hk0 : 0 ≤ kk
      · obtain ⟨jj, rfl, hjl, hne⟩ := HST.out.2 hk0
        have hat := at_any l A c jj wr hTr
        have hb1 := ne_beq (bs' := [111, 114]) (atL_ne hne (by decide))
        generalize atL l jj = s at hat hb1
        clear hTr hne
        go_wp2_with fail
        go_at_call 32
        refine hat.mono ?_
        rintro e w4 ⟨rfl, rfl⟩
        go_wp2
        have hw9 := put4_at HR0.out (.int .i64 p.kind) (.int .i64 p.n) (.slice A1 p.path.length c1) (.slice B1 p.args.length d1)
        have hgot := rpred_done (HS1.out.imp_ (fun _ _ => rfl) (fun k hk => hk.1)) (HS2.out.imp_ (fun _ _ => rfl) (fun k hk => hk.1)) HB.out HST.out.1
        change bodyPost _ _ _ _ _ (put4 wr w.heap.size (.int .i64 p.kind) (.int .i64 p.n) (.slice A1 p.path.length c1) (.slice B1 p.args.length d1))
        generalize put4 wr w.heap.size (.int .i64 p.kind) (.int .i64 p.n) (.slice A1 p.path.length c1) (.slice B1 p.args.length d1) = w9 at hw9 hgot ⊢
        have q0 : w9.cell? ⟨w.heap.size, 0, none⟩ = some (.int .i64 p.kind) := (blk_cell hw9 0).trans rfl
        have q1 : w9.cell? ⟨w.heap.size, 1, none⟩ = some (.int .i64 p.n) := (blk_cell hw9 1).trans rfl
        have q2 : w9.cell? ⟨w.heap.size, 2, none⟩ = some (.slice A1 p.path.length c1) := (blk_cell hw9 2).trans rfl
        have q3 : w9.cell? ⟨w.heap.size, 3, none⟩ = some (.slice B1 p.args.length d1) := (blk_cell hw9 3).trans rfl
        refine bodyPost_ret (v := .tuple #[.agg #[.int .i64 p.kind, .int .i64 p.n, .slice A1 p.path.length c1, .slice B1 p.args.length d1], .int .i64 (jj:Int)]) (by simp [results, Tryz.results78, go_sem, q0, q1, q2, q3]) rfl ?_
        exact ⟨p, A1, c1, B1, d1, (jj:Int), rfl, hgot⟩
      · go_wp2
        have hw9 := put4_at HR0.out (.int .i64 p.kind) (.int .i64 p.n) (.slice A1 p.path.length c1) (.slice B1 p.args.length d1)
        have hgot := rpred_done (HS1.out.imp_ (fun _ _ => rfl) (fun k hk => hk.1)) (HS2.out.imp_ (fun _ _ => rfl) (fun k hk => hk.1)) HB.out HST.out.1
        change bodyPost _ _ _ _ _ (put4 wr w.heap.size (.int .i64 p.kind) (.int .i64 p.n) (.slice A1 p.path.length c1) (.slice B1 p.args.length d1))
        generalize put4 wr w.heap.size (.int .i64 p.kind) (.int .i64 p.n) (.slice A1 p.path.length c1) (.slice B1 p.args.length d1) = w9 at hw9 hgot ⊢
        have q0 : w9.cell? ⟨w.heap.size, 0, none⟩ = some (.int .i64 p.kind) := (blk_cell hw9 0).trans rfl
        have q1 : w9.cell? ⟨w.heap.size, 1, none⟩ = some (.int .i64 p.n) := (blk_cell hw9 1).trans rfl
        have q2 : w9.cell? ⟨w.heap.size, 2, none⟩ = some (.slice A1 p.path.length c1) := (blk_cell hw9 2).trans rfl
        have q3 : w9.cell? ⟨w.heap.size, 3, none⟩ = some (.slice B1 p.args.length d1) := (blk_cell hw9 3).trans rfl
        refine bodyPost_ret (v := .tuple #[.agg #[.int .i64 p.kind, .int .i64 p.n, .slice A1 p.path.length c1, .slice B1 p.args.length d1], .int .i64 kk]) (by simp [results, Tryz.results78, go_sem, q0, q1, q2, q3]) rfl ?_
        exact ⟨p, A1, c1, B1, d1, kk, rfl, hgot⟩
end Go.Proofs.YtoanmoddppmffaaGreatDoor.T
