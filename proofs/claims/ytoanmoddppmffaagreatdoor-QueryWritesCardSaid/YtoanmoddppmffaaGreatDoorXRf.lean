/- The reference: term. -/
import Derived.Test.YtoanmoddppmffaaGreatDoorXRe
namespace Go.Proofs.YtoanmoddppmffaaGreatDoor.T
open Go.RowKit Go.Shelf Go.Proofs.YtoanmoddppmffaaGreatDoorW.PrintWords
set_option linter.unusedVariables false
set_option linter.unusedSimpArgs false
def RStepsPost (l : List Tok) (j : Nat) (o : Option (List Step × List Tok)) (w : World) (e : Ending) (w' : World) : Prop :=
  ∃ (xs : List Step) (A : Option Addr) (c : Nat) (kk : Int), e = .returned (.tuple #[.slice A xs.length c, .int .i64 kk]) ∧ StepsR (fun k => w.heap.size ≤ k) w' (.slice A xs.length c) xs ∧ Below w.heap.size w w' ∧ RAt l j o xs kk
def RPathC (l : List Tok) (A : Option Addr) (c j : Nat) : Prop :=
  ∀ (k : Nat) (inner : Int) (deep : Bool) (o : Option (List Step × List Tok)) (w : World), 0 ≤ inner → inner ≤ j → TokR w A l → pathG false k inner deep (l.drop j) = some o → Calls Tryz.prog 33 #[.slice A l.length c, .int .i64 (j : Int), .bool deep, .int .i64 inner] w (RStepsPost l j o w)
theorem at_lit {l : List Tok} {A : Option Addr} {c j : Nat} {w : World} {t : Tok} (hT : TokR w A l) (h : l[j]? = some t) : Calls Tryz.prog 32 #[.slice A l.length c, .int .i64 (j : Int)] w fun e w' => e = .returned (.string t) ∧ w = w' := by
  have := at_any l A c j w hT
  rwa [atL_some h] at this
def termO (nt : Bool) (o1 : Option (Pred × List Tok)) : Option (Pred × List Tok) := o1.bind fun r => if r.2.head? = some tRp then some ((if nt then ⟨5, 0, [], [r.1]⟩ else r.1), r.2.tail) else none
theorem term_cases {l : List Tok} {j k : Nat} {inner : Int} {o : Option (Pred × List Tok)} (hr : termG false (k + 1) inner (l.drop j) = some o) :
    (∃ (nt : Bool) (s : Nat) (o1 : Option (Pred × List Tok)), l[s]? = some tLp ∧ ((nt = true ∧ s = j + 1 ∧ l[j]? = some tNot) ∨ (nt = false ∧ s = j)) ∧ choiceG false k inner (l.drop (s + 1)) = some o1 ∧ o = termO nt o1) ∨
    (¬ (l[j]? = some tNot ∧ l[j + 1]? = some tLp) ∧ l[j]? ≠ some tLp ∧ ∃ o1, pathG false k inner false (l.drop j) = some o1 ∧ o = o1.map fun r => (⟨2, 0, r.1, []⟩, r.2)) := by
  simp only [termG] at hr
  have e1 : (l.drop j)[1]? = l[j + 1]? := by rw [List.getElem?_drop]
  rw [head_drop, e1] at hr
  have fin : ∀ (nt : Bool) (s : Nat), l[s]? = some tLp → ((choiceG false k inner (l.drop (s + 1))).then_ fun p t3 => Opt (need false tRp t3) fun t4 => some (some ((if nt then ⟨5, 0, [], [p]⟩ else p), t4))) = some o → ∃ o1, choiceG false k inner (l.drop (s + 1)) = some o1 ∧ o = termO nt o1 := by
    intro nt s hs h
    rcases then_some h with ⟨h1, rfl⟩ | ⟨p, t3, h1, h2⟩
    · exact ⟨none, h1, rfl⟩
    · refine ⟨some (p, t3), h1, ?_⟩
      simp only [termO, Option.bind_some]
      unfold need at h2
      by_cases h3 : t3.head? = some tRp
      · rw [if_pos h3, adv_false] at h2
        rw [if_pos h3]
        exact (Option.some.inj h2).symm
      · rw [if_neg h3] at h2
        rw [if_neg h3]
        exact (Option.some.inj h2).symm
  by_cases hc : l[j]? = some tNot ∧ l[j + 1]? = some tLp
  · rw [if_pos hc, adv_drop] at hr
    simp only [Opt, need] at hr
    rw [head_drop, if_pos hc.2, adv_drop] at hr
    obtain ⟨o1, h1, h2⟩ := fin true (j + 1) hc.2 hr
    exact .inl ⟨true, j + 1, o1, hc.2, .inl ⟨rfl, rfl, hc.1⟩, h1, h2⟩
  · rw [if_neg hc] at hr
    by_cases hd : l[j]? = some tLp
    · rw [if_pos hd, adv_drop] at hr
      simp only [Opt] at hr
      obtain ⟨o1, h1, h2⟩ := fin false j hd hr
      exact .inl ⟨false, j, o1, hd, .inr ⟨rfl, rfl⟩, h1, h2⟩
    · rw [if_neg hd] at hr
      refine .inr ⟨hc, hd, ?_⟩
      rcases then_some hr with ⟨h3, rfl⟩ | ⟨y, t1, h3, h4⟩
      · exact ⟨none, h3, rfl⟩
      · exact ⟨some (y, t1), h3, (Option.some.inj h4).symm⟩
set_option maxHeartbeats 4000000 in
set_option maxRecDepth 100000 in
theorem rterm_path (l : List Tok) (A : Option Addr) (c j : Nat) (inner : Int) (o1 : Option (List Step × List Tok)) (w : World) (hl : l.length ≤ 1000) (hj : j ≤ l.length) (hT : TokR w A l) (hc : ¬ (l[j]? = some tNot ∧ l[j + 1]? = some tLp)) (hd : l[j]? ≠ some tLp)
    (hp : ∀ w1, Below w.heap.size w w1 → Calls Tryz.prog 33 #[.slice A l.length c, .int .i64 (j : Int), .bool false, .int .i64 inner] w1 (RStepsPost l j o1 w1)) :
    Calls Tryz.prog 104 #[.slice A l.length c, .int .i64 (j : Int), .int .i64 inner] w (RPredPost l j (o1.map fun r => (⟨2, 0, r.1, []⟩, r.2)) w) := by
  have hb : Below w.heap.size w (w.alloc (.cells #[.int .i64 0, .int .i64 0, .slice none 0 0, .slice none 0 0] 41)) := below_alloc (Below.refl _ _) _
  generalize hw1 : w.alloc (.cells #[.int .i64 0, .int .i64 0, .slice none 0 0, .slice none 0 0] 41) = w1 at hb
  have hT1 := hT.below hb
  have hpath := hp _ hb
  have hr1 : w1.heap[w.heap.size]? = some (.cells #[.int .i64 0, .int .i64 0, .slice none 0 0, .slice none 0 0] 41 (0, 0)) := by rw [← hw1]; exact blk_new w _
  have hat := at_any l A c j _ hT1
  have hb2 := ne_beq (bs' := [40]) (atL_ne hd (by decide))
  have hsec : l[j]? = some tNot → l[j + 1]? ≠ some tLp := fun h1 h2 => hc ⟨h1, h2⟩
  have HB := Aside0.mk hb
  have HR1 := Aside0.mk hr1
  clear hp hc
  clear hr1
  by_cases hn : l[j]? = some tNot
  · have hat2 := at_any l A c (j + 1) w1 hT1
    have hb3 := ne_beq (bs' := [40]) (atL_ne (hsec hn) (by decide))
    rw [atL_some hn] at hat hb2
    have hat' : Calls Tryz.prog 32 #[.slice A l.length c, .int .i64 (j : Int)] w1 fun e w' => e = .returned (.string ⟨#[110, 111, 116]⟩) ∧ w1 = w' := hat
    have hat2' : Calls Tryz.prog 32 #[.slice A l.length c, .int .i64 ((j : Int) + 1)] w1 _ := hat2
    generalize atL l (j + 1) = s2 at hat2' hb3
    clear hat hat2 hb hT hT1 hd hn hsec hb2
    go_enter Tryz.func104, Tryz.ntmps104
    go_wp2_with fail
    go_at_call 32
    refine hat'.mono ?_
    rintro e w2 ⟨rfl, rfl⟩
    go_wp2_with fail
    go_at_call 32
    refine hat2'.mono ?_
    rintro e w2 ⟨rfl, rfl⟩
    go_wp2_with fail
    go_at_call 32
    refine hat'.mono ?_
    rintro e w2 ⟨rfl, rfl⟩
    go_wp2_with fail
    go_at_call 33
    refine hpath.mono ?_
    rintro e w3 ⟨xs, A1, c1, kk, rfl, hx1, hx2, hx3⟩
    have hr3 := blk_below HR1.out hx2
    have e0 : w3.cell? ⟨w.heap.size, 0, none⟩ = some (.int .i64 0) := (blk_cell hr3 0).trans rfl
    have e1 : w3.cell? ⟨w.heap.size, 1, none⟩ = some (.int .i64 0) := (blk_cell hr3 1).trans rfl
    have e2 : w3.cell? ⟨w.heap.size, 2, none⟩ = some (.slice none 0 0) := (blk_cell hr3 2).trans rfl
    have e3 : w3.cell? ⟨w.heap.size, 3, none⟩ = some (.slice none 0 0) := (blk_cell hr3 3).trans rfl
    have f0 := blk_frozen hr3 0
    have f1 := blk_frozen hr3 1
    have f2 := blk_frozen hr3 2
    have f3 := blk_frozen hr3 3
    have HX1 := Aside0.mk hx1
    have HX2 := Aside0.mk hx2
    have HX3 := Aside0.mk hx3
    have HR3 := Aside0.mk hr3
    clear hr3 hx1 hx2 hx3 hpath
    go_wp2
    have hlt1 := blk_lt HR1.out
    have a1' : StepsR (fun k => w.heap.size < k) w3 (.slice A1 xs.length c1) xs := HX1.out.imp_ (fun _ _ => rfl) (fun k hk => by omega)
    have hend : RAt l j (o1.map fun r => ((⟨2, 0, r.1, []⟩ : Pred), r.2)) (⟨2, 0, xs, []⟩ : Pred) kk := by
      have a5 := HX3.out
      cases o1 with
      | none => exact a5
      | some r => obtain ⟨rfl, a6⟩ := a5; exact ⟨rfl, a6⟩
    have hw9 := put4_at HR3.out (.int .i64 (⟨2, 0, xs, []⟩ : Pred).kind) (.int .i64 (⟨2, 0, xs, []⟩ : Pred).n) (.slice A1 (⟨2, 0, xs, []⟩ : Pred).path.length c1) (.slice none (⟨2, 0, xs, []⟩ : Pred).args.length 0)
    have hgot := rpred_done a1' (PredsR.nil _ _) (below_step HB.out HX2.out) hend
    change bodyPost _ _ _ _ _ (put4 w3 w.heap.size (.int .i64 (⟨2, 0, xs, []⟩ : Pred).kind) (.int .i64 (⟨2, 0, xs, []⟩ : Pred).n) (.slice A1 (⟨2, 0, xs, []⟩ : Pred).path.length c1) (.slice none (⟨2, 0, xs, []⟩ : Pred).args.length 0))
    generalize put4 w3 w.heap.size (.int .i64 (⟨2, 0, xs, []⟩ : Pred).kind) (.int .i64 (⟨2, 0, xs, []⟩ : Pred).n) (.slice A1 (⟨2, 0, xs, []⟩ : Pred).path.length c1) (.slice none (⟨2, 0, xs, []⟩ : Pred).args.length 0) = w9 at hw9 hgot ⊢
    have q0 : w9.cell? ⟨w.heap.size, 0, none⟩ = some (.int .i64 (⟨2, 0, xs, []⟩ : Pred).kind) := (blk_cell hw9 0).trans rfl
    have q1 : w9.cell? ⟨w.heap.size, 1, none⟩ = some (.int .i64 (⟨2, 0, xs, []⟩ : Pred).n) := (blk_cell hw9 1).trans rfl
    have q2 : w9.cell? ⟨w.heap.size, 2, none⟩ = some (.slice A1 (⟨2, 0, xs, []⟩ : Pred).path.length c1) := (blk_cell hw9 2).trans rfl
    have q3 : w9.cell? ⟨w.heap.size, 3, none⟩ = some (.slice none (⟨2, 0, xs, []⟩ : Pred).args.length 0) := (blk_cell hw9 3).trans rfl
    refine bodyPost_ret (v := .tuple #[.agg #[.int .i64 (⟨2, 0, xs, []⟩ : Pred).kind, .int .i64 (⟨2, 0, xs, []⟩ : Pred).n, .slice A1 (⟨2, 0, xs, []⟩ : Pred).path.length c1, .slice none (⟨2, 0, xs, []⟩ : Pred).args.length 0], .int .i64 kk]) (by simp [results, Tryz.results104, go_sem, q0, q1, q2, q3]) rfl ?_
    exact ⟨(⟨2, 0, xs, []⟩ : Pred), A1, c1, none, 0, kk, rfl, hgot⟩
  · have hb3 := ne_beq (bs' := [110, 111, 116]) (atL_ne hn (by decide))
    generalize atL l j = s1 at hat hb2 hb3
    clear hb hT hT1 hd hn hsec
    go_enter Tryz.func104, Tryz.ntmps104
    go_wp2_with fail
    go_at_call 32
    refine hat.mono ?_
    rintro e w2 ⟨rfl, rfl⟩
    go_wp2_with fail
    go_at_call 32
    refine hat.mono ?_
    rintro e w2 ⟨rfl, rfl⟩
    go_wp2_with fail
    go_at_call 33
    refine hpath.mono ?_
    rintro e w3 ⟨xs, A1, c1, kk, rfl, hx1, hx2, hx3⟩
    have hr3 := blk_below HR1.out hx2
    have e0 : w3.cell? ⟨w.heap.size, 0, none⟩ = some (.int .i64 0) := (blk_cell hr3 0).trans rfl
    have e1 : w3.cell? ⟨w.heap.size, 1, none⟩ = some (.int .i64 0) := (blk_cell hr3 1).trans rfl
    have e2 : w3.cell? ⟨w.heap.size, 2, none⟩ = some (.slice none 0 0) := (blk_cell hr3 2).trans rfl
    have e3 : w3.cell? ⟨w.heap.size, 3, none⟩ = some (.slice none 0 0) := (blk_cell hr3 3).trans rfl
    have f0 := blk_frozen hr3 0
    have f1 := blk_frozen hr3 1
    have f2 := blk_frozen hr3 2
    have f3 := blk_frozen hr3 3
    have HX1 := Aside0.mk hx1
    have HX2 := Aside0.mk hx2
    have HX3 := Aside0.mk hx3
    have HR3 := Aside0.mk hr3
    clear hr3 hx1 hx2 hx3 hpath
    go_wp2
    have hlt1 := blk_lt HR1.out
    have a1' : StepsR (fun k => w.heap.size < k) w3 (.slice A1 xs.length c1) xs := HX1.out.imp_ (fun _ _ => rfl) (fun k hk => by omega)
    have hend : RAt l j (o1.map fun r => ((⟨2, 0, r.1, []⟩ : Pred), r.2)) (⟨2, 0, xs, []⟩ : Pred) kk := by
      have a5 := HX3.out
      cases o1 with
      | none => exact a5
      | some r => obtain ⟨rfl, a6⟩ := a5; exact ⟨rfl, a6⟩
    have hw9 := put4_at HR3.out (.int .i64 (⟨2, 0, xs, []⟩ : Pred).kind) (.int .i64 (⟨2, 0, xs, []⟩ : Pred).n) (.slice A1 (⟨2, 0, xs, []⟩ : Pred).path.length c1) (.slice none (⟨2, 0, xs, []⟩ : Pred).args.length 0)
    have hgot := rpred_done a1' (PredsR.nil _ _) (below_step HB.out HX2.out) hend
    change bodyPost _ _ _ _ _ (put4 w3 w.heap.size (.int .i64 (⟨2, 0, xs, []⟩ : Pred).kind) (.int .i64 (⟨2, 0, xs, []⟩ : Pred).n) (.slice A1 (⟨2, 0, xs, []⟩ : Pred).path.length c1) (.slice none (⟨2, 0, xs, []⟩ : Pred).args.length 0))
    generalize put4 w3 w.heap.size (.int .i64 (⟨2, 0, xs, []⟩ : Pred).kind) (.int .i64 (⟨2, 0, xs, []⟩ : Pred).n) (.slice A1 (⟨2, 0, xs, []⟩ : Pred).path.length c1) (.slice none (⟨2, 0, xs, []⟩ : Pred).args.length 0) = w9 at hw9 hgot ⊢
    have q0 : w9.cell? ⟨w.heap.size, 0, none⟩ = some (.int .i64 (⟨2, 0, xs, []⟩ : Pred).kind) := (blk_cell hw9 0).trans rfl
    have q1 : w9.cell? ⟨w.heap.size, 1, none⟩ = some (.int .i64 (⟨2, 0, xs, []⟩ : Pred).n) := (blk_cell hw9 1).trans rfl
    have q2 : w9.cell? ⟨w.heap.size, 2, none⟩ = some (.slice A1 (⟨2, 0, xs, []⟩ : Pred).path.length c1) := (blk_cell hw9 2).trans rfl
    have q3 : w9.cell? ⟨w.heap.size, 3, none⟩ = some (.slice none (⟨2, 0, xs, []⟩ : Pred).args.length 0) := (blk_cell hw9 3).trans rfl
    refine bodyPost_ret (v := .tuple #[.agg #[.int .i64 (⟨2, 0, xs, []⟩ : Pred).kind, .int .i64 (⟨2, 0, xs, []⟩ : Pred).n, .slice A1 (⟨2, 0, xs, []⟩ : Pred).path.length c1, .slice none (⟨2, 0, xs, []⟩ : Pred).args.length 0], .int .i64 kk]) (by simp [results, Tryz.results104, go_sem, q0, q1, q2, q3]) rfl ?_
    exact ⟨(⟨2, 0, xs, []⟩ : Pred), A1, c1, none, 0, kk, rfl, hgot⟩
set_option maxHeartbeats 4000000 in
set_option maxRecDepth 100000 in
theorem rterm_in (l : List Tok) (A : Option Addr) (c j s : Nat) (inner : Int) (nt : Bool) (o1 : Option (Pred × List Tok)) (w : World) (hl : l.length ≤ 1000) (hT : TokR w A l) (hs : l[s]? = some tLp) (hcase : (nt = true ∧ s = j + 1 ∧ l[j]? = some tNot) ∨ (nt = false ∧ s = j))
    (hch : ∀ w1, Below w.heap.size w w1 → Calls Tryz.prog 78 #[.slice A l.length c, .int .i64 ((s + 1 : Nat) : Int), .int .i64 inner] w1 (RPredPost l (s + 1) o1 w1)) :
    Calls Tryz.prog 104 #[.slice A l.length c, .int .i64 (j : Int), .int .i64 inner] w (RPredPost l j (termO nt o1) w) := by
  have hb : Below w.heap.size w (w.alloc (.cells #[.int .i64 0, .int .i64 0, .slice none 0 0, .slice none 0 0] 41)) := below_alloc (Below.refl _ _) _
  generalize hw1 : w.alloc (.cells #[.int .i64 0, .int .i64 0, .slice none 0 0, .slice none 0 0] 41) = w1 at hb
  have hT1 := hT.below hb
  have hch1 := hch _ hb
  have hr1 : w1.heap[w.heap.size]? = some (.cells #[.int .i64 0, .int .i64 0, .slice none 0 0, .slice none 0 0] 41 (0, 0)) := by rw [← hw1]; exact blk_new w _
  have hsl := tok_lt hs
  have HB := Aside0.mk hb
  have HR1 := Aside0.mk hr1
  have HT := Aside0.mk hT1
  have hj0 : (0 : Int) ≤ (j : Int) := by omega
  clear hch hr1 hb
  rcases hcase with ⟨rfl, rfl, hn⟩ | ⟨rfl, rfl⟩
  · have hat := at_lit (A := A) (c := c) hT1 hn
    have hat2 := at_lit (A := A) (c := c) hT1 hs
    have hat' : Calls Tryz.prog 32 #[.slice A l.length c, .int .i64 (j : Int)] w1 fun e w' => e = .returned (.string ⟨#[110, 111, 116]⟩) ∧ w1 = w' := hat
    have hat2' : Calls Tryz.prog 32 #[.slice A l.length c, .int .i64 ((j : Int) + 1)] w1 fun e w' => e = .returned (.string ⟨#[40]⟩) ∧ w1 = w' := hat2
    have hch' : Calls Tryz.prog 78 #[.slice A l.length c, .int .i64 ((j : Int) + 1 + 1), .int .i64 inner] w1 _ := hch1
    obtain ⟨s, hs1⟩ : ∃ s, s = j + 1 := ⟨_, rfl⟩
    rw [← hs1] at hch'
    clear hat hat2 hT hT1 hn hs hch1
    go_enter Tryz.func104, Tryz.ntmps104
    go_wp2_with fail
    go_at_call 32
    refine hat'.mono ?_
    rintro e w2 ⟨rfl, rfl⟩
    go_wp2_with fail
    go_at_call 32
    refine hat2'.mono ?_
    rintro e w2 ⟨rfl, rfl⟩
    go_wp2_with fail
    go_at_call 32
    refine hat2'.mono ?_
    rintro e w2 ⟨rfl, rfl⟩
    go_wp2_with fail
    go_at_call 78
    refine hch'.mono ?_
    rintro e w3 ⟨x, A1, c1, B1, d1, kk, rfl, hx1, hx2, hx3, hx4⟩
    have hr3 := blk_below HR1.out hx3
    generalize hw4 : w3.alloc (.cells #[.int .i64 x.kind, .int .i64 x.n, .slice A1 x.path.length c1, .slice B1 x.args.length d1] 41) = w4
    have hb4 : Below w3.heap.size w3 w4 := by rw [← hw4]; exact below_alloc (Below.refl _ _) _
    have hn4 : w4.heap[w3.heap.size]? = some (.cells #[.int .i64 x.kind, .int .i64 x.n, .slice A1 x.path.length c1, .slice B1 x.args.length d1] 41 (0, 0)) := by rw [← hw4]; exact blk_new _ _
    have hr4 := blk_below hr3 hb4
    have HX := Aside0.mk (And.intro hx1 (And.intro hx2 (And.intro hx3 hx4)))
    have HR4 := Aside0.mk hr4
    have HB4 := Aside0.mk hb4
    have HN4 := Aside0.mk hn4
    have hlt1 := blk_lt HR1.out
    have HLT : Aside0 (w.heap.size < w1.heap.size) := ⟨hlt1⟩
    have HZ : Aside0 (w1.heap.size ≤ w3.heap.size) := ⟨hx3.size⟩
    have hT4 := (HT.out.below hx3).below hb4
    have re0 : w4.cell? ⟨w.heap.size, 0, none⟩ = some (.int .i64 0) := (blk_cell hr4 0).trans rfl
    have re1 : w4.cell? ⟨w.heap.size, 1, none⟩ = some (.int .i64 0) := (blk_cell hr4 1).trans rfl
    have re2 : w4.cell? ⟨w.heap.size, 2, none⟩ = some (.slice none 0 0) := (blk_cell hr4 2).trans rfl
    have re3 : w4.cell? ⟨w.heap.size, 3, none⟩ = some (.slice none 0 0) := (blk_cell hr4 3).trans rfl
    have rf0 := blk_frozen hr4 0
    have rf1 := blk_frozen hr4 1
    have rf2 := blk_frozen hr4 2
    have rf3 := blk_frozen hr4 3
    have bp0 : w4.cell? ⟨w3.heap.size, 0, none⟩ = some (.int .i64 x.kind) := (blk_cell hn4 0).trans rfl
    have bp1 : w4.cell? ⟨w3.heap.size, 1, none⟩ = some (.int .i64 x.n) := (blk_cell hn4 1).trans rfl
    have bp2 : w4.cell? ⟨w3.heap.size, 2, none⟩ = some (.slice A1 x.path.length c1) := (blk_cell hn4 2).trans rfl
    have bp3 : w4.cell? ⟨w3.heap.size, 3, none⟩ = some (.slice B1 x.args.length d1) := (blk_cell hn4 3).trans rfl
    have bf0 := blk_frozen hn4 0
    have bf1 := blk_frozen hn4 1
    have bf2 := blk_frozen hn4 2
    have bf3 := blk_frozen hn4 3
    have a1 : Aside0 (StepsR (fun k => w.heap.size < k ∧ k ≠ w3.heap.size) w4 (.slice A1 x.path.length c1) x.path) := ⟨hx1.bound.imp_ (fun k hk => hb4.block k hk.2) (fun k hk => ⟨by omega, by omega⟩)⟩
    have a2 : Aside0 (PredsR (fun k => w.heap.size < k ∧ k ≠ w3.heap.size) w4 (.slice B1 x.args.length d1) x.args) := ⟨hx2.bound.imp_ (fun k hk => hb4.block k hk.2) (fun k hk => ⟨by omega, by omega⟩)⟩
    have HBB : Aside0 (Below w.heap.size w w4) := ⟨below_step (below_step HB.out hx3) hb4⟩
    clear hx1 hx2 hx3 hb4 hn4 hr4 hr3 hch'
    by_cases hk0 : kk < 0
    · have HE : Aside0 (o1 = none) := ⟨by
        cases o1 with
        | none => rfl
        | some r => obtain ⟨_, j', _, _, h, _⟩ := hx4; omega⟩
      clear hx4
      go_wp2
      have hw9 := put4_at HR4.out (.int .i64 (⟨0, 0, [], []⟩ : Pred).kind) (.int .i64 (⟨0, 0, [], []⟩ : Pred).n) (.slice none (⟨0, 0, [], []⟩ : Pred).path.length 0) (.slice none (⟨0, 0, [], []⟩ : Pred).args.length 0)
      have hgot := rpred_done (StepsR.nil _ _) (PredsR.nil _ _) HBB.out (show RAt l j (termO true o1) (⟨0, 0, [], []⟩ : Pred) (-1) by rw [HE.out]; exact rfl)
      change bodyPost _ _ _ _ _ (put4 w4 w.heap.size (.int .i64 (⟨0, 0, [], []⟩ : Pred).kind) (.int .i64 (⟨0, 0, [], []⟩ : Pred).n) (.slice none (⟨0, 0, [], []⟩ : Pred).path.length 0) (.slice none (⟨0, 0, [], []⟩ : Pred).args.length 0))
      generalize put4 w4 w.heap.size (.int .i64 (⟨0, 0, [], []⟩ : Pred).kind) (.int .i64 (⟨0, 0, [], []⟩ : Pred).n) (.slice none (⟨0, 0, [], []⟩ : Pred).path.length 0) (.slice none (⟨0, 0, [], []⟩ : Pred).args.length 0) = w9 at hw9 hgot ⊢
      have q0 : w9.cell? ⟨w.heap.size, 0, none⟩ = some (.int .i64 (⟨0, 0, [], []⟩ : Pred).kind) := (blk_cell hw9 0).trans rfl
      have q1 : w9.cell? ⟨w.heap.size, 1, none⟩ = some (.int .i64 (⟨0, 0, [], []⟩ : Pred).n) := (blk_cell hw9 1).trans rfl
      have q2 : w9.cell? ⟨w.heap.size, 2, none⟩ = some (.slice none (⟨0, 0, [], []⟩ : Pred).path.length 0) := (blk_cell hw9 2).trans rfl
      have q3 : w9.cell? ⟨w.heap.size, 3, none⟩ = some (.slice none (⟨0, 0, [], []⟩ : Pred).args.length 0) := (blk_cell hw9 3).trans rfl
      refine bodyPost_ret (v := .tuple #[.agg #[.int .i64 (⟨0, 0, [], []⟩ : Pred).kind, .int .i64 (⟨0, 0, [], []⟩ : Pred).n, .slice none (⟨0, 0, [], []⟩ : Pred).path.length 0, .slice none (⟨0, 0, [], []⟩ : Pred).args.length 0], .int .i64 (-1:Int)]) (by simp [results, Tryz.results104, go_sem, q0, q1, q2, q3]) rfl ?_
      exact ⟨(⟨0, 0, [], []⟩ : Pred), none, 0, none, 0, (-1:Int), rfl, hgot⟩
    · obtain ⟨t3, j', ho1, hj1, hj2, rfl, ht3⟩ : ∃ t3 j', o1 = some (x, t3) ∧ s + 1 ≤ j' ∧ j' ≤ l.length ∧ kk = ((j' : Nat) : Int) ∧ t3 = l.drop j' := by
        cases o1 with
        | none => exact absurd hx4 (by intro h; have h' : kk = -1 := h; omega)
        | some r => obtain ⟨y, ts⟩ := r; obtain ⟨rfl, j', h1, h2, h3, h4⟩ := hx4; exact ⟨ts, j', rfl, h1, h2, h3, h4⟩
      clear hx4
      by_cases hrp : l[j']? = some tRp
      · have hj3 := tok_lt hrp
        have HE : Aside0 (termO true o1 = some ((⟨5, 0, [], [x]⟩ : Pred), l.drop (j' + 1))) := ⟨by
          rw [ho1, ht3]
          simp only [termO, Option.bind_some, head_drop]
          rw [if_pos hrp, List.tail_drop]
          rfl⟩
        have hat4 := at_lit (A := A) (c := c) (w := w4) hT4 hrp
        have hat4' : Calls Tryz.prog 32 #[.slice A l.length c, .int .i64 (j' : Int)] w4 fun e w' => e = .returned (.string ⟨#[41]⟩) ∧ w4 = w' := hat4
        clear hat4 hrp ho1 ht3
        have hjj0 : (0 : Int) ≤ (j' : Int) := by omega
        have hjj1 : (j' : Int) ≤ 1000 := by omega
        generalize hw6 : w4.alloc (.cells #[.int .i64 x.kind, .int .i64 x.n, .slice A1 x.path.length c1, .slice B1 x.args.length d1] 41) = w6
        have hb6 : Below w4.heap.size w4 w6 := by rw [← hw6]; exact below_alloc (Below.refl _ _) _
        have hn6 : w6.heap[w4.heap.size]? = some (.cells #[.int .i64 x.kind, .int .i64 x.n, .slice A1 x.path.length c1, .slice B1 x.args.length d1] 41 (0, 0)) := by rw [← hw6]; exact blk_new _ _
        have hp6 := blk_below HN4.out hb6
        have hr6 := blk_below HR4.out hb6
        have dp0 : w6.cell? ⟨w3.heap.size, 0, none⟩ = some (.int .i64 x.kind) := (blk_cell hp6 0).trans rfl
        have dp1 : w6.cell? ⟨w3.heap.size, 1, none⟩ = some (.int .i64 x.n) := (blk_cell hp6 1).trans rfl
        have dp2 : w6.cell? ⟨w3.heap.size, 2, none⟩ = some (.slice A1 x.path.length c1) := (blk_cell hp6 2).trans rfl
        have dp3 : w6.cell? ⟨w3.heap.size, 3, none⟩ = some (.slice B1 x.args.length d1) := (blk_cell hp6 3).trans rfl
        have se0 : w6.cell? ⟨w.heap.size, 0, none⟩ = some (.int .i64 0) := (blk_cell hr6 0).trans rfl
        have se1 : w6.cell? ⟨w.heap.size, 1, none⟩ = some (.int .i64 0) := (blk_cell hr6 1).trans rfl
        have se2 : w6.cell? ⟨w.heap.size, 2, none⟩ = some (.slice none 0 0) := (blk_cell hr6 2).trans rfl
        have se3 : w6.cell? ⟨w.heap.size, 3, none⟩ = some (.slice none 0 0) := (blk_cell hr6 3).trans rfl
        have sf0 := blk_frozen hr6 0
        have sf1 := blk_frozen hr6 1
        have sf2 := blk_frozen hr6 2
        have sf3 := blk_frozen hr6 3
        have df0 := blk_frozen hp6 0
        have df1 := blk_frozen hp6 1
        have df2 := blk_frozen hp6 2
        have df3 := blk_frozen hp6 3
        have hz4 := HB4.out.size
        have hneq : w.heap.size ≠ w3.heap.size := by have := HZ.out; omega
        have HP7 := Aside0.mk (put4_at hp6 (.int .i64 5) (.int .i64 0) (.slice none 0 0) (.slice (some ⟨w4.heap.size, 0, none⟩) 1 1))
        have HQ7 : Aside0 ((put4 w6 w3.heap.size (.int .i64 5) (.int .i64 0) (.slice none 0 0) (.slice (some ⟨w4.heap.size, 0, none⟩) 1 1)).heap[w.heap.size]? = some (.cells #[.int .i64 0, .int .i64 0, .slice none 0 0, .slice none 0 0] 41 (0, 0))) := ⟨(put4_far _ hneq _ _ _ _).trans hr6⟩
        have HA7 : Aside0 (PredsR (fun k => w.heap.size < k) (put4 w6 w3.heap.size (.int .i64 5) (.int .i64 0) (.slice none 0 0) (.slice (some ⟨w4.heap.size, 0, none⟩) 1 1)) (.slice (some ⟨w4.heap.size, 0, none⟩) 1 1) [x]) := ⟨by
          have hl4 := blk_lt HN4.out
          have hz1 := HZ.out
          have hl0 := HLT.out
          refine preds_one (by rw [put4_far _ (by omega)]; exact hn6) (by omega) ?_ ?_
          · exact a1.out.bound.imp_ (fun k hk => (put4_far _ hk.1.2 _ _ _ _).trans (hb6.block k hk.2)) (fun k hk => hk.1.1)
          · exact a2.out.bound.imp_ (fun k hk => (put4_far _ hk.1.2 _ _ _ _).trans (hb6.block k hk.2)) (fun k hk => hk.1.1)⟩
        have HB7 : Aside0 (Below w.heap.size w (put4 w6 w3.heap.size (.int .i64 5) (.int .i64 0) (.slice none 0 0) (.slice (some ⟨w4.heap.size, 0, none⟩) 1 1))) := ⟨by
          have h3 := put4_gb (grown_of_below (below_step HBB.out hb6) none) (R := w3.heap.size) (by have := HZ.out; omega) (.int .i64 5) (.int .i64 0) (.slice none 0 0) (.slice (some ⟨w4.heap.size, 0, none⟩) 1 1)
          exact ⟨h3.os, h3.tape, h3.output, h3.size, fun i hi => h3.block i hi (by simp)⟩⟩
        clear hb6 hn6 hp6 hr6
        go_wp2_with fail
        go_at_call 32
        refine hat4'.mono ?_
        rintro e w5 ⟨rfl, rfl⟩
        go_wp2
        change bodyPost _ _ _ _ _ (put4 (put4 w6 w3.heap.size (.int .i64 5) (.int .i64 0) (.slice none 0 0) (.slice (some ⟨w4.heap.size, 0, none⟩) 1 1)) w.heap.size _ _ _ _)
        generalize put4 w6 w3.heap.size (.int .i64 5) (.int .i64 0) (.slice none 0 0) (.slice (some ⟨w4.heap.size, 0, none⟩) 1 1) = w7 at HP7 HQ7 HA7 HB7 ⊢
        have hw9 := put4_at HQ7.out (.int .i64 (⟨5, 0, [], [x]⟩ : Pred).kind) (.int .i64 (⟨5, 0, [], [x]⟩ : Pred).n) (.slice none (⟨5, 0, [], [x]⟩ : Pred).path.length 0) (.slice (some ⟨w4.heap.size, 0, none⟩) (⟨5, 0, [], [x]⟩ : Pred).args.length 1)
        have hgot := rpred_done (StepsR.nil _ _) HA7.out HB7.out (show RAt l j (termO true o1) (⟨5, 0, [], [x]⟩ : Pred) ((j':Int)+1) by rw [HE.out]; exact ⟨rfl, j' + 1, by omega, by omega, by simp, rfl⟩)
        change bodyPost _ _ _ _ _ (put4 w7 w.heap.size (.int .i64 (⟨5, 0, [], [x]⟩ : Pred).kind) (.int .i64 (⟨5, 0, [], [x]⟩ : Pred).n) (.slice none (⟨5, 0, [], [x]⟩ : Pred).path.length 0) (.slice (some ⟨w4.heap.size, 0, none⟩) (⟨5, 0, [], [x]⟩ : Pred).args.length 1))
        generalize put4 w7 w.heap.size (.int .i64 (⟨5, 0, [], [x]⟩ : Pred).kind) (.int .i64 (⟨5, 0, [], [x]⟩ : Pred).n) (.slice none (⟨5, 0, [], [x]⟩ : Pred).path.length 0) (.slice (some ⟨w4.heap.size, 0, none⟩) (⟨5, 0, [], [x]⟩ : Pred).args.length 1) = w9 at hw9 hgot ⊢
        have q0 : w9.cell? ⟨w.heap.size, 0, none⟩ = some (.int .i64 (⟨5, 0, [], [x]⟩ : Pred).kind) := (blk_cell hw9 0).trans rfl
        have q1 : w9.cell? ⟨w.heap.size, 1, none⟩ = some (.int .i64 (⟨5, 0, [], [x]⟩ : Pred).n) := (blk_cell hw9 1).trans rfl
        have q2 : w9.cell? ⟨w.heap.size, 2, none⟩ = some (.slice none (⟨5, 0, [], [x]⟩ : Pred).path.length 0) := (blk_cell hw9 2).trans rfl
        have q3 : w9.cell? ⟨w.heap.size, 3, none⟩ = some (.slice (some ⟨w4.heap.size, 0, none⟩) (⟨5, 0, [], [x]⟩ : Pred).args.length 1) := (blk_cell hw9 3).trans rfl
        refine bodyPost_ret (v := .tuple #[.agg #[.int .i64 (⟨5, 0, [], [x]⟩ : Pred).kind, .int .i64 (⟨5, 0, [], [x]⟩ : Pred).n, .slice none (⟨5, 0, [], [x]⟩ : Pred).path.length 0, .slice (some ⟨w4.heap.size, 0, none⟩) (⟨5, 0, [], [x]⟩ : Pred).args.length 1], .int .i64 ((j':Int)+1)]) (by simp [results, Tryz.results104, go_sem, q0, q1, q2, q3]) rfl ?_
        exact ⟨(⟨5, 0, [], [x]⟩ : Pred), none, 0, (some ⟨w4.heap.size, 0, none⟩), 1, ((j':Int)+1), rfl, hgot⟩
      · have hat4 := at_any l A c j' w4 hT4
        have HE : Aside0 (termO true o1 = none) := ⟨by
          rw [ho1, ht3]
          simp only [termO, Option.bind_some, head_drop]
          rw [if_neg hrp]⟩
        have hb5 := ne_beq (bs' := [41]) (atL_ne hrp (by decide))
        generalize atL l j' = s5 at hat4 hb5
        clear hrp ho1 ht3
        go_wp2_with fail
        go_at_call 32
        refine hat4.mono ?_
        rintro e w5 ⟨rfl, rfl⟩
        go_wp2
        have hw9 := put4_at HR4.out (.int .i64 (⟨0, 0, [], []⟩ : Pred).kind) (.int .i64 (⟨0, 0, [], []⟩ : Pred).n) (.slice none (⟨0, 0, [], []⟩ : Pred).path.length 0) (.slice none (⟨0, 0, [], []⟩ : Pred).args.length 0)
        have hgot := rpred_done (StepsR.nil _ _) (PredsR.nil _ _) HBB.out (show RAt l j (termO true o1) (⟨0, 0, [], []⟩ : Pred) (-1) by rw [HE.out]; exact rfl)
        change bodyPost _ _ _ _ _ (put4 w4 w.heap.size (.int .i64 (⟨0, 0, [], []⟩ : Pred).kind) (.int .i64 (⟨0, 0, [], []⟩ : Pred).n) (.slice none (⟨0, 0, [], []⟩ : Pred).path.length 0) (.slice none (⟨0, 0, [], []⟩ : Pred).args.length 0))
        generalize put4 w4 w.heap.size (.int .i64 (⟨0, 0, [], []⟩ : Pred).kind) (.int .i64 (⟨0, 0, [], []⟩ : Pred).n) (.slice none (⟨0, 0, [], []⟩ : Pred).path.length 0) (.slice none (⟨0, 0, [], []⟩ : Pred).args.length 0) = w9 at hw9 hgot ⊢
        have q0 : w9.cell? ⟨w.heap.size, 0, none⟩ = some (.int .i64 (⟨0, 0, [], []⟩ : Pred).kind) := (blk_cell hw9 0).trans rfl
        have q1 : w9.cell? ⟨w.heap.size, 1, none⟩ = some (.int .i64 (⟨0, 0, [], []⟩ : Pred).n) := (blk_cell hw9 1).trans rfl
        have q2 : w9.cell? ⟨w.heap.size, 2, none⟩ = some (.slice none (⟨0, 0, [], []⟩ : Pred).path.length 0) := (blk_cell hw9 2).trans rfl
        have q3 : w9.cell? ⟨w.heap.size, 3, none⟩ = some (.slice none (⟨0, 0, [], []⟩ : Pred).args.length 0) := (blk_cell hw9 3).trans rfl
        refine bodyPost_ret (v := .tuple #[.agg #[.int .i64 (⟨0, 0, [], []⟩ : Pred).kind, .int .i64 (⟨0, 0, [], []⟩ : Pred).n, .slice none (⟨0, 0, [], []⟩ : Pred).path.length 0, .slice none (⟨0, 0, [], []⟩ : Pred).args.length 0], .int .i64 (-1:Int)]) (by simp [results, Tryz.results104, go_sem, q0, q1, q2, q3]) rfl ?_
        exact ⟨(⟨0, 0, [], []⟩ : Pred), none, 0, none, 0, (-1:Int), rfl, hgot⟩
  · have hat := at_lit (A := A) (c := c) hT1 hs
    have hat' : Calls Tryz.prog 32 #[.slice A l.length c, .int .i64 (s : Int)] w1 fun e w' => e = .returned (.string ⟨#[40]⟩) ∧ w1 = w' := hat
    have hch' : Calls Tryz.prog 78 #[.slice A l.length c, .int .i64 ((s : Int) + 1), .int .i64 inner] w1 _ := hch1
    obtain ⟨j, hjs⟩ : ∃ j, j = s := ⟨_, rfl⟩
    clear hat hT hT1 hs hch1
    go_enter Tryz.func104, Tryz.ntmps104
    go_wp2_with fail
    go_at_call 32
    refine hat'.mono ?_
    rintro e w2 ⟨rfl, rfl⟩
    go_wp2_with fail
    go_at_call 32
    refine hat'.mono ?_
    rintro e w2 ⟨rfl, rfl⟩
    go_wp2_with fail
    go_at_call 78
    refine hch'.mono ?_
    rintro e w3 ⟨x, A1, c1, B1, d1, kk, rfl, hx1, hx2, hx3, hx4⟩
    have hr3 := blk_below HR1.out hx3
    generalize hw4 : w3.alloc (.cells #[.int .i64 x.kind, .int .i64 x.n, .slice A1 x.path.length c1, .slice B1 x.args.length d1] 41) = w4
    have hb4 : Below w3.heap.size w3 w4 := by rw [← hw4]; exact below_alloc (Below.refl _ _) _
    have hn4 : w4.heap[w3.heap.size]? = some (.cells #[.int .i64 x.kind, .int .i64 x.n, .slice A1 x.path.length c1, .slice B1 x.args.length d1] 41 (0, 0)) := by rw [← hw4]; exact blk_new _ _
    have hr4 := blk_below hr3 hb4
    have HX := Aside0.mk (And.intro hx1 (And.intro hx2 (And.intro hx3 hx4)))
    have HR4 := Aside0.mk hr4
    have HB4 := Aside0.mk hb4
    have HN4 := Aside0.mk hn4
    have hlt1 := blk_lt HR1.out
    have HLT : Aside0 (w.heap.size < w1.heap.size) := ⟨hlt1⟩
    have HZ : Aside0 (w1.heap.size ≤ w3.heap.size) := ⟨hx3.size⟩
    have hT4 := (HT.out.below hx3).below hb4
    have re0 : w4.cell? ⟨w.heap.size, 0, none⟩ = some (.int .i64 0) := (blk_cell hr4 0).trans rfl
    have re1 : w4.cell? ⟨w.heap.size, 1, none⟩ = some (.int .i64 0) := (blk_cell hr4 1).trans rfl
    have re2 : w4.cell? ⟨w.heap.size, 2, none⟩ = some (.slice none 0 0) := (blk_cell hr4 2).trans rfl
    have re3 : w4.cell? ⟨w.heap.size, 3, none⟩ = some (.slice none 0 0) := (blk_cell hr4 3).trans rfl
    have rf0 := blk_frozen hr4 0
    have rf1 := blk_frozen hr4 1
    have rf2 := blk_frozen hr4 2
    have rf3 := blk_frozen hr4 3
    have bp0 : w4.cell? ⟨w3.heap.size, 0, none⟩ = some (.int .i64 x.kind) := (blk_cell hn4 0).trans rfl
    have bp1 : w4.cell? ⟨w3.heap.size, 1, none⟩ = some (.int .i64 x.n) := (blk_cell hn4 1).trans rfl
    have bp2 : w4.cell? ⟨w3.heap.size, 2, none⟩ = some (.slice A1 x.path.length c1) := (blk_cell hn4 2).trans rfl
    have bp3 : w4.cell? ⟨w3.heap.size, 3, none⟩ = some (.slice B1 x.args.length d1) := (blk_cell hn4 3).trans rfl
    have bf0 := blk_frozen hn4 0
    have bf1 := blk_frozen hn4 1
    have bf2 := blk_frozen hn4 2
    have bf3 := blk_frozen hn4 3
    have a1 : Aside0 (StepsR (fun k => w.heap.size < k ∧ k ≠ w3.heap.size) w4 (.slice A1 x.path.length c1) x.path) := ⟨hx1.bound.imp_ (fun k hk => hb4.block k hk.2) (fun k hk => ⟨by omega, by omega⟩)⟩
    have a2 : Aside0 (PredsR (fun k => w.heap.size < k ∧ k ≠ w3.heap.size) w4 (.slice B1 x.args.length d1) x.args) := ⟨hx2.bound.imp_ (fun k hk => hb4.block k hk.2) (fun k hk => ⟨by omega, by omega⟩)⟩
    have HBB : Aside0 (Below w.heap.size w w4) := ⟨below_step (below_step HB.out hx3) hb4⟩
    clear hx1 hx2 hx3 hb4 hn4 hr4 hr3 hch'
    by_cases hk0 : kk < 0
    · have HE : Aside0 (o1 = none) := ⟨by
        cases o1 with
        | none => rfl
        | some r => obtain ⟨_, j', _, _, h, _⟩ := hx4; omega⟩
      clear hx4
      go_wp2
      have hw9 := put4_at HR4.out (.int .i64 (⟨0, 0, [], []⟩ : Pred).kind) (.int .i64 (⟨0, 0, [], []⟩ : Pred).n) (.slice none (⟨0, 0, [], []⟩ : Pred).path.length 0) (.slice none (⟨0, 0, [], []⟩ : Pred).args.length 0)
      have hgot := rpred_done (StepsR.nil _ _) (PredsR.nil _ _) HBB.out (show RAt l s (termO false o1) (⟨0, 0, [], []⟩ : Pred) (-1) by rw [HE.out]; exact rfl)
      change bodyPost _ _ _ _ _ (put4 w4 w.heap.size (.int .i64 (⟨0, 0, [], []⟩ : Pred).kind) (.int .i64 (⟨0, 0, [], []⟩ : Pred).n) (.slice none (⟨0, 0, [], []⟩ : Pred).path.length 0) (.slice none (⟨0, 0, [], []⟩ : Pred).args.length 0))
      generalize put4 w4 w.heap.size (.int .i64 (⟨0, 0, [], []⟩ : Pred).kind) (.int .i64 (⟨0, 0, [], []⟩ : Pred).n) (.slice none (⟨0, 0, [], []⟩ : Pred).path.length 0) (.slice none (⟨0, 0, [], []⟩ : Pred).args.length 0) = w9 at hw9 hgot ⊢
      have q0 : w9.cell? ⟨w.heap.size, 0, none⟩ = some (.int .i64 (⟨0, 0, [], []⟩ : Pred).kind) := (blk_cell hw9 0).trans rfl
      have q1 : w9.cell? ⟨w.heap.size, 1, none⟩ = some (.int .i64 (⟨0, 0, [], []⟩ : Pred).n) := (blk_cell hw9 1).trans rfl
      have q2 : w9.cell? ⟨w.heap.size, 2, none⟩ = some (.slice none (⟨0, 0, [], []⟩ : Pred).path.length 0) := (blk_cell hw9 2).trans rfl
      have q3 : w9.cell? ⟨w.heap.size, 3, none⟩ = some (.slice none (⟨0, 0, [], []⟩ : Pred).args.length 0) := (blk_cell hw9 3).trans rfl
      refine bodyPost_ret (v := .tuple #[.agg #[.int .i64 (⟨0, 0, [], []⟩ : Pred).kind, .int .i64 (⟨0, 0, [], []⟩ : Pred).n, .slice none (⟨0, 0, [], []⟩ : Pred).path.length 0, .slice none (⟨0, 0, [], []⟩ : Pred).args.length 0], .int .i64 (-1:Int)]) (by simp [results, Tryz.results104, go_sem, q0, q1, q2, q3]) rfl ?_
      exact ⟨(⟨0, 0, [], []⟩ : Pred), none, 0, none, 0, (-1:Int), rfl, hgot⟩
    · obtain ⟨t3, j', ho1, hj1, hj2, rfl, ht3⟩ : ∃ t3 j', o1 = some (x, t3) ∧ s + 1 ≤ j' ∧ j' ≤ l.length ∧ kk = ((j' : Nat) : Int) ∧ t3 = l.drop j' := by
        cases o1 with
        | none => exact absurd hx4 (by intro h; have h' : kk = -1 := h; omega)
        | some r => obtain ⟨y, ts⟩ := r; obtain ⟨rfl, j', h1, h2, h3, h4⟩ := hx4; exact ⟨ts, j', rfl, h1, h2, h3, h4⟩
      clear hx4
      by_cases hrp : l[j']? = some tRp
      · have hj3 := tok_lt hrp
        have HE : Aside0 (termO false o1 = some (x, l.drop (j' + 1))) := ⟨by
          rw [ho1, ht3]
          simp only [termO, Option.bind_some, head_drop]
          rw [if_pos hrp, List.tail_drop]
          rfl⟩
        have hat4 := at_lit (A := A) (c := c) (w := w4) hT4 hrp
        have hat4' : Calls Tryz.prog 32 #[.slice A l.length c, .int .i64 (j' : Int)] w4 fun e w' => e = .returned (.string ⟨#[41]⟩) ∧ w4 = w' := hat4
        clear hat4 hrp ho1 ht3
        have hjj0 : (0 : Int) ≤ (j' : Int) := by omega
        have hjj1 : (j' : Int) ≤ 1000 := by omega
        skip
        go_wp2_with fail
        go_at_call 32
        refine hat4'.mono ?_
        rintro e w5 ⟨rfl, rfl⟩
        go_wp2
        have hw9 := put4_at HR4.out (.int .i64 x.kind) (.int .i64 x.n) (.slice A1 x.path.length c1) (.slice B1 x.args.length d1)
        have hgot := rpred_done (a1.out.imp_ (fun _ _ => rfl) (fun k hk => hk.1)) (a2.out.imp_ (fun _ _ => rfl) (fun k hk => hk.1)) HBB.out (show RAt l s (termO false o1) x ((j':Int)+1) by rw [HE.out]; exact ⟨rfl, j' + 1, by omega, by omega, by simp, rfl⟩)
        change bodyPost _ _ _ _ _ (put4 w4 w.heap.size (.int .i64 x.kind) (.int .i64 x.n) (.slice A1 x.path.length c1) (.slice B1 x.args.length d1))
        generalize put4 w4 w.heap.size (.int .i64 x.kind) (.int .i64 x.n) (.slice A1 x.path.length c1) (.slice B1 x.args.length d1) = w9 at hw9 hgot ⊢
        have q0 : w9.cell? ⟨w.heap.size, 0, none⟩ = some (.int .i64 x.kind) := (blk_cell hw9 0).trans rfl
        have q1 : w9.cell? ⟨w.heap.size, 1, none⟩ = some (.int .i64 x.n) := (blk_cell hw9 1).trans rfl
        have q2 : w9.cell? ⟨w.heap.size, 2, none⟩ = some (.slice A1 x.path.length c1) := (blk_cell hw9 2).trans rfl
        have q3 : w9.cell? ⟨w.heap.size, 3, none⟩ = some (.slice B1 x.args.length d1) := (blk_cell hw9 3).trans rfl
        refine bodyPost_ret (v := .tuple #[.agg #[.int .i64 x.kind, .int .i64 x.n, .slice A1 x.path.length c1, .slice B1 x.args.length d1], .int .i64 ((j':Int)+1)]) (by simp [results, Tryz.results104, go_sem, q0, q1, q2, q3]) rfl ?_
        exact ⟨x, A1, c1, B1, d1, ((j':Int)+1), rfl, hgot⟩
      · have hat4 := at_any l A c j' w4 hT4
        have HE : Aside0 (termO false o1 = none) := ⟨by
          rw [ho1, ht3]
          simp only [termO, Option.bind_some, head_drop]
          rw [if_neg hrp]⟩
        have hb5 := ne_beq (bs' := [41]) (atL_ne hrp (by decide))
        generalize atL l j' = s5 at hat4 hb5
        clear hrp ho1 ht3
        go_wp2_with fail
        go_at_call 32
        refine hat4.mono ?_
        rintro e w5 ⟨rfl, rfl⟩
        go_wp2
        have hw9 := put4_at HR4.out (.int .i64 (⟨0, 0, [], []⟩ : Pred).kind) (.int .i64 (⟨0, 0, [], []⟩ : Pred).n) (.slice none (⟨0, 0, [], []⟩ : Pred).path.length 0) (.slice none (⟨0, 0, [], []⟩ : Pred).args.length 0)
        have hgot := rpred_done (StepsR.nil _ _) (PredsR.nil _ _) HBB.out (show RAt l s (termO false o1) (⟨0, 0, [], []⟩ : Pred) (-1) by rw [HE.out]; exact rfl)
        change bodyPost _ _ _ _ _ (put4 w4 w.heap.size (.int .i64 (⟨0, 0, [], []⟩ : Pred).kind) (.int .i64 (⟨0, 0, [], []⟩ : Pred).n) (.slice none (⟨0, 0, [], []⟩ : Pred).path.length 0) (.slice none (⟨0, 0, [], []⟩ : Pred).args.length 0))
        generalize put4 w4 w.heap.size (.int .i64 (⟨0, 0, [], []⟩ : Pred).kind) (.int .i64 (⟨0, 0, [], []⟩ : Pred).n) (.slice none (⟨0, 0, [], []⟩ : Pred).path.length 0) (.slice none (⟨0, 0, [], []⟩ : Pred).args.length 0) = w9 at hw9 hgot ⊢
        have q0 : w9.cell? ⟨w.heap.size, 0, none⟩ = some (.int .i64 (⟨0, 0, [], []⟩ : Pred).kind) := (blk_cell hw9 0).trans rfl
        have q1 : w9.cell? ⟨w.heap.size, 1, none⟩ = some (.int .i64 (⟨0, 0, [], []⟩ : Pred).n) := (blk_cell hw9 1).trans rfl
        have q2 : w9.cell? ⟨w.heap.size, 2, none⟩ = some (.slice none (⟨0, 0, [], []⟩ : Pred).path.length 0) := (blk_cell hw9 2).trans rfl
        have q3 : w9.cell? ⟨w.heap.size, 3, none⟩ = some (.slice none (⟨0, 0, [], []⟩ : Pred).args.length 0) := (blk_cell hw9 3).trans rfl
        refine bodyPost_ret (v := .tuple #[.agg #[.int .i64 (⟨0, 0, [], []⟩ : Pred).kind, .int .i64 (⟨0, 0, [], []⟩ : Pred).n, .slice none (⟨0, 0, [], []⟩ : Pred).path.length 0, .slice none (⟨0, 0, [], []⟩ : Pred).args.length 0], .int .i64 (-1:Int)]) (by simp [results, Tryz.results104, go_sem, q0, q1, q2, q3]) rfl ?_
        exact ⟨(⟨0, 0, [], []⟩ : Pred), none, 0, none, 0, (-1:Int), rfl, hgot⟩
theorem rTerm_any (l : List Tok) (A : Option Addr) (c j : Nat) (hl : l.length ≤ 1000) (hj : j ≤ l.length) (IHC : ∀ j', j < j' → j' ≤ l.length → RC 78 (choiceG false) l A c j') (IHP : RPathC l A c j) :
    RC 104 (termG false) l A c j := by
  intro k inner o w h0 hin hT hr
  obtain ⟨k, rfl⟩ : ∃ k', k = k' + 1 := by
    cases k with
    | zero => simp only [termG] at hr; cases hr
    | succ k => exact ⟨k, rfl⟩
  rcases term_cases hr with ⟨nt, s, o1, hs, hcase, hch, rfl⟩ | ⟨hc, hd, o1, hp, rfl⟩
  · have hsl := tok_lt hs
    have hjs : j ≤ s := by rcases hcase with ⟨_, h, _⟩ | ⟨_, h⟩ <;> omega
    exact rterm_in l A c j s inner nt o1 w hl hT hs hcase (fun w1 hb => IHC (s + 1) (by omega) (by omega) k inner o1 w1 h0 (by omega) (hT.below hb) hch)
  · exact rterm_path l A c j inner o1 w hl hj hT hc hd (fun w1 hb => IHP k inner false o1 w1 h0 hin (hT.below hb) hp)
end Go.Proofs.YtoanmoddppmffaaGreatDoor.T
