/- The reference: what its functions leave; rows of 'or' and of 'and'. -/
import Derived.Test.YtoanmoddppmffaaGreatDoorXRb
import Derived.Test.YtoanmoddppmffaaGreatDoorXQi
namespace Go.Proofs.YtoanmoddppmffaaGreatDoor.T
open Go.RowKit Go.Shelf Go.Proofs.YtoanmoddppmffaaGreatDoorW.PrintWords
set_option linter.unusedVariables false
set_option linter.unusedSimpArgs false
theorem adv_false (ts : List Tok) : adv false ts = some ts.tail := by
  match ts with
  | [] => rfl
  | [_] => rfl
  | _ :: _ :: _ => rfl
theorem adv_drop (l : List Tok) (j : Nat) : adv false (l.drop j) = some (l.drop (j + 1)) := by rw [adv_false, List.tail_drop]
theorem head_drop (l : List Tok) (j : Nat) : (l.drop j).head? = l[j]? := by rw [List.head?_drop]
theorem atL_some {l : List Tok} {j : Nat} {t : Tok} (h : l[j]? = some t) : atL l j = t := by simp [atL, h]
theorem atL_ne {l : List Tok} {j : Nat} {t : Tok} (h : l[j]? ≠ some t) (ht : t ≠ ⟨#[]⟩) : atL l j ≠ t := by
  unfold atL
  cases he : l[j]? with
  | none => simpa using Ne.symm ht
  | some u => rw [he] at h; simpa using h
theorem tok_lt {l : List Tok} {j : Nat} {t : Tok} (h : l[j]? = some t) : j < l.length := (List.getElem?_eq_some_iff.1 h).1
theorem ne_beq {s : ByteArray} {bs' : List UInt8} (h : s ≠ bs bs') : (s.toList == bs') = false := by
  rw [beq_eq_false_iff_ne, toList_data]
  exact fun e => h (bs_ext (by rw [e, bs_data]))
def RAt {α : Type} (l : List Tok) (j : Nat) (o : Option (α × List Tok)) (x : α) (kk : Int) : Prop :=
  match o with
  | some (y, ts) => x = y ∧ ∃ j', j ≤ j' ∧ j' ≤ l.length ∧ kk = (j' : Int) ∧ ts = l.drop j'
  | none => kk = -1
def RPredPost (l : List Tok) (j : Nat) (o : Option (Pred × List Tok)) (w : World) (e : Ending) (w' : World) : Prop :=
  ∃ (x : Pred) (A : Option Addr) (c : Nat) (B : Option Addr) (d : Nat) (kk : Int), e = .returned (.tuple #[.agg #[.int .i64 x.kind, .int .i64 x.n, .slice A x.path.length c, .slice B x.args.length d], .int .i64 kk]) ∧
    StepsR (fun k => w.heap.size ≤ k) w' (.slice A x.path.length c) x.path ∧ PredsR (fun k => w.heap.size ≤ k) w' (.slice B x.args.length d) x.args ∧ Below w.heap.size w w' ∧ RAt l j o x kk
def RC (F : FuncId) (Gp : Nat → Int → List Tok → Out Pred) (l : List Tok) (A : Option Addr) (c j : Nat) : Prop :=
  ∀ (k : Nat) (inner : Int) (o : Option (Pred × List Tok)) (w : World), 0 ≤ inner → inner ≤ j → TokR w A l → Gp k inner (l.drop j) = some o → Calls Tryz.prog F #[.slice A l.length c, .int .i64 (j : Int), .int .i64 inner] w (RPredPost l j o w)
abbrev zeroP : Array Value := #[.int .i64 0, .int .i64 0, .slice none 0 0, .slice none 0 0]
def RRowI (l : List Tok) (j : Nat) (inner : Int) (o : Option (Pred × List Tok)) (Gl : Nat → Int → Pred → List Tok → Out Pred) (w : World) (P k gk : Nat) (kv : Value) (wr : World) : Prop :=
  ∃ (p : Pred) (A : Option Addr) (c : Nat) (B : Option Addr) (d : Nat) (kk : Int), kv = .int .i64 kk ∧ wr.heap[P]? = some (.cells #[.int .i64 p.kind, .int .i64 p.n, .slice A p.path.length c, .slice B p.args.length d] 41 (0, 0)) ∧
    StepsR (fun k => w.heap.size < k ∧ k ≠ P) wr (.slice A p.path.length c) p.path ∧ PredsR (fun k => w.heap.size < k ∧ k ≠ P) wr (.slice B p.args.length d) p.args ∧
    Below w.heap.size w wr ∧ wr.heap[w.heap.size]? = some (.cells #[.int .i64 0, .int .i64 0, .slice none 0 0, .slice none 0 0] 41 (0, 0)) ∧ gk ≤ k ∧
    ((∃ jj : Nat, kk = (jj : Int) ∧ j ≤ jj ∧ jj ≤ l.length ∧ Gl gk inner p (l.drop jj) = some o) ∨ (kk = -1 ∧ o = none))
theorem rrow_start {l : List Tok} {j : Nat} {inner : Int} {o o1 : Option (Pred × List Tok)} {Gl : Nat → Int → Pred → List Tok → Out Pred} {w w2 w3 : World} {k : Nat} {x : Pred} {A B : Option Addr} {c d : Nat} {kk : Int}
    (h1 : StepsR (fun k => (w.alloc (.cells zeroP 41)).heap.size ≤ k) w2 (.slice A x.path.length c) x.path) (h2 : PredsR (fun k => (w.alloc (.cells zeroP 41)).heap.size ≤ k) w2 (.slice B x.args.length d) x.args)
    (hb : Below (w.alloc (.cells zeroP 41)).heap.size (w.alloc (.cells zeroP 41)) w2) (hat : RAt l j o1 x kk) (hc : (o1 = none ∧ o = none) ∨ ∃ q t2, o1 = some (q, t2) ∧ Gl k inner q t2 = some o)
    (h3 : w2.alloc (.cells #[.int .i64 x.kind, .int .i64 x.n, .slice A x.path.length c, .slice B x.args.length d] 41) = w3) :
    RRowI l j inner o Gl w w2.heap.size k k (.int .i64 kk) w3 := by
  have hb3 : Below w2.heap.size w2 w3 := by rw [← h3]; exact below_alloc (Below.refl _ _) _
  have hz := hb.size
  simp only [World.size_alloc] at hz h1 h2
  have hr := blk_below (blk_new w (.cells zeroP 41)) hb
  refine ⟨x, A, c, B, d, kk, rfl, by rw [← h3]; exact blk_new _ _, ?_, ?_, ?_, blk_below hr hb3, Nat.le_refl _, ?_⟩
  · exact h1.bound.imp_ (fun k' hk => hb3.block k' hk.2) (fun k' hk => ⟨by omega, by omega⟩)
  · exact h2.bound.imp_ (fun k' hk => hb3.block k' hk.2) (fun k' hk => ⟨by omega, by omega⟩)
  · exact below_step (below_step (below_alloc (Below.refl _ _) _) hb) hb3
  · rcases hc with ⟨rfl, rfl⟩ | ⟨q, t2, rfl, h4⟩
    · exact .inr ⟨hat, rfl⟩
    · obtain ⟨rfl, j', a1, a2, a3, rfl⟩ := hat
      exact .inl ⟨j', a3, a1, a2, h4⟩
theorem rrow_next {l : List Tok} {j jj : Nat} {inner kk2 : Int} {o oq : Option (Pred × List Tok)} {Gl : Nat → Int → Pred → List Tok → Out Pred} {w wr w5 w6 w7 : World} {P k m : Nat} {kind : Int} {p x2 : Pred} {A B A2 B2 : Option Addr} {c d c2 d2 : Nat}
    (hP : w.heap.size < P) (hPr : P < wr.heap.size) (hz : w.heap.size < wr.heap.size) (hj : j ≤ jj)
    (hs1 : StepsR (fun k => w.heap.size < k ∧ k ≠ P) wr (.slice A p.path.length c) p.path) (hs2 : PredsR (fun k => w.heap.size < k ∧ k ≠ P) wr (.slice B p.args.length d) p.args)
    (hb : Below w.heap.size w wr) (hx1 : StepsR (fun k => wr.heap.size ≤ k) w5 (.slice A2 x2.path.length c2) x2.path) (hx2 : PredsR (fun k => wr.heap.size ≤ k) w5 (.slice B2 x2.args.length d2) x2.args)
    (hb5 : Below wr.heap.size wr w5) (hat : RAt l (jj + 1) oq x2 kk2) (hb6 : Below w5.heap.size w5 w6) (hp6 : w6.heap[P]? = some (.cells #[.int .i64 p.kind, .int .i64 p.n, .slice A p.path.length c, .slice B p.args.length d] 41 (0, 0)))
    (hr6 : w6.heap[w.heap.size]? = some (.cells #[.int .i64 0, .int .i64 0, .slice none 0 0, .slice none 0 0] 41 (0, 0)))
    (h7 : w6.alloc (.cells #[.int .i64 p.kind, .int .i64 p.n, .slice A p.path.length c, .slice B p.args.length d, .int .i64 x2.kind, .int .i64 x2.n, .slice A2 x2.path.length c2, .slice B2 x2.args.length d2] 41) = w7)
    (hc : (oq = none ∧ o = none) ∨ ∃ q t2, oq = some (q, t2) ∧ Gl m inner ⟨kind, 0, [], [p, q]⟩ t2 = some o) (hm : m ≤ k) :
    RRowI l j inner o Gl w P k m (.int .i64 kk2) (put4 w7 P (.int .i64 kind) (.int .i64 0) (.slice none 0 0) (.slice (some ⟨w6.heap.size, 0, none⟩) 2 2)) := by
  have hb7 : Below w6.heap.size w6 w7 := by rw [← h7]; exact below_alloc (Below.refl _ _) _
  have hn7 : w7.heap[w6.heap.size]? = some (.cells #[.int .i64 p.kind, .int .i64 p.n, .slice A p.path.length c, .slice B p.args.length d, .int .i64 x2.kind, .int .i64 x2.n, .slice A2 x2.path.length c2, .slice B2 x2.args.length d2] 41 (0, 0)) := by rw [← h7]; exact blk_new _ _
  have z5 := hb5.size
  have z6 := hb6.size
  have far : ∀ k', k' ≠ P → (put4 w7 P (.int .i64 kind) (.int .i64 0) (.slice none 0 0) (.slice (some ⟨w6.heap.size, 0, none⟩) 2 2)).heap[k']? = w7.heap[k']? := fun k' hk => put4_far _ hk _ _ _ _
  have hf := put4_at (blk_below hp6 hb7) (.int .i64 kind) (.int .i64 0) (.slice none 0 0) (.slice (some ⟨w6.heap.size, 0, none⟩) 2 2)
  have hw : Below w.heap.size w (put4 w7 P (.int .i64 kind) (.int .i64 0) (.slice none 0 0) (.slice (some ⟨w6.heap.size, 0, none⟩) 2 2)) := by
    have h1 : w.grownBy w7 none := gb_below (gb_below (gb_below (grown_of_below hb none) hb5) hb6) hb7
    have h2 := put4_gb h1 (Nat.le_of_lt hP) (.int .i64 kind) (.int .i64 0) (.slice none 0 0) (.slice (some ⟨w6.heap.size, 0, none⟩) 2 2)
    exact ⟨h2.os, h2.tape, h2.output, h2.size, fun i hi => h2.block i hi (by simp)⟩
  generalize put4 w7 P (.int .i64 kind) (.int .i64 0) (.slice none 0 0) (.slice (some ⟨w6.heap.size, 0, none⟩) 2 2) = wf at far hf hw ⊢
  have old : ∀ k', k' ≠ P → k' < wr.heap.size → wf.heap[k']? = wr.heap[k']? := fun k' h1 h3 => by
    rw [far k' h1, hb7.block k' (by omega), hb6.block k' (by omega), hb5.block k' h3]
  have new : ∀ k', wr.heap.size ≤ k' → k' < w5.heap.size → wf.heap[k']? = w5.heap[k']? := fun k' h1 h2 => by
    rw [far k' (by omega), hb7.block k' (by omega), hb6.block k' h2]
  refine ⟨⟨kind, 0, [], [p, x2]⟩, none, 0, some ⟨w6.heap.size, 0, none⟩, 2, kk2, rfl, hf, StepsR.nil _ _, ?_, hw, ?_, hm, ?_⟩
  · refine preds_two (by rw [far _ (by omega)]; exact hn7) ⟨by omega, by omega⟩ ?_ ?_ ?_ ?_
    · exact hs1.bound.imp_ (fun k' hk => old k' hk.1.2 hk.2) (fun k' hk => hk.1)
    · exact hs2.bound.imp_ (fun k' hk => old k' hk.1.2 hk.2) (fun k' hk => hk.1)
    · exact hx1.bound.imp_ (fun k' hk => new k' hk.1 hk.2) (fun k' hk => ⟨by omega, by omega⟩)
    · exact hx2.bound.imp_ (fun k' hk => new k' hk.1 hk.2) (fun k' hk => ⟨by omega, by omega⟩)
  · rw [far _ (by omega)]; exact blk_below hr6 hb7
  · rcases hc with ⟨rfl, rfl⟩ | ⟨q, t2, rfl, h4⟩
    · exact .inr ⟨hat, rfl⟩
    · obtain ⟨rfl, j', a1, a2, a3, rfl⟩ := hat
      exact .inl ⟨j', a3, by omega, a2, h4⟩
theorem rpred_done {l : List Tok} {j : Nat} {o : Option (Pred × List Tok)} {w w2 : World} {x : Pred} {v u : Value} {kk : Int}
    (h1 : StepsR (fun k => w.heap.size < k) w2 v x.path) (h2 : PredsR (fun k => w.heap.size < k) w2 u x.args) (hb : Below w.heap.size w w2) (ha : RAt l j o x kk) :
    StepsR (fun k => w.heap.size ≤ k) (put4 w2 w.heap.size (.int .i64 x.kind) (.int .i64 x.n) v u) v x.path ∧ PredsR (fun k => w.heap.size ≤ k) (put4 w2 w.heap.size (.int .i64 x.kind) (.int .i64 x.n) v u) u x.args ∧
      Below w.heap.size w (put4 w2 w.heap.size (.int .i64 x.kind) (.int .i64 x.n) v u) ∧ RAt l j o x kk := by
  have h3 := put4_gb (grown_of_below hb none) (Nat.le_refl _) (.int .i64 x.kind) (.int .i64 x.n) v u
  exact ⟨h1.imp_ (fun k hk => put4_far _ (by omega) _ _ _ _) (fun k hk => by omega), h2.imp_ (fun k hk => put4_far _ (by omega) _ _ _ _) (fun k hk => by omega), ⟨h3.os, h3.tape, h3.output, h3.size, fun i hi => h3.block i hi (by simp)⟩, ha⟩
end Go.Proofs.YtoanmoddppmffaaGreatDoor.T
