/- The writer: one in brackets, if it is of some kinds. -/
import Derived.Test.YtoanmoddppmffaaGreatDoorXFe
namespace Go.Proofs.YtoanmoddppmffaaGreatDoor.T
open Go.RowKit Go.Shelf Go.Proofs.YtoanmoddppmffaaGreatDoorW.PrintWords
set_option linter.unusedVariables false
set_option linter.unusedSimpArgs false
def KindsAt (g : Nat) (w : World) (kv : Value) (ks : List Int) : Prop :=
  (kv = .slice none 0 0 ∧ ks = []) ∨ (ks.length ≤ 2 ∧ ∃ kb, kv = .slice (some ⟨kb, 0, none⟩) ks.length ks.length ∧ kb ≠ g ∧ ∀ j, j < ks.length → w.cell? ⟨kb, 0 + j, none⟩ = some (.int .i64 (ks.getD j 0)))
theorem KindsAt.grown {g : Nat} {w w' : World} {kv : Value} {ks : List Int} (h : KindsAt g w kv ks) (hg : w.grownBy w' (some g)) : KindsAt g w' kv ks := by
  rcases h with h | ⟨h0, kb, h1, h2, h3⟩
  · exact .inl h
  · exact .inr ⟨h0, kb, h1, h2, fun j hj => hg.cell (h3 j hj) (fun e => by injection e with e; exact h2 e)⟩
theorem kinds_new1 (w : World) (x : Int) : ∀ j, j < [x].length → (w.alloc (.cells #[.int .i64 x] 3)).cell? ⟨w.heap.size, 0 + j, none⟩ = some (.int .i64 ([x].getD j 0)) := by
  intro j hj
  match j, hj with
  | 0, _ => exact (blk_cell (blk_new w _) 0).trans rfl
theorem kinds_new2 (w : World) (x y : Int) : ∀ j, j < [x, y].length → (w.alloc (.cells #[.int .i64 x, .int .i64 y] 3)).cell? ⟨w.heap.size, 0 + j, none⟩ = some (.int .i64 ([x, y].getD j 0)) := by
  intro j hj
  match j, hj with
  | 0, _ => exact (blk_cell (blk_new w _) 0).trans rfl
  | 1, _ => exact (blk_cell (blk_new w _) 1).trans rfl
def aroundT (ks : List Int) (p : Pred) : Wr := (inP (ks.contains p.kind) (heldT p).1, (heldT p).2)
def WAroundC (n : Nat) : Prop := ∀ (ok : Nat → Prop) (g : Nat) (b : Bool) (w : World) (A B : Option Addr) (c d : Nat) (p : Pred) (kv : Value) (ks : List Int), SlAt (stepR ok w n) ok w (.slice A p.path.length c) p.path → SlAt (predR ok w n) ok w (.slice B p.args.length d) p.args → WOk g b ok w → nmP p → (aroundT ks p).1.size ≤ szMax → KindsAt g w kv ks →
  Calls Tryz.prog 76 #[.pointer (some ⟨g, 0, none⟩), .agg #[.int .i64 p.kind, .int .i64 p.n, .slice A p.path.length c, .slice B p.args.length d], kv] w (WPost g b (aroundT ks p) w)
theorem contains_any (g : Nat) (w : World) (kv : Value) (ks : List Int) (x : Int) (h : KindsAt g w kv ks) : Calls Tryz.prog 87 #[kv, .int .i64 x] w fun e w' => e = .returned (.bool (ks.contains x)) ∧ w' = w := by
  rcases h with ⟨rfl, rfl⟩ | ⟨h0, kb, rfl, h2, h3⟩
  · exact Tryz.slices_Contains_int_empty none 0 x w
  · have := Tryz.slices_Contains_int kb 0 ks.length ks.length ks x w (Nat.le_refl _) (by omega) h3
    rwa [List.take_length] at this
set_option maxHeartbeats 4000000 in
set_option maxRecDepth 100000 in
theorem wAround_any (n : Nat) (IH : WHeldC n) : WAroundC n := by
  intro ok g b w A B c d p kv ks hp ha hW hnm hz hks
  obtain ⟨hpl1, hpl2⟩ : p.path.length ≤ c ∧ c ≤ maxLen := by obtain ⟨A', c', e, h1, h2⟩ := hp.slice; injection e with e1 e2 e3; omega
  obtain ⟨hal1, hal2⟩ : p.args.length ≤ d ∧ d ≤ maxLen := by obtain ⟨A', c', e, h1, h2⟩ := ha.slice; injection e with e1 e2 e3; omega
  have hbox : Below w.heap.size w (w.alloc (.cells #[.int .i64 p.kind, .int .i64 p.n, .slice A p.path.length c, .slice B p.args.length d] 41)) := below_alloc (Below.refl _ _) _
  have hn0 : (w.alloc (.cells #[.int .i64 p.kind, .int .i64 p.n, .slice A p.path.length c, .slice B p.args.length d] 41)).heap[w.heap.size]? = some (.cells #[.int .i64 p.kind, .int .i64 p.n, .slice A p.path.length c, .slice B p.args.length d] 41 (0, 0)) := blk_new _ _
  generalize hw0 : w.alloc (.cells #[.int .i64 p.kind, .int .i64 p.n, .slice A p.path.length c, .slice B p.args.length d] 41) = w0 at hbox hn0
  have hsz : (heldT p).1.size + 2 ≤ 1099511627778 := by
    unfold aroundT inP szMax at hz
    simp only at hz
    split at hz
    · rw [ByteArray.size_append, ByteArray.size_append] at hz; omega
    · omega
  have hz' : (heldT p).1.size ≤ szMax := by unfold szMax; omega
  have hcall := IH _ g b w0 A B c d p (stepsAt_below hp hbox) (predsAt_below ha hbox) ((hW.below hbox).weak (fun k hk => hk.1)) hnm hz'
  have HB := Aside0.mk hbox
  have HN0 := Aside0.mk hn0
  have HKS := Aside0.mk (hks.grown (grown_of_below hbox (some g)))
  have hgne : w.heap.size ≠ g := by have := blk_lt hW.blk; omega
  have z0 : w0.cell? ⟨w.heap.size, 0, none⟩ = some (.int .i64 p.kind) := (blk_cell hn0 0).trans rfl
  have z1 : w0.cell? ⟨w.heap.size, 1, none⟩ = some (.int .i64 p.n) := (blk_cell hn0 1).trans rfl
  have z2 : w0.cell? ⟨w.heap.size, 2, none⟩ = some (.slice A p.path.length c) := (blk_cell hn0 2).trans rfl
  have z3 : w0.cell? ⟨w.heap.size, 3, none⟩ = some (.slice B p.args.length d) := (blk_cell hn0 3).trans rfl
  obtain ⟨r, hr⟩ : ∃ r, r = heldT p := ⟨_, rfl⟩
  unfold aroundT
  rw [← hr] at hcall hsz ⊢
  have hz1 : ¬ 9223372036854775807 < 1 + r.1.size := by omega
  have hz2 : ¬ 9223372036854775807 < 1 + r.1.size + 1 := by omega
  clear hp ha hW hnm hz hks hbox hn0 hz' hr IH hsz
  go_enter Tryz.func76, Tryz.ntmps76
  go_wp2_with fail
  go_at_call 65
  refine hcall.mono ?_
  rintro e w1 ⟨rfl, h2, h3⟩
  have hks1 := HKS.out.grown h3
  have HPO := Aside0.mk (WPost.of_alloc HB.out ⟨rfl, h2, h3⟩)
  have hn1 : w1.heap[w.heap.size]? = some (.cells #[.int .i64 p.kind, .int .i64 p.n, .slice A p.path.length c, .slice B p.args.length d] 41 (0, 0)) := (h3.block _ (blk_lt HN0.out) (fun e => by injection e with e; exact hgne e)).trans HN0.out
  have y0 : w1.cell? ⟨w.heap.size, 0, none⟩ = some (.int .i64 p.kind) := (blk_cell hn1 0).trans rfl
  have hco := contains_any g w1 kv ks p.kind hks1
  clear hcall h2 h3 hks1 hn1 z0 z1 z2 z3
  go_wp2_with fail
  go_at_call 87
  refine hco.mono ?_
  rintro e w2 ⟨rfl, rfl⟩
  clear hco
  cases hc : ks.contains p.kind with
  | true =>
    have HP2 : Aside0 (WPost g b (inP (ks.contains p.kind) r.1, r.2) w (.returned (.string (tLp ++ r.1 ++ tRp))) w2) := ⟨⟨by rw [hc, inP, if_pos rfl], HPO.out.2.1, HPO.out.2.2⟩⟩
    clear hc
    go_wp2
    go_ret
    exact HP2.out
  | false =>
    have HP2 : Aside0 (WPost g b (inP (ks.contains p.kind) r.1, r.2) w (.returned (.string r.1)) w2) := ⟨⟨by rw [hc, inP, if_neg (by simp)], HPO.out.2.1, HPO.out.2.2⟩⟩
    clear hc
    go_wp2
    go_ret
    exact HP2.out
end Go.Proofs.YtoanmoddppmffaaGreatDoor.T
