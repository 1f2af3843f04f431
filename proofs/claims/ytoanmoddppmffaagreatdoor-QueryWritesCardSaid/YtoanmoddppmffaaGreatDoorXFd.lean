/- The writer: what must hold, in its brackets. -/
import Derived.Test.YtoanmoddppmffaaGreatDoorXFc
import Derived.Lib.AppendIntMem
namespace Go.Proofs.YtoanmoddppmffaaGreatDoor.T
open Go.RowKit Go.Shelf Go.Proofs.YtoanmoddppmffaaGreatDoorW.PrintWords
set_option linter.unusedVariables false
set_option linter.unusedSimpArgs false
def szMax : Nat := 1099511627776
structure WOk (g : Nat) (b : Bool) (ok : Nat → Prop) (w : World) : Prop where
  blk : w.heap[g]? = some (wrO b)
  tab : Tb w
  far : 5 < g
  off : ∀ k, ok k → k ≠ g
theorem WOk.next {g : Nat} {b b' : Bool} {ok : Nat → Prop} {w w' : World} (h : WOk g b ok w) (hw : w'.heap[g]? = some (wrO b')) (hg : w.grownBy w' (some g)) : WOk g b' ok w' :=
  ⟨hw, h.tab.heap_ (hg.block 5 (by have := blk_lt h.blk; have := h.far; omega) (fun e => by injection e with e; have := h.far; omega)), h.far, h.off⟩
theorem WOk.weak {g : Nat} {b : Bool} {ok ok' : Nat → Prop} {w : World} (h : WOk g b ok w) (hk : ∀ k, ok' k → ok k) : WOk g b ok' w := ⟨h.blk, h.tab, h.far, fun k h' => h.off k (hk k h')⟩
theorem WOk.below {g : Nat} {b : Bool} {ok : Nat → Prop} {w w' : World} (h : WOk g b ok w) (hb : Below w.heap.size w w') : WOk g b ok w' :=
  h.next (blk_below h.blk hb) (grown_of_below hb _)
theorem stepsAt_grown {ok : Nat → Prop} {w w' : World} {n g : Nat} {v : Value} {xs : List Step} (h : SlAt (stepR ok w n) ok w v xs) (ho : ∀ k, ok k → k ≠ g) (hg : w.grownBy w' (some g)) : SlAt (stepR (fun k => ok k ∧ k < w.heap.size) w' n) (fun k => ok k ∧ k < w.heap.size) w' v xs :=
  (h.bound (K' := stepR (fun k => ok k ∧ k < w.heap.size) w n) (fun y c _ hy => stepR_bound n y c hy)).imp_ (fun k hk => hg.block k hk.2 (fun e => by injection e with e; exact ho k hk.1 e)) (fun k hk => hk) (fun y c _ hy => stepR_imp (fun k hk => hg.block k hk.2 (fun e => by injection e with e; exact ho k hk.1 e)) (fun k hk => hk) n n (Nat.le_refl _) y c hy)
theorem predsAt_grown {ok : Nat → Prop} {w w' : World} {n g : Nat} {v : Value} {xs : List Pred} (h : SlAt (predR ok w n) ok w v xs) (ho : ∀ k, ok k → k ≠ g) (hg : w.grownBy w' (some g)) : SlAt (predR (fun k => ok k ∧ k < w.heap.size) w' n) (fun k => ok k ∧ k < w.heap.size) w' v xs :=
  (h.bound (K' := predR (fun k => ok k ∧ k < w.heap.size) w n) (fun y c _ hy => predR_bound n y c hy)).imp_ (fun k hk => hg.block k hk.2 (fun e => by injection e with e; exact ho k hk.1 e)) (fun k hk => hk) (fun y c _ hy => predR_imp (fun k hk => hg.block k hk.2 (fun e => by injection e with e; exact ho k hk.1 e)) (fun k hk => hk) n n (Nat.le_refl _) y c hy)
def WPathC (n : Nat) : Prop := ∀ (ok : Nat → Prop) (g : Nat) (b f : Bool) (w : World) (A : Option Addr) (c : Nat) (l : List Step), SlAt (stepR ok w n) ok w (.slice A l.length c) l → WOk g b ok w → nmSs l → (pathT f l).1.size ≤ szMax →
  Calls Tryz.prog 15 #[.pointer (some ⟨g, 0, none⟩), .slice A l.length c, .bool f] w (WPost g b (pathT f l) w)
def WHeldC (n : Nat) : Prop := ∀ (ok : Nat → Prop) (g : Nat) (b : Bool) (w : World) (A B : Option Addr) (c d : Nat) (p : Pred), SlAt (stepR ok w n) ok w (.slice A p.path.length c) p.path → SlAt (predR ok w n) ok w (.slice B p.args.length d) p.args → WOk g b ok w → nmP p → (heldT p).1.size ≤ szMax →
  Calls Tryz.prog 65 #[.pointer (some ⟨g, 0, none⟩), .agg #[.int .i64 p.kind, .int .i64 p.n, .slice A p.path.length c, .slice B p.args.length d]] w (WPost g b (heldT p) w)
def WPredC (n : Nat) : Prop := ∀ (ok : Nat → Prop) (g : Nat) (b : Bool) (w : World) (A B : Option Addr) (c d : Nat) (p : Pred), SlAt (stepR ok w n) ok w (.slice A p.path.length c) p.path → SlAt (predR ok w n) ok w (.slice B p.args.length d) p.args → WOk g b ok w → nmP p → (predT p).1.size ≤ szMax →
  Calls Tryz.prog 46 #[.pointer (some ⟨g, 0, none⟩), .agg #[.int .i64 p.kind, .int .i64 p.n, .slice A p.path.length c, .slice B p.args.length d]] w (WPost g b (predT p) w)
def WStepC (n : Nat) : Prop := ∀ (ok : Nat → Prop) (g : Nat) (b : Bool) (w : World) (A : Option Addr) (c : Nat) (s : Step), SlAt (predR ok w n) ok w (.slice A s.preds.length c) s.preds → WOk g b ok w → nmS s → (stepT s).1.size ≤ szMax →
  Calls Tryz.prog 24 #[.pointer (some ⟨g, 0, none⟩), .agg #[.bool s.deep, .int .i64 s.axis, .string s.name, .slice A s.preds.length c]] w (WPost g b (stepT s) w)
theorem WPost.of_alloc {g : Nat} {b : Bool} {r : Wr} {w w1 : World} {e : Ending} {w' : World} (hb : Below w.heap.size w w1) (h : WPost g b r w1 e w') : WPost g b r w e w' :=
  ⟨h.1, h.2.1, gb_trans (grown_of_below hb (some g)) h.2.2 (.inl rfl)⟩
set_option maxHeartbeats 4000000 in
set_option maxRecDepth 100000 in
theorem wPred_any (n : Nat) (IH : WHeldC n) : WPredC n := by
  intro ok g b w A B c d p hp ha hW hnm hz
  obtain ⟨hpl1, hpl2⟩ : p.path.length ≤ c ∧ c ≤ maxLen := by obtain ⟨A', c', e, h1, h2⟩ := hp.slice; injection e with e1 e2 e3; omega
  obtain ⟨hal1, hal2⟩ : p.args.length ≤ d ∧ d ≤ maxLen := by obtain ⟨A', c', e, h1, h2⟩ := ha.slice; injection e with e1 e2 e3; omega
  have hbox : Below w.heap.size w (w.alloc (.cells #[.int .i64 p.kind, .int .i64 p.n, .slice A p.path.length c, .slice B p.args.length d] 41)) := below_alloc (Below.refl _ _) _
  have hn0 : (w.alloc (.cells #[.int .i64 p.kind, .int .i64 p.n, .slice A p.path.length c, .slice B p.args.length d] 41)).heap[w.heap.size]? = some (.cells #[.int .i64 p.kind, .int .i64 p.n, .slice A p.path.length c, .slice B p.args.length d] 41 (0, 0)) := blk_new _ _
  have hW1 := hW.below hbox
  have HBOX := Aside0.mk hbox
  obtain ⟨⟨hs1, hs2⟩, _⟩ := (nmP_eq p).1 hnm
  by_cases hk : p.kind = 1
  · have hfail := wFails_any g b _ hW1.blk
    have htab := hW1.tab
    have hblk0 := hW1.blk
    clear hp ha hW hW1 hbox hz hn0
    rw [hk] at HBOX hfail htab ⊢
    have bad : (p.n < 1 ∨ 9999999 < p.n ∨ 0 < p.path.length + p.args.length) → predT p = (⟨#[]⟩, false) := fun hbad => by unfold predT; rw [if_neg (by simp [hk]), if_pos hbad]
    by_cases h1 : p.n < 1
    · rw [bad (.inl h1)]
      clear bad
      go_enter Tryz.func46, Tryz.ntmps46
      go_wp2_with fail
      go_at_call 22
      refine hfail.mono ?_
      rintro e w1 ⟨rfl, h2, h3⟩
      have HP := Aside0.mk (WPost.of_alloc HBOX.out ⟨rfl, h2, h3⟩)
      clear hfail h2 h3
      go_wp2
      go_ret
      exact HP.out
    · by_cases h2 : 9999999 < p.n
      · rw [bad (.inr (.inl h2))]
        clear bad
        go_enter Tryz.func46, Tryz.ntmps46
        go_wp2_with fail
        go_at_call 22
        refine hfail.mono ?_
        rintro e w1 ⟨rfl, h2, h3⟩
        have HP := Aside0.mk (WPost.of_alloc HBOX.out ⟨rfl, h2, h3⟩)
        clear hfail h2 h3
        go_wp2
        go_ret
        exact HP.out
      · by_cases h3 : 0 < p.path.length + p.args.length
        · rw [bad (.inr (.inr h3))]
          clear bad
          have h3' : (0 : Int) < (p.path.length : Int) + (p.args.length : Int) := by omega
          go_enter Tryz.func46, Tryz.ntmps46
          go_wp2_with fail
          go_at_call 22
          refine hfail.mono ?_
          rintro e w1 ⟨rfl, h2, h3⟩
          have HP := Aside0.mk (WPost.of_alloc HBOX.out ⟨rfl, h2, h3⟩)
          clear hfail h2 h3
          go_wp2
          go_ret
          exact HP.out
        · have hr : predT p = (bs (Lib.itoa p.n), true) := by unfold predT; rw [if_neg (by simp [hk]), if_neg (by omega)]
          rw [hr]
          have hp0 : p.path.length = 0 := by omega
          have ha0 : p.args.length = 0 := by omega
          rw [hp0, ha0] at hfail HBOX htab ⊢
          have hit := Tryz.strconv_Itoa p.n (by omega) (by omega) _ htab
          have HBLK := Aside0.mk hblk0
          rw [hp0, ha0, hk] at HBLK
          clear bad hr hfail htab h3 hs1 hs2 hpl1 hal1
          go_enter Tryz.func46, Tryz.ntmps46
          go_wp2_with fail
          go_at_call 66
          refine hit.mono ?_
          rintro e w1 ⟨rfl, kk, os, hw1⟩
          have hbi : Below (w.alloc (.cells #[.int .i64 1, .int .i64 p.n, .slice A 0 c, .slice B 0 d] 41)).heap.size (w.alloc (.cells #[.int .i64 1, .int .i64 p.n, .slice A 0 c, .slice B 0 d] 41)) w1 := by rw [hw1]; exact Lib.below_grow _ _ (Nat.le_refl _) kk os
          have HP : Aside0 (WPost g b (bs (Lib.itoa p.n), true) w (.returned (.string ⟨(Lib.itoa p.n).toArray⟩)) w1) :=
            ⟨rfl, by rw [Bool.not_true, Bool.or_false]; exact blk_below HBLK.out hbi, grown_of_below (below_step HBOX.out hbi) _⟩
          clear hit hbi hw1
          go_wp2
          go_ret
          exact HP.out
  · have hr : predT p = heldT p := by unfold predT; rw [if_pos hk]
    rw [hr] at hz ⊢
    have hcall := IH _ g b _ A B c d p (stepsAt_below hp hbox) (predsAt_below ha hbox) (hW1.weak (fun k hk => hk.1)) hnm hz
    clear hp ha hW hW1 hbox hz hr IH hnm
    generalize hw0 : w.alloc (.cells #[.int .i64 p.kind, .int .i64 p.n, .slice A p.path.length c, .slice B p.args.length d] 41) = w0 at hcall hn0 HBOX
    have z0 : w0.cell? ⟨w.heap.size, 0, none⟩ = some (.int .i64 p.kind) := (blk_cell hn0 0).trans rfl
    have z1 : w0.cell? ⟨w.heap.size, 1, none⟩ = some (.int .i64 p.n) := (blk_cell hn0 1).trans rfl
    have z2 : w0.cell? ⟨w.heap.size, 2, none⟩ = some (.slice A p.path.length c) := (blk_cell hn0 2).trans rfl
    have z3 : w0.cell? ⟨w.heap.size, 3, none⟩ = some (.slice B p.args.length d) := (blk_cell hn0 3).trans rfl
    go_enter Tryz.func46, Tryz.ntmps46
    go_upto_region 1 with fail
    go_wp2_with fail
    go_at_call 65
    refine hcall.mono ?_
    rintro e w1 ⟨rfl, h2, h3⟩
    have HP := Aside0.mk (WPost.of_alloc HBOX.out ⟨rfl, h2, h3⟩)
    clear hcall h2 h3 z0 z1 z2 z3
    go_wp2
    go_ret
    exact HP.out
end Go.Proofs.YtoanmoddppmffaaGreatDoor.T
