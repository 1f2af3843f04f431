/- Two rows of signs, one behind the other: what the grammar reads. -/
import Derived.Test.YtoanmoddppmffaaDoorMRj
namespace Go.Proofs.YtoanmoddppmffaaDoor.T
set_option linter.unusedVariables false
def Le {α : Type} (x x' : Out α) : Prop := ∀ o, x = some o → x' = some o
theorem then_yes {α β : Type} (y : α) (t : List Tok) (f : α → List Tok → Out β) : Out.then_ (some (some (y, t))) f = f y t := rfl
theorem le_none {α : Type} {x' : Out α} : Le none x' := fun _ e => by cases e
theorem le_refl {α : Type} (x : Out α) : Le x x := fun _ e => e
theorem le_then {α β : Type} {x x' : Out α} {f f' : α → List Tok → Out β} (h : Le x x') (hf : ∀ y t, Le (f y t) (f' y t)) : Le (x.then_ f) (x'.then_ f') := by
  match x, h with
  | none, _ => exact le_none
  | some none, h => rw [h _ rfl]; exact le_refl _
  | some (some (y, t)), h => rw [h _ rfl]; exact hf y t
theorem le_opt {α β : Type} {o : Option α} {f f' : α → Out β} (hf : ∀ y, Le (f y) (f' y)) : Le (Opt o f) (Opt o f') := by
  cases o with
  | none => exact le_refl _
  | some y => exact hf y
theorem le_ite {α : Type} {c : Prop} [Decidable c] {x y x' y' : Out α} (h1 : Le x x') (h2 : Le y y') : Le (if c then x else y) (if c then x' else y') := by
  by_cases h : c
  · rw [if_pos h, if_pos h]; exact h1
  · rw [if_neg h, if_neg h]; exact h2
theorem more (b : Bool) : ∀ k : Nat,
    (∀ i deep ts, Le (pathG b k i deep ts) (pathG b (k + 1) i deep ts)) ∧ (∀ i ts, Le (stepG b k i ts) (stepG b (k + 1) i ts)) ∧ (∀ i ts, Le (predsG b k i ts) (predsG b (k + 1) i ts)) ∧
    (∀ i ts, Le (predG b k i ts) (predG b (k + 1) i ts)) ∧ (∀ i ts, Le (choiceG b k i ts) (choiceG b (k + 1) i ts)) ∧ (∀ i p ts, Le (choiceL b k i p ts) (choiceL b (k + 1) i p ts)) ∧
    (∀ i ts, Le (bothG b k i ts) (bothG b (k + 1) i ts)) ∧ (∀ i p ts, Le (bothL b k i p ts) (bothL b (k + 1) i p ts)) ∧ (∀ i ts, Le (termG b k i ts) (termG b (k + 1) i ts)) := by
  intro k
  induction k with
  | zero =>
    refine ⟨?_, ?_, ?_, ?_, ?_, ?_, ?_, ?_, ?_⟩ <;> intros <;> intro o e <;> first
      | (simp only [pathG] at e; cases e) | (simp only [stepG] at e; cases e) | (simp only [predsG] at e; cases e) | (simp only [predG] at e; cases e) | (simp only [choiceG] at e; cases e) | (simp only [choiceL] at e; cases e)
      | (simp only [bothG] at e; cases e) | (simp only [bothL] at e; cases e) | (simp only [termG] at e; cases e)
  | succ k ih =>
    obtain ⟨hpath, hstep, hpreds, hpred, hchoice, hchoiceL, hboth, hbothL, hterm⟩ := ih
    refine ⟨fun i deep ts => ?_, fun i ts => ?_, fun i ts => ?_, fun i ts => ?_, fun i ts => ?_, fun i p ts => ?_, fun i ts => ?_, fun i p ts => ?_, fun i ts => ?_⟩
    · rw [pathG, pathG]
      exact le_then (hstep i ts) (fun s t1 => le_ite (le_opt (fun t2 => le_then (hpath i false t2) (fun _ _ => le_refl _))) (le_ite (le_opt (fun t2 => le_then (hpath i true t2) (fun _ _ => le_refl _))) (le_refl _)))
    · rw [stepG, stepG]
      exact le_opt (fun h => le_then (hpreds (i + 1) h.2) (fun _ _ => le_refl _))
    · rw [predsG, predsG]
      exact le_ite (le_ite (le_refl _) (le_opt (fun t1 => le_then (hpred i t1) (fun p t2 => le_opt (fun t3 => le_then (hpreds i t3) (fun _ _ => le_refl _)))))) (le_refl _)
    · cases ts with
      | nil => rw [predG, predG]; exact hchoice i []
      | cons t ts =>
        rw [predG, predG]
        exact le_ite (le_refl _) (hchoice i _)
    · rw [choiceG, choiceG]
      exact le_then (hboth i ts) (fun p t1 => hchoiceL i p t1)
    · rw [choiceL, choiceL]
      exact le_ite (le_opt (fun t1 => le_then (hboth i t1) (fun q t2 => hchoiceL i _ t2))) (le_refl _)
    · rw [bothG, bothG]
      exact le_then (hterm i ts) (fun p t1 => hbothL i p t1)
    · rw [bothL, bothL]
      exact le_ite (le_opt (fun t1 => le_then (hterm i t1) (fun q t2 => hbothL i _ t2))) (le_refl _)
    · rw [termG, termG]
      exact le_ite (le_opt (fun t1 => le_opt (fun t2 => le_then (hchoice i t2) (fun _ _ => le_refl _)))) (le_ite (le_opt (fun t2 => le_then (hchoice i t2) (fun _ _ => le_refl _))) (le_then (hpath i false ts) (fun _ _ => le_refl _)))
theorem le_up {α : Type} {f : Nat → Out α} (h : ∀ k, Le (f k) (f (k + 1))) {k m : Nat} (hm : k ≤ m) : Le (f k) (f m) := by
  induction hm with
  | refl => exact le_refl _
  | step _ ih => exact fun o e => h _ o (ih o e)
theorem ok_of_le {α : Type} {n : Nat} {f : Nat → Out α} (h : ∀ k, Le (f k) (f (k + 1))) {m : Nat} (hk : ∀ k, m ≤ k → OkL n (f k)) {k : Nat} {y : α} {t : List Tok} (e : f k = some (some (y, t))) : t.length ≤ n := by
  obtain ⟨o, ho, hl⟩ := hk (max k m) (Nat.le_max_right _ _)
  have := le_up h (Nat.le_max_left k m) _ e
  rw [ho] at this
  exact hl y t (Option.some.inj this)
section len
variable {b : Bool} {k : Nat} {i : Int} {ts t : List Tok}
theorem path_len {deep : Bool} {y : List Step} (e : pathG b k i deep ts = some (some (y, t))) : t.length ≤ ts.length := ok_of_le (f := fun k => pathG b k i deep ts) (fun k => (more b k).1 i deep ts) (fun k h => (enough b k).1 i deep ts h) e
theorem choiceL_len {p y : Pred} (e : choiceL b k i p ts = some (some (y, t))) : t.length ≤ ts.length := ok_of_le (f := fun k => choiceL b k i p ts) (fun k => (more b k).2.2.2.2.2.1 i p ts) (fun k h => (enough b k).2.2.2.2.2.1 i p ts h) e
theorem bothL_len {p y : Pred} (e : bothL b k i p ts = some (some (y, t))) : t.length ≤ ts.length := ok_of_le (f := fun k => bothL b k i p ts) (fun k => (more b k).2.2.2.2.2.2.2.1 i p ts) (fun k h => (enough b k).2.2.2.2.2.2.2.1 i p ts h) e
theorem step_len {y : Step} (e : stepG b k i ts = some (some (y, t))) : t.length ≤ ts.length := Nat.le_trans (ok_of_le (f := fun k => stepG b k i ts) (fun k => (more b k).2.1 i ts) (fun k h => (enough b k).2.1 i ts h) e) (Nat.sub_le _ _)
end len
def Cn (c : List Tok) : Prop := c.head? = some tSl ∨ c.head? = some tDs
def Ex {α : Type} (c : List Tok) (x x' : Out α) : Prop := ∀ y t, x = some (some (y, t)) → t ≠ [] → x' = some (some (y, t ++ c))
def Es {α : Type} (c : List Tok) (x x' : Out α) : Prop := ∀ y t, x = some (some (y, t)) → x' = some (some (y, t ++ c))
theorem Es.ex {α : Type} {c : List Tok} {x x' : Out α} (h : Es c x x') : Ex c x x' := fun y t e _ => h y t e
theorem es_none {α : Type} {c : List Tok} {x' : Out α} : Es c none x' := fun _ _ e => by cases e
theorem es_no {α : Type} {c : List Tok} {x' : Out α} : Es c (some none) x' := fun _ _ e => by cases e
theorem es_some {α : Type} {c : List Tok} {y : α} {t : List Tok} : Es c (some (some (y, t))) (some (some (y, t ++ c))) := fun y' t' e => by obtain ⟨rfl, rfl⟩ := Prod.mk.inj (Option.some.inj (Option.some.inj e)); rfl
theorem ne_of_len {t u : List Tok} (h : u.length ≤ t.length) (hu : u ≠ []) : t ≠ [] := by
  rintro rfl
  exact hu (List.eq_nil_of_length_eq_zero (Nat.le_zero.1 h))
theorem ex_then {α β : Type} {c : List Tok} {x x' : Out α} {f f' : α → List Tok → Out β} (h : Ex c x x') (hl : ∀ y t z u, f y t = some (some (z, u)) → u.length ≤ t.length) (hf : ∀ y t, t ≠ [] → Ex c (f y t) (f' y (t ++ c))) : Ex c (x.then_ f) (x'.then_ f') := by
  intro z u e hu
  match x, h with
  | none, _ => cases e
  | some none, _ => cases e
  | some (some (y, t)), h =>
    have ht : t ≠ [] := ne_of_len (hl y t z u e) hu
    rw [h y t rfl ht]
    exact hf y t ht z u e hu
theorem es_then {α β : Type} {c : List Tok} {x x' : Out α} {f f' : α → List Tok → Out β} (h : Ex c x x') (hn : ∀ y z u, f y [] ≠ some (some (z, u))) (hf : ∀ y t, t ≠ [] → Es c (f y t) (f' y (t ++ c))) : Es c (x.then_ f) (x'.then_ f') := by
  intro z u e
  match x, h with
  | none, _ => cases e
  | some none, _ => cases e
  | some (some (y, t)), h =>
    have ht : t ≠ [] := by rintro rfl; exact hn y z u e
    rw [h y t rfl ht]
    exact hf y t ht z u e
theorem es_thens {α β : Type} {c : List Tok} {x x' : Out α} {f f' : α → List Tok → Out β} (h : Es c x x') (hf : ∀ y t, Es c (f y t) (f' y (t ++ c))) : Es c (x.then_ f) (x'.then_ f') := by
  intro z u e
  match x, h with
  | none, _ => cases e
  | some none, _ => cases e
  | some (some (y, t)), h => rw [h y t rfl]; exact hf y t z u e
theorem ex_opt {α β γ : Type} {c : List Tok} {o : Option α} {o' : Option γ} {g : α → γ} {f : α → Out β} {f' : γ → Out β} (h : ∀ y, o = some y → o' = some (g y)) (hf : ∀ y, o = some y → Ex c (f y) (f' (g y))) : Ex c (Opt o f) (Opt o' f') := by
  cases o with
  | none => exact es_no.ex
  | some y => rw [h y rfl]; exact hf y rfl
theorem es_opt {α β γ : Type} {c : List Tok} {o : Option α} {o' : Option γ} {g : α → γ} {f : α → Out β} {f' : γ → Out β} (h : ∀ y, o = some y → o' = some (g y)) (hf : ∀ y, o = some y → Es c (f y) (f' (g y))) : Es c (Opt o f) (Opt o' f') := by
  cases o with
  | none => exact es_no
  | some y => rw [h y rfl]; exact hf y rfl
theorem ex_ite {α : Type} {c : List Tok} {p p' : Prop} [Decidable p] [Decidable p'] {x y x' y' : Out α} (hp : p ↔ p') (h1 : p → Ex c x x') (h2 : ¬ p → Ex c y y') : Ex c (if p then x else y) (if p' then x' else y') := by
  by_cases h : p
  · rw [if_pos h, if_pos (hp.1 h)]; exact h1 h
  · rw [if_neg h, if_neg (fun e => h (hp.2 e))]; exact h2 h
theorem es_ite {α : Type} {c : List Tok} {p p' : Prop} [Decidable p] [Decidable p'] {x y x' y' : Out α} (hp : p ↔ p') (h1 : p → Es c x x') (h2 : ¬ p → Es c y y') : Es c (if p then x else y) (if p' then x' else y') := by
  by_cases h : p
  · rw [if_pos h, if_pos (hp.1 h)]; exact h1 h
  · rw [if_neg h, if_neg (fun e => h (hp.2 e))]; exact h2 h
theorem head_app {ts c : List Tok} (h : ts ≠ []) : (ts ++ c).head? = ts.head? := by cases ts with | nil => exact absurd rfl h | cons a l => rfl
theorem head_ne {ts : List Tok} {t : Tok} (h : ts.head? = some t) : ts ≠ [] := by rintro rfl; cases h
theorem head_iff {ts c : List Tok} (hc : Cn c) {t : Tok} (h1 : t ≠ tSl) (h2 : t ≠ tDs) : ts.head? = some t ↔ (ts ++ c).head? = some t := by
  cases ts with
  | nil =>
    rw [List.nil_append]
    constructor
    · intro h; cases h
    · intro h
      rcases hc with hc | hc <;> rw [hc] at h <;> injection h with h
      · exact absurd h.symm h1
      · exact absurd h.symm h2
  | cons a l => exact Iff.rfl
theorem second_iff {ts c : List Tok} (hn : ts ≠ []) (hc : Cn c) {t : Tok} (h1 : t ≠ tSl) (h2 : t ≠ tDs) : ts[1]? = some t ↔ (ts ++ c)[1]? = some t := by
  cases ts with
  | nil => exact absurd rfl hn
  | cons a l =>
    have := head_iff (ts := l) hc h1 h2
    rw [List.head?_eq_getElem?, List.head?_eq_getElem?] at this
    exact this
theorem adv_ext {b : Bool} {ts t c : List Tok} (hc : Cn c) (h : adv false ts = some t) (hn : ts ≠ []) : adv b (ts ++ c) = some (t ++ c) := by
  match ts, h, hn with
  | [], _, hn => exact absurd rfl hn
  | [x], h, _ =>
    simp [adv] at h
    subst h
    cases c with
    | nil => rcases hc with h | h <;> cases h
    | cons d cs => rfl
  | x :: y :: l, h, _ =>
    simp [adv] at h
    subst h
    rfl
theorem need_ext {b : Bool} {s : Tok} {ts t c : List Tok} (hc : Cn c) (h : need false s ts = some t) : need b s (ts ++ c) = some (t ++ c) := by
  unfold need at h ⊢
  split at h
  · rename_i hh
    rw [if_pos (by rw [head_app (head_ne hh)]; exact hh)]
    exact adv_ext hc h (head_ne hh)
  · cases h
theorem named_ext {b : Bool} {ts c : List Tok} {r : ByteArray × List Tok} (hc : Cn c) (h : namedG false ts = some r) : namedG b (ts ++ c) = some (r.1, r.2 ++ c) := by
  match ts, h with
  | [], h => simp [namedG] at h
  | t :: ts', h =>
    simp only [namedG, List.cons_append] at h ⊢
    split at h
    · rename_i hh
      rw [if_pos hh]
      obtain ⟨q, hq, rfl⟩ := Option.map_eq_some_iff.1 h
      rw [← List.cons_append, adv_ext hc hq (by simp)]
      rfl
    · cases h
theorem headG_ext {b : Bool} {ts c : List Tok} {r : (Int × ByteArray) × List Tok} (hc : Cn c) (h : headG false ts = some r) : headG b (ts ++ c) = some (r.1, r.2 ++ c) := by
  have hn : ts ≠ [] := by
    rintro rfl
    simp [headG, namedG] at h
  unfold headG at h ⊢
  rw [head_app hn]
  split at h
  · rename_i hh
    obtain ⟨q, hq, rfl⟩ := Option.map_eq_some_iff.1 h
    rw [if_pos hh, adv_ext hc hq hn]; rfl
  rename_i n1
  rw [if_neg n1]
  split at h
  · rename_i hh
    obtain ⟨q, hq, rfl⟩ := Option.map_eq_some_iff.1 h
    rw [if_pos hh, adv_ext hc hq hn]; rfl
  rename_i n2
  rw [if_neg n2]
  have e1 : (ts[1]? = some tLp ↔ (ts ++ c)[1]? = some tLp) := second_iff hn hc (by decide) (by decide)
  split at h
  · rename_i hh
    obtain ⟨t1, h1, h2⟩ := Option.bind_eq_some_iff.1 h
    obtain ⟨t2, h3, h4⟩ := Option.bind_eq_some_iff.1 h2
    obtain ⟨q, hq, rfl⟩ := Option.map_eq_some_iff.1 h4
    rw [if_pos ⟨hh.1, e1.1 hh.2⟩, adv_ext hc h1 hn, Option.bind_some, need_ext hc h3, Option.bind_some, need_ext hc hq]; rfl
  rename_i n3
  rw [if_neg (fun h => n3 ⟨h.1, e1.2 h.2⟩)]
  split at h
  · rename_i hh
    obtain ⟨t1, h1, h2⟩ := Option.bind_eq_some_iff.1 h
    obtain ⟨q, hq, rfl⟩ := Option.map_eq_some_iff.1 h2
    rw [if_pos hh, adv_ext hc h1 hn, Option.bind_some, named_ext hc hq]; rfl
  · rename_i n4
    obtain ⟨q, hq, rfl⟩ := Option.map_eq_some_iff.1 h
    rw [if_neg n4, named_ext hc hq]; rfl
theorem need_nil {b : Bool} {t : Tok} : need b t [] = none := rfl
theorem behind (b : Bool) (c : List Tok) (hc : Cn c) : ∀ k : Nat,
    (∀ i deep ts, ts ≠ [] → Ex c (pathG false k i deep ts) (pathG b k i deep (ts ++ c))) ∧ (∀ i ts, ts ≠ [] → Es c (stepG false k i ts) (stepG b k i (ts ++ c))) ∧ (∀ i ts, Es c (predsG false k i ts) (predsG b k i (ts ++ c))) ∧
    (∀ i ts, ts ≠ [] → Ex c (predG false k i ts) (predG b k i (ts ++ c))) ∧ (∀ i ts, ts ≠ [] → Ex c (choiceG false k i ts) (choiceG b k i (ts ++ c))) ∧ (∀ i p ts, ts ≠ [] → Ex c (choiceL false k i p ts) (choiceL b k i p (ts ++ c))) ∧
    (∀ i ts, ts ≠ [] → Ex c (bothG false k i ts) (bothG b k i (ts ++ c))) ∧ (∀ i p ts, ts ≠ [] → Ex c (bothL false k i p ts) (bothL b k i p (ts ++ c))) ∧ (∀ i ts, ts ≠ [] → Ex c (termG false k i ts) (termG b k i (ts ++ c))) := by
  intro k
  induction k with
  | zero =>
    refine ⟨?_, ?_, ?_, ?_, ?_, ?_, ?_, ?_, ?_⟩ <;> intros <;> first
      | (simp only [pathG]; exact es_none.ex) | (simp only [stepG]; exact es_none) | (simp only [predsG]; exact es_none) | (simp only [predG]; exact es_none.ex) | (simp only [choiceG]; exact es_none.ex) | (simp only [choiceL]; exact es_none.ex)
      | (simp only [bothG]; exact es_none.ex) | (simp only [bothL]; exact es_none.ex) | (simp only [termG]; exact es_none.ex)
  | succ k ih =>
    obtain ⟨hpath, hstep, hpreds, hpred, hchoice, hchoiceL, hboth, hbothL, hterm⟩ := ih
    have s1 : tLb ≠ tSl := by decide
    have s2 : tLb ≠ tDs := by decide
    refine ⟨fun i deep ts hn => ?_, fun i ts hn => ?_, fun i ts => ?_, fun i ts hn => ?_, fun i ts hn => ?_, fun i p ts hn => ?_, fun i ts hn => ?_, fun i p ts hn => ?_, fun i ts hn => ?_⟩
    · intro z u e hu
      simp only [pathG] at e ⊢
      cases hs : stepG false k i ts with
      | none => rw [hs] at e; cases e
      | some o =>
        match o, hs with
        | none, hs => rw [hs] at e; cases e
        | some (s, t1), hs =>
          rw [hs] at e
          rw [hstep i ts hn s t1 hs]
          rw [then_yes] at e ⊢
          have ht : t1 ≠ [] := by
            rintro rfl
            rw [if_neg (by simp), if_neg (by simp)] at e
            obtain ⟨rfl, rfl⟩ := Prod.mk.inj (Option.some.inj (Option.some.inj e))
            exact hu rfl
          rw [head_app ht]
          by_cases c1 : t1.head? = some tSl
          · rw [if_pos c1] at e ⊢
            refine ex_opt (f := fun t2 => (pathG false k i false t2).then_ fun l t3 => some (some ({ s with deep := deep } :: l, t3))) (f' := fun t2 => (pathG b k i false t2).then_ fun l t3 => some (some ({ s with deep := deep } :: l, t3))) (g := fun t => t ++ c) (fun t2 h2 => adv_ext hc h2 ht) (fun t2 h2 => ?_) z u e hu
            clear e hu z u
            refine ex_then (f := fun l t3 => some (some ({ s with deep := deep } :: l, t3))) (f' := fun l t3 => some (some ({ s with deep := deep } :: l, t3))) ?_ (fun y t z u e => by obtain ⟨rfl, rfl⟩ := Prod.mk.inj (Option.some.inj (Option.some.inj e)); exact Nat.le_refl _) (fun y t _ => es_some.ex)
            by_cases h0 : t2 = []
            · subst h0
              intro z u e hu
              exact absurd (List.eq_nil_of_length_eq_zero (Nat.le_zero.1 (path_len e))) hu
            · exact hpath i false t2 h0
          · rw [if_neg c1] at e ⊢
            by_cases c2 : t1.head? = some tDs
            · rw [if_pos c2] at e ⊢
              refine ex_opt (f := fun t2 => (pathG false k i true t2).then_ fun l t3 => some (some ({ s with deep := deep } :: l, t3))) (f' := fun t2 => (pathG b k i true t2).then_ fun l t3 => some (some ({ s with deep := deep } :: l, t3))) (g := fun t => t ++ c) (fun t2 h2 => adv_ext hc h2 ht) (fun t2 h2 => ?_) z u e hu
              clear e hu z u
              refine ex_then (f := fun l t3 => some (some ({ s with deep := deep } :: l, t3))) (f' := fun l t3 => some (some ({ s with deep := deep } :: l, t3))) ?_ (fun y t z u e => by obtain ⟨rfl, rfl⟩ := Prod.mk.inj (Option.some.inj (Option.some.inj e)); exact Nat.le_refl _) (fun y t _ => es_some.ex)
              by_cases h0 : t2 = []
              · subst h0
                intro z u e hu
                exact absurd (List.eq_nil_of_length_eq_zero (Nat.le_zero.1 (path_len e))) hu
              · exact hpath i true t2 h0
            · rw [if_neg c2] at e ⊢
              obtain ⟨rfl, rfl⟩ := Prod.mk.inj (Option.some.inj (Option.some.inj e))
              rfl
    · simp only [stepG]
      refine es_opt (g := fun h => (h.1, h.2 ++ c)) (fun h hh => headG_ext hc hh) (fun h hh => ?_)
      exact es_thens (hpreds (i + 1) h.2) (fun ps t => es_some)
    · simp only [predsG]
      refine es_ite (head_iff hc s1 s2) (fun c1 => es_ite Iff.rfl (fun _ => es_no) (fun _ => es_opt (g := fun t => t ++ c) (fun t1 h1 => adv_ext hc h1 (head_ne c1)) (fun t1 h1 => ?_))) (fun _ => es_some)
      refine es_then ?_ (fun y z u e => by rw [need_nil] at e; cases e) (fun p t2 h2 => es_opt (g := fun t => t ++ c) (fun t3 h3 => need_ext hc h3) (fun t3 h3 => es_thens (hpreds i t3) (fun ps t => es_some)))
      by_cases h0 : t1 = []
      · subst h0
        intro z u e hu
        exact absurd (List.eq_nil_of_length_eq_zero (Nat.le_zero.1 (ok_of_le (f := fun k => predG false k i []) (fun k => (more false k).2.2.2.1 i []) (fun k h => (enough false k).2.2.2.1 i [] h) e))) hu
      · exact hpred i t1 h0
    · cases ts with
      | nil => exact absurd rfl hn
      | cons t ts =>
        simp only [predG, List.cons_append]
        exact ex_ite Iff.rfl (fun _ => ex_opt (g := id) (fun n h => h) (fun n _ => ex_opt (g := fun t => t ++ c) (fun t1 h1 => adv_ext hc h1 (by simp)) (fun t1 h1 => es_some.ex))) (fun _ => hchoice i _ (by simp))
    · simp only [choiceG]
      exact ex_then (hboth i ts hn) (fun y t z u e => choiceL_len e) (fun p t1 h1 => hchoiceL i p t1 h1)
    · simp only [choiceL]
      refine ex_ite (head_iff hc (by decide) (by decide)) (fun c1 => ex_opt (g := fun t => t ++ c) (fun t1 h1 => adv_ext hc h1 hn) (fun t1 h1 => ?_)) (fun _ => es_some.ex)
      refine ex_then ?_ (fun y t z u e => choiceL_len e) (fun q t2 h2 => hchoiceL i _ t2 h2)
      by_cases h0 : t1 = []
      · subst h0
        intro z u e hu
        exact absurd (List.eq_nil_of_length_eq_zero (Nat.le_zero.1 (ok_of_le (f := fun k => bothG false k i []) (fun k => (more false k).2.2.2.2.2.2.1 i []) (fun k h => (enough false k).2.2.2.2.2.2.1 i [] h) e))) hu
      · exact hboth i t1 h0
    · simp only [bothG]
      exact ex_then (hterm i ts hn) (fun y t z u e => bothL_len e) (fun p t1 h1 => hbothL i p t1 h1)
    · simp only [bothL]
      refine ex_ite (head_iff hc (by decide) (by decide)) (fun c1 => ex_opt (g := fun t => t ++ c) (fun t1 h1 => adv_ext hc h1 hn) (fun t1 h1 => ?_)) (fun _ => es_some.ex)
      refine ex_then ?_ (fun y t z u e => bothL_len e) (fun q t2 h2 => hbothL i _ t2 h2)
      by_cases h0 : t1 = []
      · subst h0
        intro z u e hu
        exact absurd (List.eq_nil_of_length_eq_zero (Nat.le_zero.1 (ok_of_le (f := fun k => termG false k i []) (fun k => (more false k).2.2.2.2.2.2.2.2 i []) (fun k h => (enough false k).2.2.2.2.2.2.2.2 i [] h) e))) hu
      · exact hterm i t1 h0
    · have hch : ∀ t2 : List Tok, Ex c (choiceG false k i t2) (choiceG b k i (t2 ++ c)) := by
        intro t2
        by_cases h0 : t2 = []
        · subst h0
          intro z u e hu
          exact absurd (List.eq_nil_of_length_eq_zero (Nat.le_zero.1 (ok_of_le (f := fun k => choiceG false k i []) (fun k => (more false k).2.2.2.2.1 i []) (fun k h => (enough false k).2.2.2.2.1 i [] h) e))) hu
        · exact hchoice i t2 h0
      simp only [termG]
      refine ex_ite (and_congr (head_iff hc (by decide) (by decide)) (second_iff hn hc (by decide) (by decide))) (fun c1 => ex_opt (g := fun t => t ++ c) (fun t1 h1 => adv_ext hc h1 hn) (fun t1 h1 => ex_opt (g := fun t => t ++ c) (fun t2 h2 => need_ext hc h2) (fun t2 h2 => ?_)))
        (fun _ => ex_ite (head_iff hc (by decide) (by decide)) (fun c1 => ex_opt (g := fun t => t ++ c) (fun t2 h2 => adv_ext hc h2 hn) (fun t2 h2 => ?_)) (fun _ => ?_))
      · exact (es_then (hch t2) (fun y z u e => by rw [need_nil] at e; cases e) (fun p t3 h3 => es_opt (g := fun t => t ++ c) (fun t4 h4 => need_ext hc h4) (fun t4 h4 => es_some))).ex
      · exact (es_then (hch t2) (fun y z u e => by rw [need_nil] at e; cases e) (fun p t3 h3 => es_opt (g := fun t => t ++ c) (fun t4 h4 => need_ext hc h4) (fun t4 h4 => es_some))).ex
      · exact ex_then (f := fun l t1 => some (some ((⟨2, 0, l, []⟩ : Pred), t1))) (f' := fun l t1 => some (some ((⟨2, 0, l, []⟩ : Pred), t1))) (hpath i false ts hn) (fun y t z u e => by obtain ⟨rfl, rfl⟩ := Prod.mk.inj (Option.some.inj (Option.some.inj e)); exact Nat.le_refl _) (fun l t _ => es_some.ex)
theorem path_join (b : Bool) (k2 : Nat) (i : Int) (c t2 : List Tok) (m : List Step) (hc : Cn c) (ha : adv b c = some t2) (hm : pathG b k2 i (c.head? == some tDs) t2 = some (some (m, []))) :
    ∀ (k : Nat) (deep : Bool) (ts : List Tok) (l : List Step), ts ≠ [] → pathG false k i deep ts = some (some (l, [])) → pathG b (k + k2) i deep (ts ++ c) = some (some (l ++ m, [])) := by
  intro k
  induction k with
  | zero => intro deep ts l hn h; simp only [pathG] at h; cases h
  | succ k ih =>
    intro deep ts l hn h
    have hk2 : ∀ d : Bool, (c.head? == some tDs) = d → pathG b (k + k2) i d t2 = some (some (m, [])) := fun d hd => le_up (f := fun k => pathG b k i d t2) (fun k => (more b k).1 i d t2) (Nat.le_add_left k2 k) _ (hd ▸ hm)
    rw [pathG] at h
    rw [Nat.succ_add, pathG]
    cases hs : stepG false k i ts with
    | none => rw [hs] at h; cases h
    | some o =>
      match o, hs with
      | none, hs => rw [hs] at h; cases h
      | some (s, t1), hs =>
        rw [hs] at h
        have hs' := le_up (f := fun k => stepG b k i (ts ++ c)) (fun k => (more b k).2.1 i (ts ++ c)) (Nat.le_add_right k k2) _ ((behind b c hc k).2.1 i ts hn s t1 hs)
        rw [hs']
        rw [then_yes] at h ⊢
        have hds : tDs ≠ tSl := by decide
        by_cases ht : t1 = []
        · subst ht
          rw [if_neg (by simp), if_neg (by simp)] at h
          obtain ⟨rfl, _⟩ := Prod.mk.inj (Option.some.inj (Option.some.inj h))
          rw [List.nil_append]
          by_cases c1 : c.head? = some tSl
          · rw [if_pos c1, ha]
            simp only [Opt]
            rw [hk2 false (by rw [c1]; decide)]
            rfl
          · have c2 : c.head? = some tDs := hc.resolve_left c1
            rw [if_neg c1, if_pos c2, ha]
            simp only [Opt]
            rw [hk2 true (by rw [c2]; decide)]
            rfl
        · rw [head_app ht]
          have go : ∀ d : Bool, (Opt (adv false t1) fun t2 => (pathG false k i d t2).then_ fun l t3 => some (some ({ s with deep := deep } :: l, t3))) = some (some (l, [])) →
              (Opt (adv b (t1 ++ c)) fun t2 => (pathG b (k + k2) i d t2).then_ fun l t3 => some (some ({ s with deep := deep } :: l, t3))) = some (some (l ++ m, [])) := by
            intro d h
            cases hq : adv false t1 with
            | none => rw [hq] at h; cases h
            | some t3 =>
              rw [hq] at h
              rw [adv_ext hc hq ht]
              simp only [Opt] at h ⊢
              cases hp : pathG false k i d t3 with
              | none => rw [hp] at h; cases h
              | some o =>
                match o, hp with
                | none, hp => rw [hp] at h; cases h
                | some (l', t4), hp =>
                  rw [hp] at h
                  obtain ⟨rfl, rfl⟩ := Prod.mk.inj (Option.some.inj (Option.some.inj h))
                  have h3 : t3 ≠ [] := by
                    rintro rfl
                    cases k with
                    | zero => rw [pathG] at hp; cases hp
                    | succ k =>
                      rw [pathG] at hp
                      cases k with
                      | zero => rw [stepG] at hp; cases hp
                      | succ k => rw [stepG] at hp; simp [headG, namedG, Opt, Out.then_] at hp
                  rw [ih d t3 l' h3 hp]
                  rfl
          by_cases c1 : t1.head? = some tSl
          · rw [if_pos c1] at h ⊢; exact go false h
          · rw [if_neg c1] at h ⊢
            by_cases c2 : t1.head? = some tDs
            · rw [if_pos c2] at h ⊢; exact go true h
            · rw [if_neg c2] at h
              obtain ⟨_, h2⟩ := Prod.mk.inj (Option.some.inj (Option.some.inj h))
              exact absurd h2 ht
end Go.Proofs.YtoanmoddppmffaaDoor.T
