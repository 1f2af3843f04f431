/- A bad sign behind the others: no parse. -/
import Derived.Test.YtoanmoddppmffaaGreatDoorXRj
namespace Go.Proofs.YtoanmoddppmffaaGreatDoor.T
set_option linter.unusedVariables false
def NeL {α : Type} (x : Out α) : Prop := ∀ y t, x = some (some (y, t)) → t ≠ []
theorem ne_some {α : Type} {y : α} {t : List Tok} (h : t ≠ []) : NeL (some (some (y, t)) : Out α) := fun y' t' e => by obtain ⟨rfl, rfl⟩ := Prod.mk.inj (Option.some.inj (Option.some.inj e)); exact h
theorem ne_none {α : Type} : NeL (some none : Out α) := fun _ _ e => by cases e
theorem ne_fuel {α : Type} : NeL (none : Out α) := fun _ _ e => by cases e
theorem ne_then {α β : Type} {x : Out α} {f : α → List Tok → Out β} (h : NeL x) (hf : ∀ y t, t ≠ [] → NeL (f y t)) : NeL (x.then_ f) := by
  match x, h with
  | none, _ => exact ne_fuel
  | some none, _ => exact ne_none
  | some (some (y, t)), h => exact hf y t (h y t rfl)
theorem ne_opt {α β : Type} {o : Option α} {f : α → Out β} (hf : ∀ y, o = some y → NeL (f y)) : NeL (Opt o f) := by
  cases o with
  | none => exact ne_none
  | some y => exact hf y rfl
theorem ne_ite {α : Type} {c : Prop} [Decidable c] {x y : Out α} (h1 : NeL x) (h2 : NeL y) : NeL (if c then x else y) := by
  by_cases h : c
  · rw [if_pos h]; exact h1
  · rw [if_neg h]; exact h2
theorem adv_ne {ts t : List Tok} (h : adv true ts = some t) (hn : ts ≠ []) : t ≠ [] := by
  match ts, h, hn with
  | [], h, hn => exact absurd rfl hn
  | [_], h, _ => simp [adv] at h
  | _ :: u :: us, h, _ => simp [adv] at h; subst h; simp
theorem need_ne {t : Tok} {ts r : List Tok} (h : need true t ts = some r) (hn : ts ≠ []) : r ≠ [] := by
  unfold need at h
  split at h
  · exact adv_ne h hn
  · cases h
theorem named_ne {ts : List Tok} {r : ByteArray × List Tok} (h : namedG true ts = some r) (hn : ts ≠ []) : r.2 ≠ [] := by
  match ts, h with
  | [], h => simp [namedG] at h
  | t :: ts', h =>
    simp only [namedG] at h
    split at h
    · obtain ⟨q, hq, rfl⟩ := Option.map_eq_some_iff.1 h
      exact adv_ne hq hn
    · cases h
theorem headG_ne {ts : List Tok} {r : (Int × ByteArray) × List Tok} (h : headG true ts = some r) (hn : ts ≠ []) : r.2 ≠ [] := by
  unfold headG at h
  split at h
  · obtain ⟨q, hq, rfl⟩ := Option.map_eq_some_iff.1 h
    exact adv_ne hq hn
  split at h
  · obtain ⟨q, hq, rfl⟩ := Option.map_eq_some_iff.1 h
    exact adv_ne hq hn
  split at h
  · obtain ⟨t1, h1, h2⟩ := Option.bind_eq_some_iff.1 h
    obtain ⟨t2, h3, h4⟩ := Option.bind_eq_some_iff.1 h2
    obtain ⟨q, hq, rfl⟩ := Option.map_eq_some_iff.1 h4
    exact need_ne hq (need_ne h3 (adv_ne h1 hn))
  split at h
  · obtain ⟨t1, h1, h2⟩ := Option.bind_eq_some_iff.1 h
    obtain ⟨q, hq, rfl⟩ := Option.map_eq_some_iff.1 h2
    exact named_ne hq (adv_ne h1 hn)
  · obtain ⟨q, hq, rfl⟩ := Option.map_eq_some_iff.1 h
    exact named_ne hq hn
theorem bad_ne : ∀ k : Nat,
    (∀ i deep ts, ts ≠ [] → NeL (pathG true k i deep ts)) ∧ (∀ i ts, ts ≠ [] → NeL (stepG true k i ts)) ∧ (∀ i ts, ts ≠ [] → NeL (predsG true k i ts)) ∧
    (∀ i ts, ts ≠ [] → NeL (predG true k i ts)) ∧ (∀ i ts, ts ≠ [] → NeL (choiceG true k i ts)) ∧ (∀ i p ts, ts ≠ [] → NeL (choiceL true k i p ts)) ∧
    (∀ i ts, ts ≠ [] → NeL (bothG true k i ts)) ∧ (∀ i p ts, ts ≠ [] → NeL (bothL true k i p ts)) ∧ (∀ i ts, ts ≠ [] → NeL (termG true k i ts)) := by
  intro k
  induction k with
  | zero =>
    refine ⟨?_, ?_, ?_, ?_, ?_, ?_, ?_, ?_, ?_⟩ <;> intros <;> simp only [pathG, stepG, predsG, predG, choiceG, choiceL, bothG, bothL, termG] <;> exact ne_fuel
  | succ k ih =>
    obtain ⟨hpath, hstep, hpreds, hpred, hchoice, hchoiceL, hboth, hbothL, hterm⟩ := ih
    refine ⟨fun i deep ts hn => ?_, fun i ts hn => ?_, fun i ts hn => ?_, fun i ts hn => ?_, fun i ts hn => ?_, fun i p ts hn => ?_, fun i ts hn => ?_, fun i p ts hn => ?_, fun i ts hn => ?_⟩
    · simp only [pathG]
      exact ne_then (hstep i ts hn) (fun s t1 h1 => ne_ite (ne_opt (fun t2 h2 => ne_then (hpath i false t2 (adv_ne h2 h1)) (fun l t3 h3 => ne_some h3)))
        (ne_ite (ne_opt (fun t2 h2 => ne_then (hpath i true t2 (adv_ne h2 h1)) (fun l t3 h3 => ne_some h3))) (ne_some h1)))
    · simp only [stepG]
      exact ne_opt (fun h hh => ne_then (hpreds (i + 1) h.2 (headG_ne hh hn)) (fun ps t2 h2 => ne_some h2))
    · simp only [predsG]
      refine ne_ite (ne_ite ne_none (ne_opt (fun t1 h1 => ne_then (hpred i t1 (adv_ne h1 hn)) (fun p t2 h2 => ne_opt (fun t3 h3 => ne_then (hpreds i t3 (need_ne h3 h2)) (fun ps t4 h4 => ne_some h4)))))) (ne_some hn)
    · cases ts with
      | nil => exact absurd rfl hn
      | cons t ts =>
        simp only [predG]
        exact ne_ite (ne_opt (fun n _ => ne_opt (fun t1 h1 => ne_some (adv_ne h1 hn)))) (hchoice i _ hn)
    · simp only [choiceG]
      exact ne_then (hboth i ts hn) (fun p t1 h1 => hchoiceL i p t1 h1)
    · simp only [choiceL]
      exact ne_ite (ne_opt (fun t1 h1 => ne_then (hboth i t1 (adv_ne h1 hn)) (fun q t2 h2 => hchoiceL i _ t2 h2))) (ne_some hn)
    · simp only [bothG]
      exact ne_then (hterm i ts hn) (fun p t1 h1 => hbothL i p t1 h1)
    · simp only [bothL]
      exact ne_ite (ne_opt (fun t1 h1 => ne_then (hterm i t1 (adv_ne h1 hn)) (fun q t2 h2 => hbothL i _ t2 h2))) (ne_some hn)
    · simp only [termG]
      refine ne_ite (ne_opt (fun t1 h1 => ne_opt (fun t2 h2 => ?_))) (ne_ite (ne_opt (fun t2 h2 => ?_)) ?_)
      · exact ne_then (hchoice i t2 (need_ne h2 (adv_ne h1 hn))) (fun p t3 h3 => ne_opt (fun t4 h4 => ne_some (need_ne h4 h3)))
      · exact ne_then (hchoice i t2 (adv_ne h2 hn)) (fun p t3 h3 => ne_opt (fun t4 h4 => ne_some (need_ne h4 h3)))
      · exact ne_then (hpath i false ts hn) (fun l t1 h1 => ne_some h1)
theorem parse_bad {k : Nat} {q : ByteArray} {r : Option (List Step)} (h : parseG k q = some r) (hb : (lexQ q.data.toList).2 = true) : r = none := by
  unfold parseG at h
  split at h
  · exact (Option.some.inj h).symm
  · simp only [hb] at h
    split at h
    · rename_i hh
      have hn : (lexQ q.data.toList).1 ≠ [] := by
        intro e
        rw [e] at hh
        simp at hh
      cases ha : adv true (lexQ q.data.toList).1 with
      | none => rw [ha] at h; exact (Option.some.inj h).symm
      | some t1 =>
        rw [ha] at h
        simp only at h
        have hp := (bad_ne k).1 0 ((lexQ q.data.toList).1.head? == some tDs) t1 (adv_ne ha hn)
        cases hg : pathG true k 0 ((lexQ q.data.toList).1.head? == some tDs) t1 with
        | none => rw [hg] at h; cases h
        | some o =>
          rw [hg] at h
          match o, hg with
          | none, hg => exact (Option.some.inj h).symm
          | some (l, t2), hg =>
            have := hp l t2 hg
            simp only [if_neg this] at h
            exact (Option.some.inj h).symm
    · exact (Option.some.inj h).symm
end Go.Proofs.YtoanmoddppmffaaGreatDoor.T
