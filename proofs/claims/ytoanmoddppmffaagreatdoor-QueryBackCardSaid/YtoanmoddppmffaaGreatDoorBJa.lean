/- Two rows of signs, one behind the other: what the grammar reads. -/
import Derived.Test.YtoanmoddppmffaaGreatDoorBRj
namespace Go.Proofs.YtoanmoddppmffaaGreatDoor.T
set_option linter.unusedVariables false
def Le {α : Type} (x x' : Out α) : Prop := ∀ o, x = some o → x' = some o
theorem then_yes {α β : Type} (y : α) (t : List Tok) (f : α → List Tok → Out β) : Out.then_ (some (some (y, t))) f = f y t := rfl
theorem le_none {α : Type} {x' : Out α} : Le none x' := fun _ e => by cases e
theorem le_refl {α : Type} (x : Out α) : Le x x := fun _ e => e
theorem le_then {α β : Type} {x x' : Out α} {f f' : α → List Tok → Out β} (h : Le x x') (hf : ∀ y t, Le (f y t) (f' y t)) : Le (x.then_ f) (x'.then_ f') := by
  match x, h with
  | none, _ => exact le_none
  | some none, h => rw [h _ rfl]; exact le_refl _
  | some (some (y, t)), h => rw [h _ rfl]; exact hf y t
theorem le_opt {α β : Type} {o : Option α} {f f' : α → Out β} (hf : ∀ y, Le (f y) (f' y)) : Le (Opt o f) (Opt o f') := by
  cases o with
  | none => exact le_refl _
  | some y => exact hf y
theorem le_ite {α : Type} {c : Prop} [Decidable c] {x y x' y' : Out α} (h1 : Le x x') (h2 : Le y y') : Le (if c then x else y) (if c then x' else y') := by
  by_cases h : c
  · rw [if_pos h, if_pos h]; exact h1
  · rw [if_neg h, if_neg h]; exact h2
theorem more (b : Bool) : ∀ k : Nat,
    (∀ i deep ts, Le (pathG b k i deep ts) (pathG b (k + 1) i deep ts)) ∧ (∀ i ts, Le (stepG b k i ts) (stepG b (k + 1) i ts)) ∧ (∀ i ts, Le (predsG b k i ts) (predsG b (k + 1) i ts)) ∧
    (∀ i ts, Le (predG b k i ts) (predG b (k + 1) i ts)) ∧ (∀ i ts, Le (choiceG b k i ts) (choiceG b (k + 1) i ts)) ∧ (∀ i p ts, Le (choiceL b k i p ts) (choiceL b (k + 1) i p ts)) ∧
    (∀ i ts, Le (bothG b k i ts) (bothG b (k + 1) i ts)) ∧ (∀ i p ts, Le (bothL b k i p ts) (bothL b (k + 1) i p ts)) ∧ (∀ i ts, Le (termG b k i ts) (termG b (k + 1) i ts)) := by
  intro k
  induction k with
  | zero =>
    refine ⟨?_, ?_, ?_, ?_, ?_, ?_, ?_, ?_, ?_⟩ <;> intros <;> intro o e <;> first
      | (simp only [pathG] at e; cases e) | (simp only [stepG] at e; cases e) | (simp only [predsG] at e; cases e) | (simp only [predG] at e; cases e) | (simp only [choiceG] at e; cases e) | (simp only [choiceL] at e; cases e)
      | (simp only [bothG] at e; cases e) | (simp only [bothL] at e; cases e) | (simp only [termG] at e; cases e)
  | succ k ih =>
    obtain ⟨hpath, hstep, hpreds, hpred, hchoice, hchoiceL, hboth, hbothL, hterm⟩ := ih
    refine ⟨fun i deep ts => ?_, fun i ts => ?_, fun i ts => ?_, fun i ts => ?_, fun i ts => ?_, fun i p ts => ?_, fun i ts => ?_, fun i p ts => ?_, fun i ts => ?_⟩
    · rw [pathG, pathG]
      exact le_then (hstep i ts) (fun s t1 => le_ite (le_opt (fun t2 => le_then (hpath i false t2) (fun _ _ => le_refl _))) (le_ite (le_opt (fun t2 => le_then (hpath i true t2) (fun _ _ => le_refl _))) (le_refl _)))
    · rw [stepG, stepG]
      exact le_opt (fun h => le_then (hpreds (i + 1) h.2) (fun _ _ => le_refl _))
    · rw [predsG, predsG]
      exact le_ite (le_ite (le_refl _) (le_opt (fun t1 => le_then (hpred i t1) (fun p t2 => le_opt (fun t3 => le_then (hpreds i t3) (fun _ _ => le_refl _)))))) (le_refl _)
    · cases ts with
      | nil => rw [predG, predG]; exact hchoice i []
      | cons t ts =>
        rw [predG, predG]
        exact le_ite (le_refl _) (hchoice i _)
    · rw [choiceG, choiceG]
      exact le_then (hboth i ts) (fun p t1 => hchoiceL i p t1)
    · rw [choiceL, choiceL]
      exact le_ite (le_opt (fun t1 => le_then (hboth i t1) (fun q t2 => hchoiceL i _ t2))) (le_refl _)
    · rw [bothG, bothG]
      exact le_then (hterm i ts) (fun p t1 => hbothL i p t1)
    · rw [bothL, bothL]
      exact le_ite (le_opt (fun t1 => le_then (hterm i t1) (fun q t2 => hbothL i _ t2))) (le_refl _)
    · rw [termG, termG]
      exact le_ite (le_opt (fun t1 => le_opt (fun t2 => le_then (hchoice i t2) (fun _ _ => le_refl _)))) (le_ite (le_opt (fun t2 => le_then (hchoice i t2) (fun _ _ => le_refl _))) (le_then (hpath i false ts) (fun _ _ => le_refl _)))
theorem le_up {α : Type} {f : Nat → Out α} (h : ∀ k, Le (f k) (f (k + 1))) {k m : Nat} (hm : k ≤ m) : Le (f k) (f m) := by
  induction hm with
  | refl => exact le_refl _
  | step _ ih => exact fun o e => h _ o (ih o e)
section len
variable {b : Bool} {k : Nat} {i : Int} {ts t : List Tok}
end len
def Cn (c : List Tok) : Prop := c.head? = some tSl ∨ c.head? = some tDs
end Go.Proofs.YtoanmoddppmffaaGreatDoor.T
