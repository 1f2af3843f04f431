/- There is enough fuel: the grammar answers. -/
import Derived.Test.YtoanmoddppmffaaGreatDoorXQg
namespace Go.Proofs.YtoanmoddppmffaaGreatDoor.T
set_option linter.unusedVariables false
def OkL {α : Type} (n : Nat) (x : Out α) : Prop := ∃ o, x = some o ∧ ∀ y t, o = some (y, t) → t.length ≤ n
theorem ok_some {α : Type} {n : Nat} {y : α} {t : List Tok} (h : t.length ≤ n) : OkL n (some (some (y, t)) : Out α) := ⟨_, rfl, fun y' t' e => by obtain ⟨rfl, rfl⟩ := Prod.mk.inj (Option.some.inj e); exact h⟩
theorem ok_none {α : Type} {n : Nat} : OkL n (some none : Out α) := ⟨_, rfl, fun _ _ e => by cases e⟩
theorem ok_mono {α : Type} {n m : Nat} {x : Out α} (h : OkL n x) (hm : n ≤ m) : OkL m x := by
  obtain ⟨o, e, h⟩ := h
  exact ⟨o, e, fun y t he => Nat.le_trans (h y t he) hm⟩
theorem ok_then {α β : Type} {n m : Nat} {x : Out α} {f : α → List Tok → Out β} (h : OkL m x) (hf : ∀ y t, t.length ≤ m → OkL n (f y t)) : OkL n (x.then_ f) := by
  obtain ⟨o, rfl, h⟩ := h
  match o, h with
  | none, _ => exact ok_none
  | some (y, t), h => exact hf y t (h y t rfl)
theorem ok_opt {α β : Type} {n : Nat} {o : Option α} {f : α → Out β} (hf : ∀ y, o = some y → OkL n (f y)) : OkL n (Opt o f) := by
  cases o with
  | none => exact ok_none
  | some y => exact hf y rfl
theorem ok_ite {α : Type} {n : Nat} {c : Prop} [Decidable c] {x y : Out α} (h1 : c → OkL n x) (h2 : ¬ c → OkL n y) : OkL n (if c then x else y) := by
  by_cases h : c
  · rw [if_pos h]; exact h1 h
  · rw [if_neg h]; exact h2 h
theorem adv_len {b : Bool} {ts t : List Tok} (h : adv b ts = some t) : t.length ≤ ts.length - 1 := by
  match ts, h with
  | [], h => simp [adv] at h; subst h; simp
  | [_], h =>
    cases b with
    | true => simp [adv] at h
    | false => simp [adv] at h; subst h; simp
  | _ :: u :: us, h => simp [adv] at h; subst h; simp
theorem head_len {ts : List Tok} {t : Tok} (h : ts.head? = some t) : 1 ≤ ts.length := by
  cases ts with
  | nil => simp at h
  | cons a l => simp
theorem need_len {b : Bool} {t : Tok} {ts r : List Tok} (h : need b t ts = some r) : r.length + 1 ≤ ts.length := by
  unfold need at h
  split at h
  · rename_i hh
    have := adv_len h
    have := head_len hh
    omega
  · cases h
theorem named_len {b : Bool} {ts : List Tok} {r : ByteArray × List Tok} (h : namedG b ts = some r) : r.2.length + 1 ≤ ts.length := by
  match ts, h with
  | [], h => simp [namedG] at h
  | t :: ts', h =>
    simp only [namedG] at h
    split at h
    · obtain ⟨q, hq, rfl⟩ := Option.map_eq_some_iff.1 h
      have := adv_len hq
      simp at this ⊢
      omega
    · cases h
theorem headG_len {b : Bool} {ts : List Tok} {r : (Int × ByteArray) × List Tok} (h : headG b ts = some r) : r.2.length + 1 ≤ ts.length := by
  unfold headG at h
  split at h
  · rename_i hh
    obtain ⟨q, hq, rfl⟩ := Option.map_eq_some_iff.1 h
    have := adv_len hq
    have := head_len hh
    simp only; omega
  split at h
  · rename_i hh
    obtain ⟨q, hq, rfl⟩ := Option.map_eq_some_iff.1 h
    have := adv_len hq
    have := head_len hh
    simp only; omega
  split at h
  · rename_i hh
    obtain ⟨t1, h1, h2⟩ := Option.bind_eq_some_iff.1 h
    obtain ⟨t2, h3, h4⟩ := Option.bind_eq_some_iff.1 h2
    obtain ⟨q, hq, rfl⟩ := Option.map_eq_some_iff.1 h4
    have := adv_len h1
    have := need_len h3
    have := need_len hq
    simp only; omega
  split at h
  · rename_i hh
    obtain ⟨t1, h1, h2⟩ := Option.bind_eq_some_iff.1 h
    obtain ⟨q, hq, rfl⟩ := Option.map_eq_some_iff.1 h2
    have := adv_len h1
    have := named_len hq
    simp only; omega
  · obtain ⟨q, hq, rfl⟩ := Option.map_eq_some_iff.1 h
    exact named_len hq
theorem enough (b : Bool) : ∀ k : Nat,
    (∀ i deep ts, 8 * ts.length + 2 ≤ k → OkL ts.length (pathG b k i deep ts)) ∧ (∀ i ts, 8 * ts.length + 1 ≤ k → OkL (ts.length - 1) (stepG b k i ts)) ∧ (∀ i ts, 8 * ts.length + 8 ≤ k → OkL ts.length (predsG b k i ts)) ∧
    (∀ i ts, 8 * ts.length + 6 ≤ k → OkL ts.length (predG b k i ts)) ∧ (∀ i ts, 8 * ts.length + 5 ≤ k → OkL ts.length (choiceG b k i ts)) ∧ (∀ i p ts, 8 * ts.length + 4 ≤ k → OkL ts.length (choiceL b k i p ts)) ∧
    (∀ i ts, 8 * ts.length + 4 ≤ k → OkL ts.length (bothG b k i ts)) ∧ (∀ i p ts, 8 * ts.length + 3 ≤ k → OkL ts.length (bothL b k i p ts)) ∧ (∀ i ts, 8 * ts.length + 3 ≤ k → OkL ts.length (termG b k i ts)) := by
  intro k
  induction k with
  | zero =>
    refine ⟨?_, ?_, ?_, ?_, ?_, ?_, ?_, ?_, ?_⟩ <;> intros <;> omega
  | succ k ih =>
    obtain ⟨hpath, hstep, hpreds, hpred, hchoice, hchoiceL, hboth, hbothL, hterm⟩ := ih
    refine ⟨fun i deep ts hk => ?_, fun i ts hk => ?_, fun i ts hk => ?_, fun i ts hk => ?_, fun i ts hk => ?_, fun i p ts hk => ?_, fun i ts hk => ?_, fun i p ts hk => ?_, fun i ts hk => ?_⟩
    · simp only [pathG]
      refine ok_then (hstep i ts (by omega)) (fun s t1 h1 => ok_ite (fun c => ok_opt (fun t2 h2 => ?_)) (fun _ => ok_ite (fun c => ok_opt (fun t2 h2 => ?_)) (fun _ => ok_some (by omega))))
      · have := adv_len h2
        have := head_len c
        exact ok_then (hpath i false t2 (by omega)) (fun l t3 h3 => ok_some (by omega))
      · have := adv_len h2
        have := head_len c
        exact ok_then (hpath i true t2 (by omega)) (fun l t3 h3 => ok_some (by omega))
    · simp only [stepG]
      refine ok_opt (fun h hh => ?_)
      have := headG_len hh
      exact ok_then (hpreds (i + 1) h.2 (by omega)) (fun ps t2 h2 => ok_some (by omega))
    · simp only [predsG]
      refine ok_ite (fun c => ok_ite (fun _ => ok_none) (fun _ => ok_opt (fun t1 h1 => ?_))) (fun _ => ok_some (Nat.le_refl _))
      have := adv_len h1
      have := head_len c
      refine ok_then (hpred i t1 (by omega)) (fun p t2 h2 => ok_opt (fun t3 h3 => ?_))
      have := need_len h3
      exact ok_then (hpreds i t3 (by omega)) (fun ps t4 h4 => ok_some (by omega))
    · cases ts with
      | nil => simp only [predG]; exact hchoice i [] (by simpa using hk)
      | cons t ts =>
        simp only [predG]
        refine ok_ite (fun _ => ok_opt (fun n _ => ok_opt (fun t1 h1 => ?_))) (fun _ => hchoice i _ (by omega))
        have := adv_len h1
        exact ok_some (by omega)
    · simp only [choiceG]
      exact ok_then (hboth i ts (by omega)) (fun p t1 h1 => ok_mono (hchoiceL i p t1 (by omega)) h1)
    · simp only [choiceL]
      refine ok_ite (fun c => ok_opt (fun t1 h1 => ?_)) (fun _ => ok_some (Nat.le_refl _))
      have := adv_len h1
      have := head_len c
      exact ok_then (hboth i t1 (by omega)) (fun q t2 h2 => ok_mono (hchoiceL i _ t2 (by omega)) (by omega))
    · simp only [bothG]
      exact ok_then (hterm i ts (by omega)) (fun p t1 h1 => ok_mono (hbothL i p t1 (by omega)) h1)
    · simp only [bothL]
      refine ok_ite (fun c => ok_opt (fun t1 h1 => ?_)) (fun _ => ok_some (Nat.le_refl _))
      have := adv_len h1
      have := head_len c
      exact ok_then (hterm i t1 (by omega)) (fun q t2 h2 => ok_mono (hbothL i _ t2 (by omega)) (by omega))
    · simp only [termG]
      refine ok_ite (fun c => ok_opt (fun t1 h1 => ok_opt (fun t2 h2 => ?_))) (fun _ => ok_ite (fun c => ok_opt (fun t2 h2 => ?_)) (fun _ => ?_))
      · have := adv_len h1
        have := need_len h2
        refine ok_then (hchoice i t2 (by omega)) (fun p t3 h3 => ok_opt (fun t4 h4 => ?_))
        have := need_len h4
        exact ok_some (by omega)
      · have := adv_len h2
        have := head_len c
        refine ok_then (hchoice i t2 (by omega)) (fun p t3 h3 => ok_opt (fun t4 h4 => ?_))
        have := need_len h4
        exact ok_some (by omega)
      · exact ok_then (hpath i false ts (by omega)) (fun l t1 h1 => ok_some h1)
theorem pred_enough (l : List Tok) (i : Nat) (inner : Int) : ∃ k o, predG false k inner (l.drop i) = some o := by
  obtain ⟨o, h, _⟩ := (enough false (8 * (l.drop i).length + 6)).2.2.2.1 inner (l.drop i) (Nat.le_refl _)
  exact ⟨_, o, h⟩
theorem lexQ_len : ∀ (n : Nat) (l : List UInt8), l.length ≤ n → (lexQ l).1.length ≤ l.length := by
  intro n
  induction n with
  | zero =>
    intro l hl
    obtain rfl : l = [] := List.eq_nil_of_length_eq_zero (by omega)
    simp [lexQ, lexL]
  | succ n ih =>
    intro l hl
    rw [lexQ_eq]
    split
    · simp
    · cases hk : tokL (l.drop (skipL l)) with
      | none => simp
      | some t0 =>
        obtain ⟨h3, h4, _⟩ := tokL_size hk
        have := ih ((l.drop (skipL l)).drop t0.size) (by simp only [List.length_drop] at h4 ⊢; omega)
        simp only [List.length_cons]
        simp only [List.length_drop] at h4 this
        omega
theorem parse_enough (q : ByteArray) : ∃ r, parseG 5000 q = some r := by
  unfold parseG
  by_cases h : q.size > 300
  · exact ⟨none, by rw [if_pos h]⟩
  · rw [if_neg h]
    simp only
    split
    · cases ha : adv (lexQ q.data.toList).2 (lexQ q.data.toList).1 with
      | none => exact ⟨none, rfl⟩
      | some t1 =>
        have h1 := adv_len ha
        have h2 := lexQ_len _ q.data.toList (Nat.le_refl _)
        have h3 : q.data.toList.length = q.size := by rw [Array.length_toList]; rfl
        obtain ⟨o, ho, _⟩ := (enough (lexQ q.data.toList).2 5000).1 0 ((lexQ q.data.toList).1.head? == some tDs) t1 (by omega)
        simp only
        rw [ho]
        match o with
        | none => exact ⟨none, rfl⟩
        | some (l, t2) =>
          by_cases ht : t2 = []
          · exact ⟨some l, by simp [ht]⟩
          · exact ⟨none, by simp [ht]⟩
    · exact ⟨none, rfl⟩
def parseQ (q : ByteArray) : Option (List Step) := (parseG 5000 q).getD none
theorem parseQ_eq (q : ByteArray) : parseG 5000 q = some (parseQ q) := by
  obtain ⟨r, h⟩ := parse_enough q
  rw [parseQ, h]; rfl
end Go.Proofs.YtoanmoddppmffaaGreatDoor.T
