/- The text of what was read, read again, is the same: what is printed reads as it was. -/
import Derived.Test.YtoanmoddppmffaaGreatDoorBHa
namespace Go.Proofs.YtoanmoddppmffaaGreatDoor.T
set_option linter.unusedVariables false
theorem up_path {k m : Nat} {i : Int} {d : Bool} {ts : List Tok} {o} (h : pathG false k i d ts = some o) (hm : k ≤ m) : pathG false m i d ts = some o := le_up (f := fun k => pathG false k i d ts) (fun k => (more false k).1 i d ts) hm _ h
theorem up_step {k m : Nat} {i : Int} {ts : List Tok} {o} (h : stepG false k i ts = some o) (hm : k ≤ m) : stepG false m i ts = some o := le_up (f := fun k => stepG false k i ts) (fun k => (more false k).2.1 i ts) hm _ h
theorem up_preds {k m : Nat} {i : Int} {ts : List Tok} {o} (h : predsG false k i ts = some o) (hm : k ≤ m) : predsG false m i ts = some o := le_up (f := fun k => predsG false k i ts) (fun k => (more false k).2.2.1 i ts) hm _ h
theorem up_pred {k m : Nat} {i : Int} {ts : List Tok} {o} (h : predG false k i ts = some o) (hm : k ≤ m) : predG false m i ts = some o := le_up (f := fun k => predG false k i ts) (fun k => (more false k).2.2.2.1 i ts) hm _ h
theorem up_choiceL {k m : Nat} {i : Int} {p : Pred} {ts : List Tok} {o} (h : choiceL false k i p ts = some o) (hm : k ≤ m) : choiceL false m i p ts = some o := le_up (f := fun k => choiceL false k i p ts) (fun k => (more false k).2.2.2.2.2.1 i p ts) hm _ h
theorem up_both {k m : Nat} {i : Int} {ts : List Tok} {o} (h : bothG false k i ts = some o) (hm : k ≤ m) : bothG false m i ts = some o := le_up (f := fun k => bothG false k i ts) (fun k => (more false k).2.2.2.2.2.2.1 i ts) hm _ h
theorem up_bothL {k m : Nat} {i : Int} {p : Pred} {ts : List Tok} {o} (h : bothL false k i p ts = some o) (hm : k ≤ m) : bothL false m i p ts = some o := le_up (f := fun k => bothL false k i p ts) (fun k => (more false k).2.2.2.2.2.2.2.1 i p ts) hm _ h
theorem up_term {k m : Nat} {i : Int} {ts : List Tok} {o} (h : termG false k i ts = some o) (hm : k ≤ m) : termG false m i ts = some o := le_up (f := fun k => termG false k i ts) (fun k => (more false k).2.2.2.2.2.2.2.2 i ts) hm _ h
theorem adv_cons (x : Tok) (l : List Tok) : adv false (x :: l) = some l := by cases l <;> rfl
theorem need_cons (x : Tok) (l : List Tok) : need false x (x :: l) = some l := by
  unfold need
  rw [if_pos (show (x :: l).head? = some x from rfl), adv_cons]
theorem need_some {x : Tok} {ts r : List Tok} (h : need false x ts = some r) : ts = x :: r := by
  unfold need at h
  split at h
  · rename_i hh
    cases ts with
    | nil => cases hh
    | cons y l =>
      obtain rfl := Option.some.inj hh
      rw [adv_cons] at h
      rw [Option.some.inj h]
  · cases h
theorem thn_some {α β : Type} {x : Out α} {f : α → List Tok → Out β} {z : β × List Tok} (h : x.then_ f = some (some z)) : ∃ y t, x = some (some (y, t)) ∧ f y t = some (some z) := by
  match x, h with
  | some (some (y, t)), h => exact ⟨y, t, rfl, h⟩
theorem opt_some {α β : Type} {o : Option α} {f : α → Out β} {z : β × List Tok} (h : Opt o f = some (some z)) : ∃ y, o = some y ∧ f y = some (some z) := by
  match o, h with
  | some y, h => exact ⟨y, rfl, h⟩
theorem opt_yes {α β : Type} (y : α) (f : α → Out β) : Opt (some y) f = f y := rfl
theorem pair_inj {α : Type} {y z : α} {t u : List Tok} (h : (some (some (y, t)) : Out α) = some (some (z, u))) : y = z ∧ t = u := Prod.mk.inj (Option.some.inj (Option.some.inj h))
theorem head_cons {ts : List Tok} {x : Tok} (h : ts.head? = some x) : ∃ l, ts = x :: l := by
  cases ts with
  | nil => cases h
  | cons y l => exact ⟨l, by rw [Option.some.inj h]⟩
def W (ts : List Tok) : Nat := (ts.map ByteArray.size).sum
theorem W_cons (x : Tok) (l : List Tok) : W (x :: l) = x.size + W l := by simp [W]
def Gd (ts : List Tok) : Prop := (∀ t ∈ ts, Dg t ∧ 1 ≤ t.size) ∧ W ts ≤ 1000
theorem Gd.tail {x : Tok} {l : List Tok} (h : Gd (x :: l)) : Gd l := ⟨fun t ht => h.1 t (List.mem_cons_of_mem _ ht), by have := h.2; rw [W_cons] at this; omega⟩
theorem Gd.head {x : Tok} {l : List Tok} (h : Gd (x :: l)) : Dg x ∧ 1 ≤ x.size ∧ x.size ≤ 1000 := ⟨(h.1 x (List.mem_cons_self ..)).1, (h.1 x (List.mem_cons_self ..)).2, by have := h.2; rw [W_cons] at this; omega⟩
def NB (r : List Tok) : Prop := r.head? ≠ some tLb ∧ r.head? ≠ some tLp
def NP (r : List Tok) : Prop := NB r ∧ r.head? ≠ some tSl ∧ r.head? ≠ some tDs
theorem np_cons {x : Tok} {l : List Tok} (h : x ≠ tLb ∧ x ≠ tLp ∧ x ≠ tSl ∧ x ≠ tDs) : NP (x :: l) := ⟨⟨fun e => h.1 (Option.some.inj e), fun e => h.2.1 (Option.some.inj e)⟩, fun e => h.2.2.1 (Option.some.inj e), fun e => h.2.2.2 (Option.some.inj e)⟩
def Nd (ts : List Tok) : Prop := ∃ c l, ts = c :: l ∧ digL c.data.toList = 0
def Fst (ts : List Tok) : Prop := ∀ r, r.head? ≠ some tLp → (ts ++ r).head? ≠ some tLp ∧ ¬ ((ts ++ r).head? = some tNot ∧ (ts ++ r)[1]? = some tLp)
def CH (i : Int) (p : Pred) (ts : List Tok) : Prop := ∃ k1, ∀ r k o, NP r → r.head? ≠ some tAnd → choiceL false k i p r = some o → choiceG false (k1 + k) i (ts ++ r) = some o
def BO (i : Int) (p : Pred) (ts : List Tok) : Prop := ∃ k1, ∀ r k o, NP r → bothL false k i p r = some o → bothG false (k1 + k) i (ts ++ r) = some o
def TE (i : Int) (p : Pred) (ts : List Tok) : Prop := ∃ k1, ∀ r, NP r → termG false k1 i (ts ++ r) = some (some (p, r))
def PrS (i : Int) (s : Step) : Prop := (stepT s).2 = true ∧ nmS s ∧ ∃ ts, Lx (stepT s).1.data.toList ts ∧ Nd ts ∧ Fst ts ∧ ∃ k, ∀ r, NB r → stepG false k i (ts ++ r) = some (some (⟨false, s.axis, s.name, s.preds⟩, r))
def PrPs (i : Int) (ps : List Pred) : Prop := (predsT ps).2 = true ∧ nmPs ps ∧ ∃ ts, Lr (predsT ps).1.data.toList ts ∧ (∀ r, r.head? ≠ some tLp → (ts ++ r).head? ≠ some tLp) ∧ ∃ k, ∀ r, r.head? ≠ some tLb → predsG false k i (ts ++ r) = some (some (ps, r))
def PrQ (i : Int) (p : Pred) : Prop := (predT p).2 = true ∧ nmP p ∧ ∃ ts, Lx (predT p).1.data.toList ts ∧ ∃ k, ∀ r, predG false k i (ts ++ tRb :: r) = some (some (p, tRb :: r))
def PrP (i : Int) (p : Pred) : Prop := (heldT p).2 = true ∧ nmP p ∧ p.kind ≠ 1 ∧ ∃ ts, Lx (heldT p).1.data.toList ts ∧ Nd ts ∧ CH i p ts ∧ (p.kind ≠ 4 → BO i p ts) ∧ (p.kind ≠ 4 → p.kind ≠ 3 → TE i p ts)
def PrL (i : Int) (d : Bool) (l : List Step) : Prop := ∃ s l', l = s :: l' ∧ s.deep = d ∧ (stepT s).2 = true ∧ (rowT true l').2 = true ∧ nmSs l ∧
  ∃ ts, Lx ((stepT s).1 ++ (rowT true l').1).data.toList ts ∧ Nd ts ∧ Fst ts ∧ ∃ k, ∀ r, NP r → pathG false k i d (ts ++ r) = some (some (l, r))
theorem Nd.app {ts us : List Tok} (h : Nd ts) : Nd (ts ++ us) := by
  obtain ⟨c, l, rfl, hd⟩ := h
  exact ⟨c, l ++ us, rfl, hd⟩
theorem TE.bo {i : Int} {p : Pred} {ts : List Tok} (h : TE i p ts) : BO i p ts := by
  obtain ⟨k1, h⟩ := h
  refine ⟨k1 + 1, fun r k o hr ho => ?_⟩
  rw [show k1 + 1 + k = (k1 + k) + 1 by omega, bothG, up_term (h r hr) (show k1 ≤ k1 + k by omega), then_yes]
  exact up_bothL ho (by omega)
theorem bothL_end {i : Int} {p : Pred} {r : List Tok} (h : r.head? ≠ some tAnd) : bothL false 1 i p r = some (some (p, r)) := by rw [bothL, if_neg h]
theorem choiceL_end {i : Int} {p : Pred} {r : List Tok} (h : r.head? ≠ some tOr) : choiceL false 1 i p r = some (some (p, r)) := by rw [choiceL, if_neg h]
theorem BO.ch {i : Int} {p : Pred} {ts : List Tok} (h : BO i p ts) : CH i p ts := by
  obtain ⟨k1, h⟩ := h
  refine ⟨k1 + 2, fun r k o hr ha ho => ?_⟩
  rw [show k1 + 2 + k = (k1 + 1 + k) + 1 by omega, choiceG, up_both (h r 1 _ hr (bothL_end ha)) (show k1 + 1 ≤ k1 + 1 + k by omega), then_yes]
  exact up_choiceL ho (by omega)
theorem CH.te {i : Int} {p : Pred} {ts : List Tok} (h : CH i p ts) : TE i p (tLp :: ts ++ [tRp]) := by
  obtain ⟨k1, h⟩ := h
  refine ⟨k1 + 2, fun r hr => ?_⟩
  have h1 := h (tRp :: r) 1 _ (np_cons (by decide)) (by simp [tRp, tAnd]) (choiceL_end (by simp [tRp, tOr]))
  have e : tLp :: ts ++ [tRp] ++ r = tLp :: (ts ++ tRp :: r) := by simp
  rw [e, termG, if_neg (by rintro ⟨h, _⟩; revert h; simp [tLp, tNot]), if_pos List.head?_cons, adv_cons, opt_yes, h1, then_yes, need_cons, opt_yes]
theorem CH.not {i : Int} {p : Pred} {ts : List Tok} (h : CH i p ts) : TE i ⟨5, 0, [], [p]⟩ (tNot :: tLp :: ts ++ [tRp]) := by
  obtain ⟨k1, h⟩ := h
  refine ⟨k1 + 2, fun r hr => ?_⟩
  have h1 := h (tRp :: r) 1 _ (np_cons (by decide)) (by simp [tRp, tAnd]) (choiceL_end (by simp [tRp, tOr]))
  have e : tNot :: tLp :: ts ++ [tRp] ++ r = tNot :: tLp :: (ts ++ tRp :: r) := by simp
  rw [e, termG, if_pos ⟨rfl, rfl⟩, adv_cons, opt_yes, need_cons, opt_yes, h1, then_yes, need_cons, opt_yes]
theorem BO.and {i : Int} {p q : Pred} {ts us : List Tok} (h : BO i p ts) (h' : TE i q us) : BO i ⟨3, 0, [], [p, q]⟩ (ts ++ tAnd :: us) := by
  obtain ⟨k1, h⟩ := h
  obtain ⟨k2, h'⟩ := h'
  refine ⟨k1 + k2 + 1, fun r k o hr ho => ?_⟩
  have e : ts ++ tAnd :: us ++ r = ts ++ tAnd :: (us ++ r) := by simp
  have h1 : bothL false (k2 + k + 1) i p (tAnd :: (us ++ r)) = some o := by
    rw [bothL, if_pos List.head?_cons, adv_cons, opt_yes, up_term (h' r hr) (show k2 ≤ k2 + k by omega), then_yes]
    exact up_bothL ho (by omega)
  rw [e, show k1 + k2 + 1 + k = k1 + (k2 + k + 1) by omega]
  exact h _ _ _ (np_cons (by decide)) h1
theorem CH.or {i : Int} {p q : Pred} {ts us : List Tok} (h : CH i p ts) (h' : BO i q us) : CH i ⟨4, 0, [], [p, q]⟩ (ts ++ tOr :: us) := by
  obtain ⟨k1, h⟩ := h
  obtain ⟨k2, h'⟩ := h'
  refine ⟨k1 + k2 + 2, fun r k o hr ha ho => ?_⟩
  have e : ts ++ tOr :: us ++ r = ts ++ tOr :: (us ++ r) := by simp
  have h1 : choiceL false (k2 + 1 + k + 1) i p (tOr :: (us ++ r)) = some o := by
    rw [choiceL, if_pos List.head?_cons, adv_cons, opt_yes, up_both (h' r 1 _ hr (bothL_end ha)) (show k2 + 1 ≤ k2 + 1 + k by omega), then_yes]
    exact up_choiceL ho (by omega)
  rw [e, show k1 + k2 + 2 + k = k1 + (k2 + 1 + k + 1) by omega]
  exact h _ _ _ (np_cons (by decide)) (by simp [tOr, tAnd]) h1
theorem dataA (a b : ByteArray) : (a ++ b).data.toList = a.data.toList ++ b.data.toList := by simp
theorem lx_par {b : ByteArray} {ts : List Tok} (h : Lx b.data.toList ts) : Lx (tLp ++ b ++ tRp).data.toList (tLp :: ts ++ [tRp]) := by
  rw [dataA, dataA]
  exact (lx_open (c := 40) (by decide) h).app (lr_shut (c := 41) (by decide) Lr.nil)
theorem PrP.both {i : Int} {p : Pred} (h : PrP i p) : ∃ ts, Lx (inP (p.kind == 4) (heldT p).1).data.toList ts ∧ Nd ts ∧ BO i p ts := by
  obtain ⟨_, _, _, ts, h1, hn, h2, h3, h4⟩ := h
  by_cases hk : p.kind = 4
  · rw [show (p.kind == 4) = true by simp [hk]]
    exact ⟨_, lx_par h1, ⟨tLp, _, rfl, by decide⟩, h2.te.bo⟩
  · rw [show (p.kind == 4) = false by simp [hk]]
    exact ⟨ts, h1, hn, h3 hk⟩
theorem PrP.term {i : Int} {p : Pred} (h : PrP i p) : ∃ ts, Lx (inP (p.kind == 4 || p.kind == 3) (heldT p).1).data.toList ts ∧ Nd ts ∧ TE i p ts := by
  obtain ⟨_, _, _, ts, h1, hn, h2, h3, h4⟩ := h
  by_cases hk : (p.kind == 4 || p.kind == 3) = true
  · rw [hk]
    exact ⟨_, lx_par h1, ⟨tLp, _, rfl, by decide⟩, h2.te⟩
  · have hk' : (p.kind == 4 || p.kind == 3) = false := by simpa using hk
    rw [hk']
    simp only [Bool.or_eq_false_iff, beq_eq_false_iff_ne] at hk'
    exact ⟨ts, h1, hn, h4 hk'.1 hk'.2⟩
theorem held_not (p : Pred) : heldT ⟨5, 0, [], [p]⟩ = (⟨#[110, 111, 116, 40]⟩ ++ (heldT p).1 ++ tRp, (heldT p).2) := by
  rw [heldT]; simp [argsT_eq]
theorem held_and (p q : Pred) : heldT ⟨3, 0, [], [p, q]⟩ = (inP (p.kind == 4) (heldT p).1 ++ ⟨#[32, 97, 110, 100, 32]⟩ ++ inP (q.kind == 4 || q.kind == 3) (heldT q).1, (heldT p).2 && (heldT q).2) := by
  rw [heldT]; simp [argsT_eq]
theorem held_or (p q : Pred) : heldT ⟨4, 0, [], [p, q]⟩ = ((heldT p).1 ++ ⟨#[32, 111, 114, 32]⟩ ++ inP (q.kind == 4) (heldT q).1, (heldT p).2 && (heldT q).2) := by
  rw [heldT]; simp [argsT_eq]
theorem held_has {l : List Step} (h : l.length ≠ 0) : heldT ⟨2, 0, l, []⟩ = rowT false l := by
  rw [heldT]; simp [h]
theorem nm_two {p q : Pred} (k : Int) (h : nmP p) (h' : nmP q) : nmP ⟨k, 0, [], [p, q]⟩ := by
  rw [nmP]
  exact ⟨⟨Nat.zero_le _, by show 2 ≤ 1000; omega⟩, by rw [nmSs]; trivial, by rw [nmPs, nmPs, nmPs]; exact ⟨h, h', trivial⟩⟩
theorem pr_not {i : Int} {p : Pred} (h : PrP i p) : PrP i ⟨5, 0, [], [p]⟩ := by
  obtain ⟨a1, a2, a3, ts, h1, hn, h2, h3, h4⟩ := h
  refine ⟨by rw [held_not]; exact a1, ?_, show (5 : Int) ≠ 1 by decide, tNot :: tLp :: ts ++ [tRp], ?_, ⟨tNot, _, rfl, by decide⟩, h2.not.bo.ch, fun _ => h2.not.bo, fun _ _ => h2.not⟩
  · rw [nmP]
    exact ⟨⟨Nat.zero_le _, by show 1 ≤ 1000; omega⟩, by rw [nmSs]; trivial, by rw [nmPs, nmPs]; exact ⟨a2, trivial⟩⟩
  · rw [held_not]
    have : (⟨#[110, 111, 116, 40]⟩ ++ (heldT p).1 ++ tRp : ByteArray).data.toList = tNot.data.toList ++ (40 :: (heldT p).1.data.toList ++ [41]) := by
      rw [dataA, dataA]; rfl
    rw [this]
    exact lx_not.app (ts := [tNot]) ⟨fun r hr => stop_cons (by decide), ((lx_open (c := 40) (by decide) h1).app (lr_shut (c := 41) (by decide) Lr.nil)).2⟩
theorem pr_and {i : Int} {p q : Pred} (h : PrP i p) (h' : PrP i q) : PrP i ⟨3, 0, [], [p, q]⟩ := by
  obtain ⟨ts, h1, hn, h2⟩ := h.both
  obtain ⟨us, g1, _, g2⟩ := h'.term
  have hb := h2.and g2
  refine ⟨by rw [held_and, h.1, h'.1]; rfl, nm_two 3 h.2.1 h'.2.1, show (3 : Int) ≠ 1 by decide, ts ++ tAnd :: us, ?_, hn.app, hb.ch, fun _ => hb, fun _ e => absurd rfl e⟩
  rw [held_and]
  have : (inP (p.kind == 4) (heldT p).1 ++ ⟨#[32, 97, 110, 100, 32]⟩ ++ inP (q.kind == 4 || q.kind == 3) (heldT q).1 : ByteArray).data.toList = (inP (p.kind == 4) (heldT p).1).data.toList ++ (32 :: tAnd.data.toList ++ 32 :: (inP (q.kind == 4 || q.kind == 3) (heldT q).1).data.toList) := by
    rw [dataA, dataA, List.append_assoc]; rfl
  rw [this]
  exact h1.app (lr_word lx_and g1)
theorem pr_or {i : Int} {p q : Pred} (h : PrP i p) (h' : PrP i q) : PrP i ⟨4, 0, [], [p, q]⟩ := by
  obtain ⟨us, g1, _, g2⟩ := h'.both
  obtain ⟨a1, a2, a3, ts, h1, hn, h2, h3, h4⟩ := h
  refine ⟨by rw [held_or, a1, h'.1]; rfl, nm_two 4 a2 h'.2.1, show (4 : Int) ≠ 1 by decide, ts ++ tOr :: us, ?_, hn.app, h2.or g2, fun e => absurd rfl e, fun e => absurd rfl e⟩
  rw [held_or]
  have : ((heldT p).1 ++ ⟨#[32, 111, 114, 32]⟩ ++ inP (q.kind == 4) (heldT q).1 : ByteArray).data.toList = (heldT p).1.data.toList ++ (32 :: tOr.data.toList ++ 32 :: (inP (q.kind == 4) (heldT q).1).data.toList) := by
    rw [dataA, dataA, List.append_assoc]; rfl
  rw [this]
  exact h1.app (lr_word lx_or g1)
theorem row_first {s : Step} {l : List Step} (h : s.deep = false) : rowT false (s :: l) = ((stepT s).1 ++ (rowT true l).1, (stepT s).2 && (rowT true l).2) := by
  rw [rowT_cons, h]
  have : (sepT false false : ByteArray) = ⟨#[]⟩ := rfl
  rw [this, ByteArray.append_assoc]
  refine Prod.ext ?_ ?_
  · exact ByteArray.ext (by simp)
  · simp [sepOk]
theorem pr_has {i : Int} {l : List Step} (h : PrL i false l) (hl : l.length ≤ 1000) : PrP i ⟨2, 0, l, []⟩ := by
  obtain ⟨s, l', rfl, hd, a1, a2, a3, ts, h1, hn, hf, k, hk⟩ := h
  have e := held_has (l := s :: l') (by simp)
  have hte : TE i ⟨2, 0, s :: l', []⟩ ts := by
    refine ⟨k + 1, fun r hr => ?_⟩
    obtain ⟨f1, f2⟩ := hf r hr.1.2
    rw [termG, if_neg f2, if_neg f1, hk r hr, then_yes]
  refine ⟨by rw [e, row_first hd, a1, a2]; rfl, ?_, show (2 : Int) ≠ 1 by decide, ts, by rw [e, row_first hd]; exact h1, hn, hte.bo.ch, fun _ => hte.bo, fun _ _ => hte⟩
  rw [nmP]
  exact ⟨⟨hl, Nat.zero_le _⟩, a3, by rw [nmPs]; trivial⟩
end Go.Proofs.YtoanmoddppmffaaGreatDoor.T
