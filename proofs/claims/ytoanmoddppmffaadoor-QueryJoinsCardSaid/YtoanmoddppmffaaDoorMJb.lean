/- Two texts, one behind the other: the signs of both, the steps of both. -/
import Derived.Test.YtoanmoddppmffaaDoorMJa
import Derived.Test.YtoanmoddppmffaaDoorMRk
namespace Go.Proofs.YtoanmoddppmffaaDoor.T
set_option linter.unusedVariables false
theorem skip_all : ∀ (l r : List UInt8), l.drop (skipL l) = [] → (l ++ r).drop (skipL (l ++ r)) = r.drop (skipL r)
  | [], r, _ => rfl
  | c :: l, r, h => by
    by_cases hc : isSp c = true
    · simp only [skipL, if_pos hc, List.drop_succ_cons, List.cons_append] at h ⊢
      exact skip_all l r h
    · simp only [skipL, if_neg hc, List.drop_zero] at h
      cases h
theorem skip_app : ∀ (l r : List UInt8), l.drop (skipL l) ≠ [] → (l ++ r).drop (skipL (l ++ r)) = l.drop (skipL l) ++ r
  | [], r, h => absurd rfl h
  | c :: l, r, h => by
    by_cases hc : isSp c = true
    · simp only [skipL, if_pos hc, List.drop_succ_cons, List.cons_append] at h ⊢
      exact skip_app l r h
    · simp only [skipL, if_neg hc, List.drop_zero, List.cons_append]
def Stop (r : List UInt8) : Prop := ∀ c, r.head? = some c → isMo c = false
theorem more_app : ∀ (l r : List UInt8), Stop r → moreL (l ++ r) = moreL l
  | [], [], _ => rfl
  | [], c :: r, h => by simp only [List.nil_append, moreL, h c rfl]; rfl
  | c :: l, r, h => by simp only [List.cons_append, moreL, more_app l r h]
theorem dig_app : ∀ (l r : List UInt8), Stop r → digL (l ++ r) = digL l
  | [], [], _ => rfl
  | [], c :: r, h => by
    have : isDg c = false := by
      have h := h c rfl
      unfold isMo at h
      simp only [Bool.or_eq_false_iff] at h
      exact h.1.1.2
    simp only [List.nil_append, digL, this]; rfl
  | c :: l, r, h => by simp only [List.cons_append, digL, dig_app l r h]
theorem name_app (l r : List UInt8) (hl : l ≠ []) (h : Stop r) : nameL (l ++ r) = nameL l := by
  cases l with
  | nil => exact absurd rfl hl
  | cons c l => simp only [List.cons_append, nameL, more_app l r h]
theorem stop_dot {r : List UInt8} {c : UInt8} (h : Stop r) (hc : r.head? = some c) : c ≠ 46 := by
  rintro rfl
  exact absurd (h 46 hc) (by decide)
theorem sign_app (c : UInt8) (l r : List UInt8) (h : Stop r) (hc : l = [] → c ≠ 47) : signL (c :: l ++ r) = signL (c :: l) := by
  cases l with
  | nil =>
    have hc := hc rfl
    cases r with
    | nil => rfl
    | cons x r =>
      have hx := stop_dot h rfl
      simp only [signL, sigs, List.find?_cons, tDs, tDd, tSl, tDot, tStar, tAt, tLb, tRb, tLp, tRp, List.isPrefixOf, List.cons_append, List.nil_append]
      have e1 : ((47 : UInt8) == c) = false := by simpa using fun e => hc e.symm
      have e2 : ((46 : UInt8) == x) = false := by simpa using fun e => hx e.symm
      simp [e1, e2]
  | cons x l => simp only [signL, sigs, List.find?_cons, List.find?_nil, tDs, tDd, tSl, tDot, tStar, tAt, tLb, tRb, tLp, tRp, List.isPrefixOf, List.cons_append]
theorem tok_app (d r : List UInt8) (hd : d ≠ []) (h : Stop r) (hs : tokL d = some tSl → d ≠ [47]) : tokL (d ++ r) = tokL d := by
  unfold tokL
  rw [name_app d r hd h, dig_app d r h]
  have h1 := nameL_le d
  have h2 := digL_le d
  by_cases hp : 0 < max (nameL d) (digL d)
  · rw [if_pos hp, if_pos hp, List.take_append_of_le_length (by omega)]
  · rw [if_neg hp, if_neg hp]
    cases d with
    | nil => exact absurd rfl hd
    | cons c l =>
      refine sign_app c l r h ?_
      rintro rfl rfl
      exact hs (by decide) rfl
theorem last_cons {α : Type} (x : α) (l : List α) (y : α) (h : (x :: l).getLast? ≠ some y) : l.getLast? ≠ some y := by
  cases l with
  | nil => simp
  | cons z l => rwa [List.getLast?_cons_cons] at h
theorem lex_app (r : List UInt8) (hr : Stop r) : ∀ (n : Nat) (l : List UInt8), l.length ≤ n → (lexQ l).2 = false → (lexQ l).1.getLast? ≠ some tSl → lexQ (l ++ r) = ((lexQ l).1 ++ (lexQ r).1, (lexQ r).2) := by
  intro n
  induction n with
  | zero =>
    intro l hl _ _
    obtain rfl : l = [] := List.eq_nil_of_length_eq_zero (by omega)
    simp [lexQ, lexL]
  | succ n ih =>
    intro l hl h2 h3
    by_cases hd : l.drop (skipL l) = []
    · have e : lexQ l = ([], false) := by rw [lexQ_eq, if_pos hd]
      rw [e, lexQ_eq (l ++ r), skip_all l r hd, ← lexQ_eq r]
      rfl
    · rw [lexQ_eq l, if_neg hd] at h2 h3 ⊢
      cases hk : tokL (l.drop (skipL l)) with
      | none => rw [hk] at h2; cases h2
      | some t =>
        rw [hk] at h2 h3
        simp only at h2 h3 ⊢
        obtain ⟨q1, q2, q3⟩ := tokL_size hk
        have ht : tokL (l.drop (skipL l) ++ r) = some t := by
          rw [tok_app _ r hd hr, hk]
          intro e e'
          rw [hk] at e
          obtain rfl := Option.some.inj e
          rw [e'] at h3
          exact h3 (by decide)
        rw [lexQ_eq (l ++ r), skip_app l r hd, if_neg (by simp [hd]), ht]
        simp only
        rw [List.drop_append_of_le_length q2]
        rw [ih _ (by simp only [List.length_drop] at q2 ⊢; omega) h2 (last_cons _ _ _ h3)]
        rfl
def Ls (t : List Tok) : Prop := t.getLast? = some tSl
def NsL {α : Type} (x : Out α) : Prop := ∀ y t, x = some (some (y, t)) → Ls t
theorem ns_some {α : Type} {y : α} {t : List Tok} (h : Ls t) : NsL (some (some (y, t)) : Out α) := fun y' t' e => by obtain ⟨rfl, rfl⟩ := Prod.mk.inj (Option.some.inj (Option.some.inj e)); exact h
theorem ns_none {α : Type} : NsL (some none : Out α) := fun _ _ e => by cases e
theorem ns_fuel {α : Type} : NsL (none : Out α) := fun _ _ e => by cases e
theorem ns_then {α β : Type} {x : Out α} {f : α → List Tok → Out β} (h : NsL x) (hf : ∀ y t, Ls t → NsL (f y t)) : NsL (x.then_ f) := by
  match x, h with
  | none, _ => exact ns_fuel
  | some none, _ => exact ns_none
  | some (some (y, t)), h => exact hf y t (h y t rfl)
theorem ns_opt {α β : Type} {o : Option α} {f : α → Out β} (hf : ∀ y, o = some y → NsL (f y)) : NsL (Opt o f) := by
  cases o with
  | none => exact ns_none
  | some y => exact hf y rfl
theorem ns_ite {α : Type} {c : Prop} [Decidable c] {x y : Out α} (h1 : c → NsL x) (h2 : ¬ c → NsL y) : NsL (if c then x else y) := by
  by_cases h : c
  · rw [if_pos h]; exact h1 h
  · rw [if_neg h]; exact h2 h
theorem adv_ls {ts t : List Tok} (h : adv false ts = some t) (hn : Ls ts) : t = [] ∨ Ls t := by
  match ts, h, hn with
  | [], h, hn => cases hn
  | [_], h, _ => simp [adv] at h; exact .inl h
  | _ :: u :: us, h, hn => simp [adv] at h; subst h; right; unfold Ls at hn ⊢; rwa [List.getLast?_cons_cons] at hn
theorem adv_lsh {ts t : List Tok} {s : Tok} (h : adv false ts = some t) (hn : Ls ts) (hh : ts.head? = some s) (hs : s ≠ tSl) : Ls t := by
  match ts, h, hn, hh with
  | [x], h, hn, hh =>
    unfold Ls at hn
    simp at hn hh
    exact absurd (hh.symm.trans hn) hs
  | _ :: u :: us, h, hn, _ => simp [adv] at h; subst h; unfold Ls at hn ⊢; rwa [List.getLast?_cons_cons] at hn
theorem need_ls {s : Tok} {ts r : List Tok} (h : need false s ts = some r) (hn : Ls ts) (hs : s ≠ tSl) : Ls r := by
  unfold need at h
  split at h
  · rename_i hh
    exact adv_lsh h hn hh hs
  · cases h
theorem named_ls {ts : List Tok} {r : ByteArray × List Tok} (h : namedG false ts = some r) (hn : Ls ts) : Ls r.2 := by
  match ts, h with
  | [], h => simp [namedG] at h
  | t :: ts', h =>
    simp only [namedG] at h
    split at h
    · rename_i hh
      obtain ⟨q, hq, rfl⟩ := Option.map_eq_some_iff.1 h
      refine adv_lsh hq hn rfl ?_
      rintro rfl
      revert hh
      decide
    · cases h
theorem headG_ls {ts : List Tok} {r : (Int × ByteArray) × List Tok} (h : headG false ts = some r) (hn : Ls ts) : Ls r.2 := by
  unfold headG at h
  split at h
  · rename_i hh
    obtain ⟨q, hq, rfl⟩ := Option.map_eq_some_iff.1 h
    exact adv_lsh hq hn hh (by decide)
  split at h
  · rename_i hh
    obtain ⟨q, hq, rfl⟩ := Option.map_eq_some_iff.1 h
    exact adv_lsh hq hn hh (by decide)
  split at h
  · rename_i hh
    obtain ⟨t1, h1, h2⟩ := Option.bind_eq_some_iff.1 h
    obtain ⟨t2, h3, h4⟩ := Option.bind_eq_some_iff.1 h2
    obtain ⟨q, hq, rfl⟩ := Option.map_eq_some_iff.1 h4
    exact need_ls hq (need_ls h3 (adv_lsh h1 hn hh.1 (by decide)) (by decide)) (by decide)
  split at h
  · rename_i hh
    obtain ⟨t1, h1, h2⟩ := Option.bind_eq_some_iff.1 h
    obtain ⟨q, hq, rfl⟩ := Option.map_eq_some_iff.1 h2
    exact named_ls hq (adv_lsh h1 hn hh (by decide))
  · obtain ⟨q, hq, rfl⟩ := Option.map_eq_some_iff.1 h
    exact named_ls hq hn
theorem path_nil {b : Bool} {k : Nat} {i : Int} {d : Bool} {y : List Step} {t : List Tok} (h : pathG b k i d [] = some (some (y, t))) : False := by
  cases k with
  | zero => rw [pathG] at h; cases h
  | succ k =>
    rw [pathG] at h
    cases k with
    | zero => rw [stepG] at h; cases h
    | succ k => rw [stepG] at h; simp [headG, namedG, Opt, Out.then_] at h
theorem num_digits {t : Tok} (h : 0 < digL t.data.toList) : t ≠ tSl := by
  rintro rfl
  revert h
  decide
theorem ls_all : ∀ k : Nat,
    (∀ i deep ts, Ls ts → NsL (pathG false k i deep ts)) ∧ (∀ i ts, Ls ts → NsL (stepG false k i ts)) ∧ (∀ i ts, Ls ts → NsL (predsG false k i ts)) ∧
    (∀ i ts, Ls ts → NsL (predG false k i ts)) ∧ (∀ i ts, Ls ts → NsL (choiceG false k i ts)) ∧ (∀ i p ts, Ls ts → NsL (choiceL false k i p ts)) ∧
    (∀ i ts, Ls ts → NsL (bothG false k i ts)) ∧ (∀ i p ts, Ls ts → NsL (bothL false k i p ts)) ∧ (∀ i ts, Ls ts → NsL (termG false k i ts)) := by
  intro k
  induction k with
  | zero =>
    refine ⟨?_, ?_, ?_, ?_, ?_, ?_, ?_, ?_, ?_⟩ <;> intros <;> simp only [pathG, stepG, predsG, predG, choiceG, choiceL, bothG, bothL, termG] <;> exact ns_fuel
  | succ k ih =>
    obtain ⟨hpath, hstep, hpreds, hpred, hchoice, hchoiceL, hboth, hbothL, hterm⟩ := ih
    refine ⟨fun i deep ts hn => ?_, fun i ts hn => ?_, fun i ts hn => ?_, fun i ts hn => ?_, fun i ts hn => ?_, fun i p ts hn => ?_, fun i ts hn => ?_, fun i p ts hn => ?_, fun i ts hn => ?_⟩
    · simp only [pathG]
      have hp : ∀ (d : Bool) (t2 : List Tok), t2 = [] ∨ Ls t2 → NsL (pathG false k i d t2) := by
        intro d t2 h
        rcases h with rfl | h
        · exact fun y t e => (path_nil e).elim
        · exact hpath i d t2 h
      exact ns_then (hstep i ts hn) (fun s t1 h1 => ns_ite (fun _ => ns_opt (fun t2 h2 => ns_then (hp false t2 (adv_ls h2 h1)) (fun l t3 h3 => ns_some h3)))
        (fun _ => ns_ite (fun _ => ns_opt (fun t2 h2 => ns_then (hp true t2 (adv_ls h2 h1)) (fun l t3 h3 => ns_some h3))) (fun _ => ns_some h1)))
    · simp only [stepG]
      exact ns_opt (fun h hh => ns_then (hpreds (i + 1) h.2 (headG_ls hh hn)) (fun ps t2 h2 => ns_some h2))
    · simp only [predsG]
      refine ns_ite (fun c => ns_ite (fun _ => ns_none) (fun _ => ns_opt (fun t1 h1 => ns_then (hpred i t1 (adv_lsh h1 hn c (by decide))) (fun p t2 h2 => ns_opt (fun t3 h3 => ns_then (hpreds i t3 (need_ls h3 h2 (by decide))) (fun ps t4 h4 => ns_some h4)))))) (fun _ => ns_some hn)
    · cases ts with
      | nil => cases hn
      | cons t ts =>
        simp only [predG]
        exact ns_ite (fun hd => ns_opt (fun n _ => ns_opt (fun t1 h1 => ns_some (adv_lsh h1 hn rfl (num_digits hd))))) (fun _ => hchoice i _ hn)
    · simp only [choiceG]
      exact ns_then (hboth i ts hn) (fun p t1 h1 => hchoiceL i p t1 h1)
    · simp only [choiceL]
      exact ns_ite (fun c => ns_opt (fun t1 h1 => ns_then (hboth i t1 (adv_lsh h1 hn c (by decide))) (fun q t2 h2 => hchoiceL i _ t2 h2))) (fun _ => ns_some hn)
    · simp only [bothG]
      exact ns_then (hterm i ts hn) (fun p t1 h1 => hbothL i p t1 h1)
    · simp only [bothL]
      exact ns_ite (fun c => ns_opt (fun t1 h1 => ns_then (hterm i t1 (adv_lsh h1 hn c (by decide))) (fun q t2 h2 => hbothL i _ t2 h2))) (fun _ => ns_some hn)
    · simp only [termG]
      refine ns_ite (fun c => ns_opt (fun t1 h1 => ns_opt (fun t2 h2 => ?_))) (fun _ => ns_ite (fun c => ns_opt (fun t2 h2 => ?_)) (fun _ => ?_))
      · exact ns_then (hchoice i t2 (need_ls h2 (adv_lsh h1 hn c.1 (by decide)) (by decide))) (fun p t3 h3 => ns_opt (fun t4 h4 => ns_some (need_ls h4 h3 (by decide))))
      · exact ns_then (hchoice i t2 (adv_lsh h2 hn c (by decide))) (fun p t3 h3 => ns_opt (fun t4 h4 => ns_some (need_ls h4 h3 (by decide))))
      · exact ns_then (hpath i false ts hn) (fun l t1 h1 => ns_some h1)
theorem parseG_some {k : Nat} {q : ByteArray} {l : List Step} (h : parseG k q = some (some l)) : q.size ≤ 300 ∧ Cn (lexQ q.data.toList).1 ∧ (lexQ q.data.toList).2 = false ∧
    ∃ t, adv false (lexQ q.data.toList).1 = some t ∧ pathG false k 0 ((lexQ q.data.toList).1.head? == some tDs) t = some (some (l, [])) := by
  have hb : (lexQ q.data.toList).2 = false := by
    cases hb : (lexQ q.data.toList).2 with
    | false => rfl
    | true => cases parse_bad h hb
  unfold parseG at h
  split at h
  · cases h
  rename_i hs
  simp only [hb] at h
  split at h
  · rename_i hc
    refine ⟨by omega, hc, hb, ?_⟩
    cases ha : adv false (lexQ q.data.toList).1 with
    | none => rw [ha] at h; cases h
    | some t =>
      rw [ha] at h
      simp only at h
      refine ⟨t, rfl, ?_⟩
      cases hp : pathG false k 0 ((lexQ q.data.toList).1.head? == some tDs) t with
      | none => rw [hp] at h; cases h
      | some o =>
        rw [hp] at h
        match o, h with
        | none, h => cases h
        | some (l', t2), h =>
          simp only at h
          split at h
          · rename_i ht
            subst ht
            obtain rfl := Option.some.inj (Option.some.inj h)
            rfl
          · cases h
  · cases h
theorem parseG_of {k : Nat} {q : ByteArray} {l : List Step} {t : List Tok} (hz : q.size ≤ 300) (hc : Cn (lexQ q.data.toList).1) (hb : (lexQ q.data.toList).2 = false) (ha : adv false (lexQ q.data.toList).1 = some t)
    (hp : pathG false k 0 ((lexQ q.data.toList).1.head? == some tDs) t = some (some (l, []))) : parseG k q = some (some l) := by
  unfold parseG
  rw [if_neg (by omega)]
  simp only [hb]
  rw [if_pos (show _ ∨ _ from hc), ha]
  simp only [hp, if_true]
theorem parseQ_some {q : ByteArray} {l : List Step} (h : parseQ q = some l) : parseG 5000 q = some (some l) := by rw [parseQ_eq, h]
theorem parseQ_of {k : Nat} {q : ByteArray} {l : List Step} (h : parseG k q = some (some l)) : parseQ q = some l := by
  obtain ⟨hz, hc, hb, t, ha, hp⟩ := parseG_some h
  have h1 := parseG_of hz hc hb ha (le_up (f := fun k => pathG false k 0 ((lexQ q.data.toList).1.head? == some tDs) t) (fun k => (more false k).1 0 _ t) (Nat.le_max_left k 5000) _ hp)
  cases hq : parseQ q with
  | none =>
    have h2 := parseQ_eq q
    rw [hq] at h2
    unfold parseG at h2
    rw [if_neg (by omega)] at h2
    simp only [hb] at h2
    rw [if_pos (show _ ∨ _ from hc), ha] at h2
    simp only at h2
    cases hp2 : pathG false 5000 0 ((lexQ q.data.toList).1.head? == some tDs) t with
    | none => rw [hp2] at h2; cases h2
    | some o =>
      have h3 := le_up (f := fun k => pathG false k 0 ((lexQ q.data.toList).1.head? == some tDs) t) (fun k => (more false k).1 0 _ t) (Nat.le_max_right k 5000) _ hp2
      have h4 := le_up (f := fun k => pathG false k 0 ((lexQ q.data.toList).1.head? == some tDs) t) (fun k => (more false k).1 0 _ t) (Nat.le_max_left k 5000) _ hp
      rw [h4] at h3
      obtain rfl := Option.some.inj h3
      rw [hp2] at h2
      simp at h2
  | some m =>
    obtain ⟨_, _, _, t', ha', hp'⟩ := parseG_some (parseQ_some hq)
    rw [ha] at ha'
    obtain rfl := Option.some.inj ha'
    have h3 := le_up (f := fun k => pathG false k 0 ((lexQ q.data.toList).1.head? == some tDs) t) (fun k => (more false k).1 0 _ t) (Nat.le_max_right k 5000) _ hp'
    have h4 := le_up (f := fun k => pathG false k 0 ((lexQ q.data.toList).1.head? == some tDs) t) (fun k => (more false k).1 0 _ t) (Nat.le_max_left k 5000) _ hp
    rw [h4] at h3
    obtain ⟨rfl, _⟩ := Prod.mk.inj (Option.some.inj (Option.some.inj h3))
    rfl
theorem cn_stop {l : List UInt8} (h : Cn (lexQ l).1) : Stop l := by
  intro c hc
  cases l with
  | nil => cases hc
  | cons x l =>
    obtain rfl := Option.some.inj hc
    by_cases hs : isSp x = true
    · unfold isSp at hs
      simp only [Bool.or_eq_true, beq_iff_eq] at hs
      rcases hs with ((rfl | rfl) | rfl) | rfl <;> decide
    · have e : (x :: l).drop (skipL (x :: l)) = x :: l := by simp only [skipL, if_neg hs, List.drop_zero]
      rw [lexQ_eq, e, if_neg (by simp)] at h
      cases hk : tokL (x :: l) with
      | none => rw [hk] at h; rcases h with h | h <;> cases h
      | some t =>
        rw [hk] at h
        simp only [Cn, List.head?_cons, Option.some.injEq] at h
        obtain ⟨_, _, q⟩ := tokL_size hk
        rcases h with rfl | rfl
        · have : x = 47 := (List.cons.inj q).1
          subst this; decide
        · have : x = 47 := (List.cons.inj q).1
          subst this; decide
theorem parse_join {a b : ByteArray} {l m : List Step} (ha : parseQ a = some l) (hb : parseQ b = some m) (h1 : a.size ≤ 100) (h2 : b.size ≤ 100) : parseQ (a ++ b) = some (l ++ m) := by
  obtain ⟨_, ca, ba, ta, ea, pa⟩ := parseG_some (parseQ_some ha)
  obtain ⟨_, cb, bb, tb, eb, pb⟩ := parseG_some (parseQ_some hb)
  have hta : ta ≠ [] := by rintro rfl; exact path_nil pa
  have hla : (lexQ a.data.toList).1.getLast? ≠ some tSl := by
    intro hl
    rcases adv_ls ea hl with h | h
    · exact hta h
    · have := (ls_all 5000).1 0 _ ta h _ _ pa
      cases this
  have hlex := lex_app b.data.toList (cn_stop cb) _ a.data.toList (Nat.le_refl _) ba hla
  have hdat : (a ++ b).data.toList = a.data.toList ++ b.data.toList := by simp
  have hne : (lexQ a.data.toList).1 ≠ [] := by
    intro h
    rw [h] at ca
    rcases ca with c | c <;> cases c
  refine parseQ_of (k := 5000 + 5000) (parseG_of (t := ta ++ (lexQ b.data.toList).1) ?_ ?_ ?_ ?_ ?_)
  · rw [ByteArray.size_append]; omega
  · rw [hdat, hlex]; unfold Cn; simp only; rw [head_app hne]; exact ca
  · rw [hdat, hlex]; exact bb
  · rw [hdat, hlex]; exact adv_ext cb ea hne
  · rw [hdat, hlex]; simp only; rw [head_app hne]
    exact path_join false 5000 0 _ tb m cb eb pb 5000 _ ta l hta pa
end Go.Proofs.YtoanmoddppmffaaDoor.T
