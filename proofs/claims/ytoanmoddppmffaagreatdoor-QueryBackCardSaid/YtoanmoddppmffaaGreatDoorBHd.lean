/- The text of what was read, read again, is the same: all that is read. -/
import Derived.Test.YtoanmoddppmffaaGreatDoorBHc
namespace Go.Proofs.YtoanmoddppmffaaGreatDoor.T
set_option linter.unusedVariables false
def RP (i : Int) (d : Bool) (ts : List Tok) (o : Out (List Step)) : Prop := ∀ l r, o = some (some (l, r)) → PrL i d l ∧ Gd r ∧ l.length + W r ≤ W ts ∧ szL l + 2 * W r ≤ 2 * W ts
def RS (i : Int) (ts : List Tok) (o : Out Step) : Prop := ∀ s r, o = some (some (s, r)) → PrS i s ∧ Gd r ∧ 1 + W r ≤ W ts ∧ (stepT s).1.size + 2 * W r ≤ 2 * W ts
def RPs (i : Int) (ts : List Tok) (o : Out (List Pred)) : Prop := ∀ ps r, o = some (some (ps, r)) → PrPs i ps ∧ Gd r ∧ W r ≤ W ts ∧ (predsT ps).1.size + 2 * W r ≤ 2 * W ts
def RQ (i : Int) (ts : List Tok) (o : Out Pred) : Prop := ∀ p r, o = some (some (p, r)) → PrQ i p ∧ Gd r ∧ W r ≤ W ts ∧ (predT p).1.size + 2 * W r ≤ 2 * W ts
def szC (p : Pred) : Nat := (heldT p).1.size
def szB (p : Pred) : Nat := (inP (p.kind == 4) (heldT p).1).size
def szT (p : Pred) : Nat := (inP (p.kind == 4 || p.kind == 3) (heldT p).1).size
def RH (f : Pred → Nat) (i : Int) (n : Nat) (ts : List Tok) (o : Out Pred) : Prop := ∀ p r, o = some (some (p, r)) → PrP i p ∧ Gd r ∧ W r ≤ W ts ∧ f p + 2 * W r ≤ n + 2 * W ts
theorem szC_B (p : Pred) : szC p ≤ szB p := by unfold szC szB; rw [sz_in]; omega
theorem szT_C (p : Pred) : szT p ≤ szC p + 2 := by unfold szC szT; rw [sz_in]; split <;> omega
theorem szB_T (p : Pred) : szB p ≤ szT p := by
  unfold szB szT
  rw [sz_in, sz_in]
  cases h : p.kind == 4 with
  | true => simp
  | false => simp
theorem sz_or (p q : Pred) : szC ⟨4, 0, [], [p, q]⟩ = szC p + 4 + szB q := by
  unfold szC szB
  rw [held_or, ByteArray.size_append, ByteArray.size_append]
  rfl
theorem sz_and (p q : Pred) : szB ⟨3, 0, [], [p, q]⟩ = szB p + 5 + szT q := by
  show (heldT ⟨3, 0, [], [p, q]⟩).1.size = _
  unfold szB szT
  rw [held_and, ByteArray.size_append, ByteArray.size_append]
  rfl
theorem sz_not (p : Pred) : szT ⟨5, 0, [], [p]⟩ = szC p + 5 := by
  show (heldT ⟨5, 0, [], [p]⟩).1.size = _
  unfold szC
  rw [held_not, ByteArray.size_append, ByteArray.size_append]
  show 4 + _ + 1 = _
  omega
theorem sz_has {i : Int} {l : List Step} (hl : PrL i false l) : szT ⟨2, 0, l, []⟩ = szL l := by
  show (heldT ⟨2, 0, l, []⟩).1.size = _
  exact sz_held hl
theorem opt_adv {β : Type} {ts : List Tok} {x : Tok} {f : List Tok → Out β} {z : β × List Tok} (hh : ts.head? = some x) (h : Opt (adv false ts) f = some (some z)) : ∃ t, ts = x :: t ∧ f t = some (some z) := by
  obtain ⟨t, h1, h2⟩ := opt_some h
  exact ⟨t, adv_tail hh h1, h2⟩
theorem opt_need {β : Type} {ts : List Tok} {x : Tok} {f : List Tok → Out β} {z : β × List Tok} (h : Opt (need false x ts) f = some (some z)) : ∃ t, ts = x :: t ∧ f t = some (some z) := by
  obtain ⟨t, h1, h2⟩ := opt_some h
  exact ⟨t, need_some h1, h2⟩
theorem pr_all : ∀ k : Nat,
    (∀ i d ts, Gd ts → RP i d ts (pathG false k i d ts)) ∧ (∀ i ts, Gd ts → RS i ts (stepG false k i ts)) ∧ (∀ i ts, Gd ts → RPs i ts (predsG false k i ts)) ∧
    (∀ i ts, Gd ts → RQ i ts (predG false k i ts)) ∧ (∀ i ts, Gd ts → RH szC i 0 ts (choiceG false k i ts)) ∧ (∀ i p ts, Gd ts → PrP i p → RH szC i (szC p) ts (choiceL false k i p ts)) ∧
    (∀ i ts, Gd ts → RH szB i 0 ts (bothG false k i ts)) ∧ (∀ i p ts, Gd ts → PrP i p → RH szB i (szB p) ts (bothL false k i p ts)) ∧ (∀ i ts, Gd ts → RH szT i 0 ts (termG false k i ts)) := by
  intro k
  induction k with
  | zero =>
    refine ⟨?_, ?_, ?_, ?_, ?_, ?_, ?_, ?_, ?_⟩ <;> intros <;> intro _ _ e <;> first
      | (simp only [pathG] at e; cases e) | (simp only [stepG] at e; cases e) | (simp only [predsG] at e; cases e) | (simp only [predG] at e; cases e) | (simp only [choiceG] at e; cases e) | (simp only [choiceL] at e; cases e)
      | (simp only [bothG] at e; cases e) | (simp only [bothL] at e; cases e) | (simp only [termG] at e; cases e)
  | succ k ih =>
    obtain ⟨hpath, hstep, hpreds, hpred, hchoice, hchoiceL, hboth, hbothL, hterm⟩ := ih
    refine ⟨fun i d ts hg l r e => ?_, fun i ts hg s r e => ?_, fun i ts hg ps r e => ?_, fun i ts hg p r e => ?_, fun i ts hg p r e => ?_, fun i p0 ts hg h0 p r e => ?_, fun i ts hg p r e => ?_, fun i p0 ts hg h0 p r e => ?_, fun i ts hg p r e => ?_⟩
    · rw [pathG] at e
      replace e := thn_some e
      obtain ⟨s, t1, e1, e⟩ := e
      obtain ⟨hs, g1, w1, z1⟩ := hstep i ts hg s t1 e1
      split at e
      · rename_i c
        replace e := opt_adv c e
        obtain ⟨t2, rfl, e⟩ := e
        replace e := thn_some e
        obtain ⟨l', t3, e3, e⟩ := e
        obtain ⟨hl, g3, w3, z3⟩ := hpath i false t2 g1.tail l' t3 e3
        obtain ⟨rfl, rfl⟩ := pair_inj e
        have h1 : W (tSl :: t2) = 1 + W t2 := W_cons _ _
        refine ⟨pr_cons hs hl, g3, by rw [List.length_cons]; omega, ?_⟩
        rw [sz_cons hl]
        show _ + 1 + _ + _ ≤ _
        omega
      · split at e
        · rename_i c
          replace e := opt_adv c e
          obtain ⟨t2, rfl, e⟩ := e
          replace e := thn_some e
          obtain ⟨l', t3, e3, e⟩ := e
          obtain ⟨hl, g3, w3, z3⟩ := hpath i true t2 g1.tail l' t3 e3
          obtain ⟨rfl, rfl⟩ := pair_inj e
          have h1 : W (tDs :: t2) = 2 + W t2 := W_cons _ _
          refine ⟨pr_cons hs hl, g3, by rw [List.length_cons]; omega, ?_⟩
          rw [sz_cons hl]
          show _ + 2 + _ + _ ≤ _
          omega
        · obtain ⟨rfl, rfl⟩ := pair_inj e
          refine ⟨pr_one hs, g1, by simp only [List.length_cons, List.length_nil]; omega, ?_⟩
          rw [sz_one]
          exact z1
    · rw [stepG] at e
      replace e := opt_some e
      obtain ⟨⟨h, t1⟩, e1, e⟩ := e
      replace e := thn_some e
      obtain ⟨ps, t2, e2, e⟩ := e
      obtain ⟨g1, w1, hh⟩ := head_pr hg e1
      obtain ⟨hp, g2, w2, z2⟩ := hpreds (i + 1) t1 g1 ps t2 e2
      obtain ⟨rfl, rfl⟩ := pair_inj e
      obtain ⟨hs, hz⟩ := pr_step hh hp
      exact ⟨hs, g2, by omega, by have hz : (stepT ⟨false, h.1, h.2, ps⟩).1.size ≤ _ := hz
                                  show (stepT ⟨false, h.1, h.2, ps⟩).1.size + _ ≤ _
                                  omega⟩
    · rw [predsG] at e
      split at e
      · rename_i c
        split at e
        · cases e
        rename_i hi
        replace e := opt_adv c e
        obtain ⟨t1, rfl, e⟩ := e
        replace e := thn_some e
        obtain ⟨p, t2, e2, e⟩ := e
        replace e := opt_need e
        obtain ⟨t3, rfl, e⟩ := e
        replace e := thn_some e
        obtain ⟨ps', t4, e4, e⟩ := e
        obtain ⟨hp, g2, w2, z2⟩ := hpred i t1 hg.tail p _ e2
        obtain ⟨hps, g4, w4, z4⟩ := hpreds i t3 g2.tail ps' t4 e4
        obtain ⟨rfl, rfl⟩ := pair_inj e
        have h1 : W (tLb :: t1) = 1 + W t1 := W_cons _ _
        have h2 : W (tRb :: t3) = 1 + W t3 := W_cons _ _
        refine ⟨pr_preds hi hp hps, g4, by omega, ?_⟩
        rw [predsT_cons]
        simp only [ByteArray.size_append]
        show 1 + _ + 1 + _ + _ ≤ _
        omega
      · obtain ⟨rfl, rfl⟩ := pair_inj e
        refine ⟨pr_nil i, hg, Nat.le_refl _, ?_⟩
        rw [predsT_nil]
        show 0 + _ ≤ _
        omega
    · have go : ∀ ts, Gd ts → RQ i ts (choiceG false k i ts) := fun ts hg p r e => by
        obtain ⟨hp, g1, w1, z1⟩ := hchoice i ts hg p r e
        obtain ⟨hq, he⟩ := pr_pred hp
        refine ⟨hq, g1, w1, ?_⟩
        rw [he]
        unfold szC at z1
        omega
      cases ts with
      | nil => rw [predG] at e; exact go [] hg p r e
      | cons t ts =>
        rw [predG] at e
        split at e
        · rename_i hd
          replace e := opt_some e
          obtain ⟨n, e1, e⟩ := e
          replace e := opt_some e
          obtain ⟨t1, a1, e⟩ := e
          rw [adv_cons] at a1
          obtain rfl := Option.some.inj a1
          obtain ⟨rfl, rfl⟩ := pair_inj e
          obtain ⟨hq, he⟩ := pr_num (i := i) hd hg.head.1 e1
          have h1 : W (t :: ts) = t.size + W ts := W_cons _ _
          refine ⟨hq, hg.tail, by omega, ?_⟩
          rw [he]
          omega
        · exact go _ hg p r e
    · rw [choiceG] at e
      replace e := thn_some e
      obtain ⟨q, t1, e1, e⟩ := e
      obtain ⟨hq, g1, w1, z1⟩ := hboth i ts hg q t1 e1
      obtain ⟨hp, g2, w2, z2⟩ := hchoiceL i q t1 g1 hq p r e
      have := szC_B q
      exact ⟨hp, g2, by omega, by omega⟩
    · rw [choiceL] at e
      split at e
      · rename_i c
        replace e := opt_adv c e
        obtain ⟨t1, rfl, e⟩ := e
        replace e := thn_some e
        obtain ⟨q, t2, e2, e⟩ := e
        obtain ⟨hq, g2, w2, z2⟩ := hboth i t1 hg.tail q t2 e2
        obtain ⟨hp, g3, w3, z3⟩ := hchoiceL i _ t2 g2 (pr_or h0 hq) p r e
        have h1 : W (tOr :: t1) = 2 + W t1 := W_cons _ _
        rw [sz_or] at z3
        exact ⟨hp, g3, by omega, by omega⟩
      · obtain ⟨rfl, rfl⟩ := pair_inj e
        exact ⟨h0, hg, Nat.le_refl _, Nat.le_refl _⟩
    · rw [bothG] at e
      replace e := thn_some e
      obtain ⟨q, t1, e1, e⟩ := e
      obtain ⟨hq, g1, w1, z1⟩ := hterm i ts hg q t1 e1
      obtain ⟨hp, g2, w2, z2⟩ := hbothL i q t1 g1 hq p r e
      have := szB_T q
      exact ⟨hp, g2, by omega, by omega⟩
    · rw [bothL] at e
      split at e
      · rename_i c
        replace e := opt_adv c e
        obtain ⟨t1, rfl, e⟩ := e
        replace e := thn_some e
        obtain ⟨q, t2, e2, e⟩ := e
        obtain ⟨hq, g2, w2, z2⟩ := hterm i t1 hg.tail q t2 e2
        obtain ⟨hp, g3, w3, z3⟩ := hbothL i _ t2 g2 (pr_and h0 hq) p r e
        have h1 : W (tAnd :: t1) = 3 + W t1 := W_cons _ _
        rw [sz_and] at z3
        exact ⟨hp, g3, by omega, by omega⟩
      · obtain ⟨rfl, rfl⟩ := pair_inj e
        exact ⟨h0, hg, Nat.le_refl _, Nat.le_refl _⟩
    · rw [termG] at e
      split at e
      · rename_i c
        replace e := opt_adv c.1 e
        obtain ⟨t1, rfl, e⟩ := e
        replace e := opt_need e
        obtain ⟨t2, rfl, e⟩ := e
        replace e := thn_some e
        obtain ⟨q, t3, e3, e⟩ := e
        replace e := opt_need e
        obtain ⟨t4, rfl, e⟩ := e
        obtain ⟨hq, g3, w3, z3⟩ := hchoice i t2 hg.tail.tail q _ e3
        obtain ⟨rfl, rfl⟩ := pair_inj e
        have h1 : W (tNot :: tLp :: t2) = 3 + (1 + W t2) := by rw [W_cons, W_cons]; rfl
        have h2 : W (tRp :: t4) = 1 + W t4 := W_cons _ _
        refine ⟨pr_not hq, g3.tail, by omega, ?_⟩
        rw [sz_not]
        omega
      · split at e
        · rename_i c
          replace e := opt_adv c e
          obtain ⟨t2, rfl, e⟩ := e
          replace e := thn_some e
          obtain ⟨q, t3, e3, e⟩ := e
          replace e := opt_need e
          obtain ⟨t4, rfl, e⟩ := e
          obtain ⟨hq, g3, w3, z3⟩ := hchoice i t2 hg.tail q _ e3
          obtain ⟨rfl, rfl⟩ := pair_inj e
          have h1 : W (tLp :: t2) = 1 + W t2 := W_cons _ _
          have h2 : W (tRp :: t4) = 1 + W t4 := W_cons _ _
          have := szT_C q
          exact ⟨hq, g3.tail, by omega, by omega⟩
        · obtain ⟨l, t1, e1, e⟩ := thn_some e
          obtain ⟨hl, g1, w1, z1⟩ := hpath i false ts hg l t1 e1
          obtain ⟨rfl, rfl⟩ := pair_inj e
          have := hg.2
          refine ⟨pr_has hl (by omega), g1, by omega, ?_⟩
          rw [sz_has hl]
          omega
theorem lexQ_W : ∀ (n : Nat) (l : List UInt8), l.length ≤ n → W (lexQ l).1 ≤ l.length := by
  intro n
  induction n with
  | zero =>
    intro l hl
    obtain rfl : l = [] := List.eq_nil_of_length_eq_zero (by omega)
    simp [lexQ, lexL, W]
  | succ n ih =>
    intro l hl
    rw [lexQ_eq]
    split
    · simp [W]
    · cases hk : tokL (l.drop (skipL l)) with
      | none => simp [W]
      | some t0 =>
        obtain ⟨h3, h4, _⟩ := tokL_size hk
        have := ih ((l.drop (skipL l)).drop t0.size) (by simp only [List.length_drop] at h4 ⊢; omega)
        simp only
        rw [W_cons]
        simp only [List.length_drop] at h4 this
        omega
theorem hd_beq (x : Tok) (l : List Tok) (y : Tok) : ((x :: l).head? == some y) = (some x == some y) := rfl
theorem lex_nil : lexQ [] = ([], false) := rfl
theorem np_nil : NP [] := ⟨⟨by simp, by simp⟩, by simp, by simp⟩
theorem print_back {q : ByteArray} {m : List Step} (h : parseQ q = some m) (hq : q.size ≤ 100) : (pathT true m).2 = true ∧ nmSs m ∧ (pathT true m).1.size ≤ 200 ∧ parseQ (pathT true m).1 = some m := by
  obtain ⟨_, hc, hb, t, ha, hp⟩ := parseG_some (parseQ_some h)
  have hl : q.data.toList.length = q.size := by rw [Array.length_toList]; rfl
  have hW := lexQ_W _ q.data.toList (Nat.le_refl _)
  have hG : Gd (lexQ q.data.toList).1 := ⟨lexQ_dg _ q.data.toList (Nat.le_refl _), by omega⟩
  generalize (lexQ q.data.toList).1 = ts at hc ha hp hW hG
  obtain ⟨d, hd⟩ : ∃ d : Bool, ts = sepK d :: t ∧ (ts.head? == some tDs) = d := by
    rcases hc with c | c
    · obtain rfl := adv_tail c ha
      exact ⟨false, rfl, by rw [hd_beq]; decide⟩
    · obtain rfl := adv_tail c ha
      exact ⟨true, rfl, by rw [hd_beq]; decide⟩
  obtain ⟨rfl, hd⟩ := hd
  rw [hd] at hp
  have hWs : W (sepK d :: t) = (sepK d).size + W t := W_cons _ _
  obtain ⟨hL, _, _, hz⟩ := (pr_all 5000).1 0 d t hG.tail m [] hp
  obtain ⟨s, l', rfl, hs, b1, b2, b3, us, g1, ⟨c, us', rfl, hcd⟩, gf, k, hk⟩ := hL
  have e : pathT true (s :: l') = (sepT true d ++ ((stepT s).1 ++ (rowT true l').1), true) := by
    unfold pathT
    rw [if_neg (by simp), rowT_cons, hs, b1, b2, ByteArray.append_assoc]
    cases d <;> rfl
  have hsz : (sepT true d ++ ((stepT s).1 ++ (rowT true l').1)).size ≤ 200 := by
    rw [ByteArray.size_append, ByteArray.size_append]
    have h1 : (sepT true d).size = (sepK d).size := by cases d <;> rfl
    have h2 : (stepT s).1.size + (rowT true l').1.size + 2 * W [] ≤ 2 * W t := hz
    rw [h1]
    omega
  have hlex : lexQ (sepT true d ++ ((stepT s).1 ++ (rowT true l').1)).data.toList = (sepK d :: c :: us', false) := by
    have hr : Lr (sepT true d ++ ((stepT s).1 ++ (rowT true l').1)).data.toList (sepK d :: c :: us') := by
      rw [dataA]
      cases d with
      | true => exact lr_ds g1
      | false => exact lr_sl g1
    have := hr.2 [] (fun c hc => by cases hc)
    rw [List.append_nil, lex_nil, List.append_nil] at this
    exact this
  rw [e]
  refine ⟨rfl, b3, hsz, parseQ_of (k := k) (parseG_of (t := c :: us') (by simp only; omega) (by rw [hlex]; cases d; exact .inl rfl; exact .inr rfl) (by rw [hlex]) (by rw [hlex, adv_cons]) ?_)⟩
  rw [hlex]
  have h1 : ((sepK d :: c :: us').head? == some tDs) = d := by
    rw [hd_beq]; cases d <;> decide
  simp only [h1]
  have := hk [] np_nil
  rwa [List.append_nil] at this
end Go.Proofs.YtoanmoddppmffaaGreatDoor.T
