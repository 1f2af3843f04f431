/- The text of what was read, read again, is the same: heads, steps, paths. -/
import Derived.Test.YtoanmoddppmffaaGreatDoorBHb
namespace Go.Proofs.YtoanmoddppmffaaGreatDoor.T
set_option linter.unusedVariables false
theorem fst_one {x : Tok} (h : x ≠ tLp) : Fst [x] := fun r hr => by
  refine ⟨fun e => h (Option.some.inj e), fun e => hr ?_⟩
  have := e.2
  cases r with
  | nil => cases this
  | cons y l => exact this
theorem fst_two {x : Tok} {l : List Tok} (h : x ≠ tLp) (h' : x ≠ tNot) : Fst (x :: l) := fun r hr => ⟨fun e => h (Option.some.inj e), fun e => h' (Option.some.inj e.1)⟩
theorem Fst.app {ts us : List Tok} (h : Fst ts) (h' : ∀ r : List Tok, r.head? ≠ some tLp → (us ++ r).head? ≠ some tLp) : Fst (ts ++ us) := fun r hr => by
  rw [List.append_assoc]
  exact h _ (h' r hr)
theorem adv_tail {ts t : List Tok} {x : Tok} (hh : ts.head? = some x) (h : adv false ts = some t) : ts = x :: t := by
  obtain ⟨l, rfl⟩ := head_cons hh
  rw [adv_cons] at h
  rw [Option.some.inj h]
theorem hd_ne {x y : Tok} {l : List Tok} (h : x ≠ y) : ¬ (x :: l).head? = some y := fun e => h (Option.some.inj e)
theorem named_pr {ts r : List Tok} {n : ByteArray} (e : namedG false ts = some (n, r)) : ts = n :: r ∧ (n = tStar ∨ isNm n = true) := by
  cases ts with
  | nil => simp only [namedG] at e; cases e
  | cons t l =>
    simp only [namedG] at e
    split at e
    · rename_i c
      obtain ⟨q, hq, e⟩ := Option.map_eq_some_iff.1 e
      obtain ⟨rfl, rfl⟩ := Prod.mk.inj e
      rw [adv_cons] at hq
      rw [Option.some.inj hq]
      exact ⟨rfl, c⟩
    · cases e
theorem named_of {n : ByteArray} (c : n = tStar ∨ isNm n = true) (r : List Tok) : namedG false (n :: r) = some (n, r) := by
  simp only [namedG]
  rw [if_pos c, adv_cons]
  rfl
theorem lx_nm {n : ByteArray} (c : n = tStar ∨ isNm n = true) : Lx n.data.toList [n] ∧ digL n.data.toList = 0 := by
  rcases c with rfl | c
  · exact ⟨lx_star, by decide⟩
  · exact lx_name c
def HdS (h : Int × ByteArray) (n : Nat) : Prop := h.2.size ≤ 1000 ∧ ∃ b us, headT h.1 h.2 = some b ∧ b.size ≤ n ∧ Lx b.data.toList us ∧ Nd us ∧ Fst us ∧ ∀ q : List Tok, q.head? ≠ some tLp → headG false (us ++ q) = some (h, q)
theorem nd_one {x : Tok} {l : List Tok} (h : digL x.data.toList = 0) : Nd (x :: l) := ⟨x, l, rfl, h⟩
theorem hd_dot : HdS (4, ⟨#[]⟩) 1 := by
  refine ⟨by decide, tDot, [tDot], by simp [headT], by decide, lx_dot, nd_one (by decide), fst_one (by decide), fun q _ => ?_⟩
  show headG false (tDot :: q) = _
  unfold headG
  rw [if_pos List.head?_cons, adv_cons]
  rfl
theorem hd_dd : HdS (5, ⟨#[]⟩) 2 := by
  refine ⟨by decide, tDd, [tDd], by simp [headT], by decide, lx_dd, nd_one (by decide), fst_one (by decide), fun q _ => ?_⟩
  show headG false (tDd :: q) = _
  unfold headG
  rw [if_neg (hd_ne (by decide)), if_pos List.head?_cons, adv_cons]
  rfl
theorem hd_text : HdS (3, ⟨#[]⟩) 6 := by
  refine ⟨by decide, ⟨#[116, 101, 120, 116, 40, 41]⟩, [tText, tLp, tRp], by simp [headT], by decide, lx_text.app (ts := [tText]) (lr_shut (c := 40) (by decide) (lr_shut (c := 41) (by decide) Lr.nil)), nd_one (by decide), fst_two (by decide) (by decide), fun q _ => ?_⟩
  show headG false (tText :: tLp :: tRp :: q) = _
  unfold headG
  rw [if_neg (hd_ne (by decide)), if_neg (hd_ne (by decide)), if_pos ⟨rfl, rfl⟩, adv_cons, Option.bind_some, need_cons, Option.bind_some, need_cons]
  rfl
theorem hd_at {n : ByteArray} (c : n = tStar ∨ isNm n = true) (hz : n.size ≤ 1000) : HdS (2, n) (1 + n.size) := by
  refine ⟨hz, tAt ++ n, [tAt, n], by simp [headT, c], by rw [ByteArray.size_append]; exact Nat.le_refl _, ?_, nd_one (by decide), fst_two (by decide) (by decide), fun q _ => ?_⟩
  · rw [dataA]
    exact lx_open (c := 64) (by decide) (lx_nm c).1
  · show headG false (tAt :: n :: q) = _
    unfold headG
    rw [if_neg (hd_ne (by decide)), if_neg (hd_ne (by decide)), if_neg (fun e => hd_ne (by decide) e.1), if_pos List.head?_cons, adv_cons, Option.bind_some, named_of c]
    rfl
theorem hd_name {n : ByteArray} (c : n = tStar ∨ isNm n = true) (hz : n.size ≤ 1000) (h1 : n ≠ tDot) (h2 : n ≠ tDd) (h3 : n ≠ tAt) (h4 : n ≠ tLp) : HdS (1, n) n.size := by
  refine ⟨hz, n, [n], by simp [headT, c], Nat.le_refl _, (lx_nm c).1, nd_one (lx_nm c).2, fst_one h4, fun q hq => ?_⟩
  show headG false (n :: q) = _
  unfold headG
  have h5 : ¬ ((n :: q).head? = some tText ∧ (n :: q)[1]? = some tLp) := fun e => hq (by
    have := e.2
    cases q with
    | nil => cases this
    | cons y l => exact this)
  rw [if_neg (hd_ne h1), if_neg (hd_ne h2), if_neg h5, if_neg (hd_ne h3), named_of c]
  rfl
theorem HdS.mono {h : Int × ByteArray} {n m : Nat} (hd : HdS h n) (hm : n ≤ m) : HdS h m := by
  obtain ⟨a, b, us, h1, h2, h3⟩ := hd
  exact ⟨a, b, us, h1, Nat.le_trans h2 hm, h3⟩
theorem head_pr {ts r : List Tok} {h : Int × ByteArray} (hg : Gd ts) (e : headG false ts = some (h, r)) : Gd r ∧ 1 + W r ≤ W ts ∧ HdS h (W ts - W r) := by
  unfold headG at e
  split at e
  · rename_i c
    obtain ⟨q, hq, e⟩ := Option.map_eq_some_iff.1 e
    obtain ⟨rfl, rfl⟩ := Prod.mk.inj e
    obtain rfl := adv_tail c hq
    have h1 : W (tDot :: q) = 1 + W q := W_cons _ _
    exact ⟨hg.tail, by omega, hd_dot.mono (by omega)⟩
  rename_i c1
  split at e
  · rename_i c
    obtain ⟨q, hq, e⟩ := Option.map_eq_some_iff.1 e
    obtain ⟨rfl, rfl⟩ := Prod.mk.inj e
    obtain rfl := adv_tail c hq
    have h1 : W (tDd :: q) = 2 + W q := W_cons _ _
    exact ⟨hg.tail, by omega, hd_dd.mono (by omega)⟩
  rename_i c2
  split at e
  · rename_i c
    obtain ⟨t1, h1, e⟩ := Option.bind_eq_some_iff.1 e
    obtain ⟨t2, h2, e⟩ := Option.bind_eq_some_iff.1 e
    obtain ⟨q, hq, e⟩ := Option.map_eq_some_iff.1 e
    obtain ⟨rfl, rfl⟩ := Prod.mk.inj e
    obtain rfl := adv_tail c.1 h1
    obtain rfl := need_some h2
    obtain rfl := need_some hq
    have h1 : W (tText :: tLp :: tRp :: q) = 4 + (1 + (1 + W q)) := by rw [W_cons, W_cons, W_cons]; rfl
    exact ⟨hg.tail.tail.tail, by omega, hd_text.mono (by omega)⟩
  rename_i c3
  split at e
  · rename_i c
    obtain ⟨t1, h1, e⟩ := Option.bind_eq_some_iff.1 e
    obtain ⟨⟨n, q⟩, hq, e⟩ := Option.map_eq_some_iff.1 e
    obtain ⟨rfl, rfl⟩ := Prod.mk.inj e
    obtain rfl := adv_tail c h1
    obtain ⟨rfl, cn⟩ := named_pr hq
    have h1 : W (tAt :: n :: q) = 1 + (n.size + W q) := by rw [W_cons, W_cons]; rfl
    have h2 := hg.tail.head
    exact ⟨hg.tail.tail, by simp only; omega, (hd_at cn h2.2.2).mono (by simp only; omega)⟩
  · rename_i c4
    obtain ⟨⟨n, q⟩, hq, e⟩ := Option.map_eq_some_iff.1 e
    obtain ⟨rfl, rfl⟩ := Prod.mk.inj e
    obtain ⟨rfl, cn⟩ := named_pr hq
    have h1 : W (n :: q) = n.size + W q := W_cons _ _
    have h2 := hg.head
    refine ⟨hg.tail, by simp only; omega, (hd_name cn h2.2.2 (fun e => c1 (by rw [e]; rfl)) (fun e => c2 (by rw [e]; rfl)) (fun e => c4 (by rw [e]; rfl)) ?_).mono (by simp only; omega)⟩
    rintro rfl
    revert cn
    decide
theorem pr_step {i : Int} {h : Int × ByteArray} {n : Nat} {ps : List Pred} (hh : HdS h n) (hp : PrPs (i + 1) ps) : PrS i ⟨false, h.1, h.2, ps⟩ ∧ (stepT ⟨false, h.1, h.2, ps⟩).1.size ≤ n + (predsT ps).1.size := by
  obtain ⟨a1, b, us, h1, h2, h3, hn, hf, h4⟩ := hh
  obtain ⟨b1, b2, vs, g1, g2, k, hk⟩ := hp
  have e : stepT ⟨false, h.1, h.2, ps⟩ = (b ++ (predsT ps).1, (predsT ps).2) := by rw [stepT_eq, h1]
  refine ⟨⟨by rw [e]; exact b1, (nmS_eq _).2 ⟨a1, b2⟩, us ++ vs, ?_, hn.app, hf.app g2, k + 1, fun r hr => ?_⟩, by rw [e, ByteArray.size_append]; omega⟩
  · rw [e, dataA]
    exact h3.app g1
  · rw [stepG, List.append_assoc, h4 _ (g2 r hr.2), opt_yes, hk r hr.1, then_yes]
theorem pr_nil (i : Int) : PrPs i [] := by
  refine ⟨by rw [predsT_nil], by rw [nmPs]; trivial, [], by rw [predsT_nil]; exact Lr.nil, fun r hr => hr, 1, fun r hr => ?_⟩
  rw [List.nil_append, predsG, if_neg hr]
theorem pr_preds {i : Int} {p : Pred} {ps : List Pred} (hi : ¬ i > 2) (hp : PrQ i p) (hps : PrPs i ps) : PrPs i (p :: ps) := by
  obtain ⟨a1, a2, us, a3, k, hk⟩ := hp
  obtain ⟨b1, b2, vs, b3, b4, m, hm⟩ := hps
  refine ⟨by rw [predsT_cons, a1, b1]; rfl, by rw [nmPs]; exact ⟨a2, b2⟩, tLb :: (us ++ tRb :: vs), ?_, fun r _ e => absurd (Option.some.inj e) (by decide), k + m + 1, fun r hr => ?_⟩
  · rw [predsT_cons]
    have : (tLb ++ (predT p).1 ++ tRb ++ (predsT ps).1 : ByteArray).data.toList = 91 :: ((predT p).1.data.toList ++ 93 :: (predsT ps).1.data.toList) := by
      rw [dataA, dataA, dataA]
      show (91 :: (predT p).1.data.toList) ++ [93] ++ _ = _
      simp
    rw [this]
    exact lr_open (c := 91) (by decide) (a3.app (lr_shut (c := 93) (by decide) b3))
  · have e : tLb :: (us ++ tRb :: vs) ++ r = tLb :: (us ++ tRb :: (vs ++ r)) := by simp
    rw [e, predsG, if_pos List.head?_cons, if_neg hi, adv_cons, opt_yes, up_pred (hk (vs ++ r)) (show k ≤ k + m by omega), then_yes, need_cons, opt_yes, up_preds (hm r hr) (show m ≤ k + m by omega), then_yes]
theorem pr_num {i : Int} {t : Tok} {n : Int} (h : 0 < digL t.data.toList) (hd : Dg t) (hn : numG t = some n) : PrQ i ⟨1, n, [], []⟩ ∧ (predT ⟨1, n, [], []⟩).1 = t := by
  obtain ⟨h1, h2, h3⟩ := num_back h hd hn
  have e : predT ⟨1, n, [], []⟩ = (t, true) := by
    unfold predT
    rw [if_neg (by simp), if_neg (by simp only [List.length_nil]; omega), h1]
  refine ⟨⟨by rw [e], ?_, [t], by rw [e]; exact lx_digits h hd, 1, fun r => ?_⟩, by rw [e]⟩
  · rw [nmP]
    exact ⟨⟨Nat.zero_le _, Nat.zero_le _⟩, by rw [nmSs]; trivial, by rw [nmPs]; trivial⟩
  · rw [List.cons_append, List.nil_append, predG, if_pos h, hn, opt_yes, adv_cons, opt_yes]
theorem pr_pred {i : Int} {p : Pred} (h : PrP i p) : PrQ i p ∧ predT p = heldT p := by
  obtain ⟨a1, a2, a3, ts, h1, ⟨c, l, rfl, hc⟩, ⟨k, hk⟩, _⟩ := h
  have e : predT p = heldT p := by unfold predT; rw [if_pos a3]
  refine ⟨⟨by rw [e]; exact a1, a2, c :: l, by rw [e]; exact h1, k + 1 + 1, fun r => ?_⟩, e⟩
  rw [List.cons_append, predG, if_neg (by omega)]
  exact hk (tRb :: r) 1 _ (np_cons (by decide)) (by simp [tRb, tAnd]) (choiceL_end (by simp [tRb, tOr]))
def sepK (d : Bool) : Tok := if d then tDs else tSl
theorem step_deep (s : Step) (d : Bool) : stepT ⟨d, s.axis, s.name, s.preds⟩ = stepT s := by rw [stepT_eq, stepT_eq]
theorem pr_one {i : Int} {d : Bool} {s : Step} (hs : PrS i s) : PrL i d [⟨d, s.axis, s.name, s.preds⟩] := by
  obtain ⟨a1, a2, ts, h1, hn, hf, k, hk⟩ := hs
  refine ⟨_, [], rfl, rfl, by rw [step_deep]; exact a1, by rw [rowT_nil], ?_, ts, ?_, hn, hf, k + 1, fun r hr => ?_⟩
  · rw [nmSs, nmSs]
    exact ⟨(nmS_eq _).2 ((nmS_eq s).1 a2), trivial⟩
  · rw [step_deep, rowT_nil, dataA]
    show Lx ((stepT s).1.data.toList ++ []) ts
    rw [List.append_nil]
    exact h1
  · rw [pathG, hk r hr.1, then_yes, if_neg hr.2.1, if_neg hr.2.2]
theorem pr_cons {i : Int} {d d' : Bool} {s : Step} {l : List Step} (hs : PrS i s) (hl : PrL i d' l) : PrL i d (⟨d, s.axis, s.name, s.preds⟩ :: l) := by
  obtain ⟨a1, a2, ts, h1, hn, hf, k, hk⟩ := hs
  obtain ⟨s', l', rfl, hd, b1, b2, b3, us, g1, gn, gf, m, hm⟩ := hl
  refine ⟨_, s' :: l', rfl, rfl, by rw [step_deep]; exact a1, by rw [rowT_cons, b1, b2]; cases s'.deep <;> rfl, ?_, ts ++ sepK d' :: us, ?_, hn.app, hf.app (fun r _ e => ?_), k + m + 1, fun r hr => ?_⟩
  · rw [nmSs]
    exact ⟨(nmS_eq _).2 ((nmS_eq s).1 a2), b3⟩
  · rw [step_deep, rowT_cons, hd, ByteArray.append_assoc, dataA, dataA]
    refine h1.app ?_
    cases d' with
    | true => exact lr_ds g1
    | false => exact lr_sl g1
  · rw [List.cons_append] at e
    have := Option.some.inj e
    cases d' <;> revert this <;> decide
  · have e : ts ++ sepK d' :: us ++ r = ts ++ sepK d' :: (us ++ r) := by simp
    have hb : NB (sepK d' :: (us ++ r)) := by
      constructor <;> intro e <;> have := Option.some.inj e <;> cases d' <;> revert this <;> decide
    rw [e, show k + m + 1 = (k + m) + 1 by omega, pathG, up_step (hk _ hb) (show k ≤ k + m by omega), then_yes]
    cases d' with
    | false =>
      rw [show sepK false = tSl from rfl, if_pos List.head?_cons, adv_cons, opt_yes, up_path (hm r hr) (show m ≤ k + m by omega), then_yes]
    | true =>
      rw [show sepK true = tDs from rfl, if_neg (hd_ne (by decide)), if_pos List.head?_cons, adv_cons, opt_yes, up_path (hm r hr) (show m ≤ k + m by omega), then_yes]
def szL (l : List Step) : Nat :=
  match l with
  | [] => 0
  | s :: l' => (stepT s).1.size + (rowT true l').1.size
theorem sz_one {d : Bool} (s : Step) : szL [⟨d, s.axis, s.name, s.preds⟩] = (stepT s).1.size := by
  show (stepT _).1.size + (rowT true []).1.size = _
  rw [step_deep, rowT_nil]
  rfl
theorem sz_cons {d d' : Bool} {s : Step} {l : List Step} {i : Int} (hl : PrL i d' l) : szL (⟨d, s.axis, s.name, s.preds⟩ :: l) = (stepT s).1.size + (sepK d').size + szL l := by
  obtain ⟨s', l', rfl, hd, _⟩ := hl
  show (stepT _).1.size + (rowT true (s' :: l')).1.size = _ + _ + ((stepT s').1.size + (rowT true l').1.size)
  rw [step_deep, rowT_cons, hd, ByteArray.size_append, ByteArray.size_append]
  have : (sepT true d').size = (sepK d').size := by cases d' <;> rfl
  rw [this]
  omega
theorem sz_held {i : Int} {l : List Step} (hl : PrL i false l) : (heldT ⟨2, 0, l, []⟩).1.size = szL l := by
  obtain ⟨s, l', rfl, hd, _⟩ := hl
  rw [held_has (by simp), row_first hd, ByteArray.size_append]
  rfl
theorem sz_in (b : Bool) (s : ByteArray) : (inP b s).size = s.size + (if b then 2 else 0) := by
  cases b with
  | true => show (tLp ++ s ++ tRp).size = _; rw [ByteArray.size_append, ByteArray.size_append]; show 1 + s.size + 1 = _; simp; omega
  | false => rfl
end Go.Proofs.YtoanmoddppmffaaGreatDoor.T
