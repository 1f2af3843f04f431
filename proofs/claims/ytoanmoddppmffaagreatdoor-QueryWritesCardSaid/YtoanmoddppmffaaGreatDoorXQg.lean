/- The signs of a query, and what is read off them: plain functions. -/
import Derived.Test.YtoanmoddppmffaaGreatDoorXQa
namespace Go.Proofs.YtoanmoddppmffaaGreatDoor.T
set_option linter.unusedVariables false
abbrev Tok := ByteArray
def bs (l : List UInt8) : ByteArray := ⟨l.toArray⟩
theorem bs_data (l : List UInt8) : (bs l).data.toList = l := rfl
theorem bs_size (l : List UInt8) : (bs l).size = l.length := by simp [bs, ByteArray.size]
def isSp (c : UInt8) : Bool := c == 32 || c == 9 || c == 10 || c == 13
def isDg (c : UInt8) : Bool := 48 ≤ c && c ≤ 57
def isAl (c : UInt8) : Bool := (97 ≤ c && c ≤ 122) || (65 ≤ c && c ≤ 90) || c == 95
def isMo (c : UInt8) : Bool := isAl c || isDg c || c == 45 || c == 46
def skipL : List UInt8 → Nat
  | [] => 0
  | c :: l => if isSp c then skipL l + 1 else 0
def moreL : List UInt8 → Nat
  | [] => 0
  | c :: l => if isMo c then moreL l + 1 else 0
def nameL : List UInt8 → Nat
  | [] => 0
  | c :: l => if isAl c then moreL l + 1 else 0
def digL : List UInt8 → Nat
  | [] => 0
  | c :: l => if isDg c then digL l + 1 else 0
theorem skipL_le : ∀ l, skipL l ≤ l.length
  | [] => Nat.le_refl _
  | c :: l => by simp only [skipL]; split <;> simp [skipL_le l]
theorem moreL_le : ∀ l, moreL l ≤ l.length
  | [] => Nat.le_refl _
  | c :: l => by simp only [moreL]; split <;> simp [moreL_le l]
theorem nameL_le : ∀ l, nameL l ≤ l.length
  | [] => Nat.le_refl _
  | c :: l => by simp only [nameL]; split <;> simp [moreL_le l]
theorem digL_le : ∀ l, digL l ≤ l.length
  | [] => Nat.le_refl _
  | c :: l => by simp only [digL]; split <;> simp [digL_le l]
def tSl : Tok := ⟨#[47]⟩
def tDs : Tok := ⟨#[47, 47]⟩
def tDot : Tok := ⟨#[46]⟩
def tDd : Tok := ⟨#[46, 46]⟩
def tStar : Tok := ⟨#[42]⟩
def tAt : Tok := ⟨#[64]⟩
def tLb : Tok := ⟨#[91]⟩
def tRb : Tok := ⟨#[93]⟩
def tLp : Tok := ⟨#[40]⟩
def tRp : Tok := ⟨#[41]⟩
def tText : Tok := ⟨#[116, 101, 120, 116]⟩
def tNot : Tok := ⟨#[110, 111, 116]⟩
def tAnd : Tok := ⟨#[97, 110, 100]⟩
def tOr : Tok := ⟨#[111, 114]⟩
def sigs : List Tok := [tDs, tDd, tSl, tDot, tStar, tAt, tLb, tRb, tLp, tRp]
def signL (l : List UInt8) : Option Tok := sigs.find? (fun t => t.data.toList.isPrefixOf l)
def tokL (l : List UInt8) : Option Tok :=
  if 0 < max (nameL l) (digL l) then some (bs (l.take (max (nameL l) (digL l)))) else signL l
def lexL : Nat → List UInt8 → List Tok × Bool
  | 0, _ => ([], true)
  | k + 1, l =>
    if l.drop (skipL l) = [] then ([], false) else
      match tokL (l.drop (skipL l)) with
      | none => ([], true)
      | some t => (t :: (lexL k ((l.drop (skipL l)).drop t.size)).1, (lexL k ((l.drop (skipL l)).drop t.size)).2)
def lexQ (l : List UInt8) : List Tok × Bool := lexL (l.length + 1) l
theorem signL_mem {l : List UInt8} {t : Tok} (h : signL l = some t) : t ∈ sigs ∧ t.data.toList <+: l :=
  ⟨List.mem_of_find?_eq_some h, by have := List.find?_some h; simpa using this⟩
theorem sigs_size {t : Tok} (h : t ∈ sigs) : 1 ≤ t.size ∧ t.size ≤ 2 := by
  simp only [sigs, List.mem_cons, List.not_mem_nil, or_false] at h
  rcases h with rfl | rfl | rfl | rfl | rfl | rfl | rfl | rfl | rfl | rfl <;> decide
theorem tokL_size {l : List UInt8} {t : Tok} (h : tokL l = some t) : 1 ≤ t.size ∧ t.size ≤ l.length ∧ l = t.data.toList ++ l.drop t.size := by
  unfold tokL at h
  split at h
  · rename_i hp
    obtain rfl := Option.some.inj h
    have h1 := nameL_le l
    have h2 := digL_le l
    have h3 : max (nameL l) (digL l) ≤ l.length := by omega
    rw [bs_size, bs_data, List.length_take, Nat.min_eq_left h3]
    exact ⟨hp, h3, (List.take_append_drop _ _).symm⟩
  · obtain ⟨h1, h2⟩ := signL_mem h
    obtain ⟨r, rfl⟩ := h2
    have h3 := sigs_size h1
    have h4 : t.data.toList.length = t.size := by rw [Array.length_toList]; rfl
    exact ⟨h3.1, by rw [List.length_append]; omega, by rw [← h4, List.drop_left]⟩
theorem lexL_enough : ∀ (k m : Nat) (l : List UInt8), l.length < k → l.length < m → lexL k l = lexL m l
  | 0, _, _, h, _ => by omega
  | _ + 1, 0, _, _, h => by omega
  | k + 1, m + 1, l, h1, h2 => by
    simp only [lexL]
    split
    · rfl
    · cases ht : tokL (l.drop (skipL l)) with
      | none => rfl
      | some t =>
        obtain ⟨h3, h4, _⟩ := tokL_size ht
        have h5 : ((l.drop (skipL l)).drop t.size).length < l.length := by simp only [List.length_drop] at h4 ⊢; omega
        simp only
        rw [lexL_enough k m _ (by omega) (by omega)]
theorem lexQ_eq (l : List UInt8) : lexQ l = if l.drop (skipL l) = [] then ([], false) else
      match tokL (l.drop (skipL l)) with
      | none => ([], true)
      | some t => (t :: (lexQ ((l.drop (skipL l)).drop t.size)).1, (lexQ ((l.drop (skipL l)).drop t.size)).2) := by
  unfold lexQ
  rw [lexL]
  split
  · rfl
  · cases ht : tokL (l.drop (skipL l)) with
    | none => rfl
    | some t =>
      obtain ⟨h3, h4, _⟩ := tokL_size ht
      have h5 : ((l.drop (skipL l)).drop t.size).length < l.length := by simp only [List.length_drop] at h4 ⊢; omega
      simp only
      rw [lexL_enough l.length (((l.drop (skipL l)).drop t.size).length + 1) _ (by omega) (by omega)]
def Dg (t : Tok) : Prop := 0 < digL t.data.toList → digL t.data.toList = t.size
theorem digL_take : ∀ (l : List UInt8), digL (l.take (digL l)) = digL l
  | [] => rfl
  | c :: l => by
    by_cases h : isDg c = true
    · simp only [digL, if_pos h, List.take_succ_cons, digL_take l]
    · simp only [digL, if_neg h, List.take_zero]
theorem al_dg {c : UInt8} (h : isAl c = true) : isDg c = false := by
  simp only [isAl, isDg, Bool.or_eq_true, Bool.and_eq_true, decide_eq_true_eq, beq_iff_eq, UInt8.le_iff_toNat_le, Bool.and_eq_false_iff, decide_eq_false_iff_not] at h ⊢
  rcases h with (h | h) | rfl
  · right; have : (97 : UInt8).toNat = 97 := rfl; have : (57 : UInt8).toNat = 57 := rfl; omega
  · right; have : (65 : UInt8).toNat = 65 := rfl; have : (57 : UInt8).toNat = 57 := rfl; omega
  · right; decide
theorem name_dig (l : List UInt8) (h : 0 < nameL l) : digL l = 0 := by
  cases l with
  | nil => rfl
  | cons c l =>
    simp only [nameL] at h
    split at h
    · rename_i hc
      simp only [digL, al_dg hc]
      rfl
    · omega
theorem digL_take_name : ∀ (l : List UInt8) (n : Nat), 0 < nameL l → digL (l.take n) = 0
  | [], n, h => by simp [nameL] at h
  | c :: l, 0, h => rfl
  | c :: l, n + 1, h => by
    simp only [nameL] at h
    split at h
    · rename_i hc
      simp only [List.take_succ_cons, digL, al_dg hc]
      rfl
    · omega
theorem tokL_dg {l : List UInt8} {t : Tok} (h : tokL l = some t) : Dg t := by
  intro hd
  unfold tokL at h
  split at h
  · rename_i hp
    obtain rfl := Option.some.inj h
    rw [bs_data] at hd ⊢
    rw [bs_size]
    rcases Nat.eq_zero_or_pos (nameL l) with h0 | h0
    · rw [h0, Nat.zero_max, digL_take, List.length_take]
      have := digL_le l
      omega
    · rw [digL_take_name l _ h0] at hd
      omega
  · obtain ⟨h1, _⟩ := signL_mem h
    simp only [sigs, List.mem_cons, List.not_mem_nil, or_false] at h1
    rcases h1 with rfl | rfl | rfl | rfl | rfl | rfl | rfl | rfl | rfl | rfl <;> revert hd <;> decide
theorem lexQ_dg : ∀ (n : Nat) (l : List UInt8), l.length ≤ n → ∀ t ∈ (lexQ l).1, Dg t ∧ 1 ≤ t.size := by
  intro n
  induction n with
  | zero =>
    intro l hl t ht
    obtain rfl : l = [] := List.eq_nil_of_length_eq_zero (by omega)
    simp [lexQ, lexL] at ht
  | succ n ih =>
    intro l hl t ht
    rw [lexQ_eq] at ht
    split at ht
    · simp at ht
    · cases hk : tokL (l.drop (skipL l)) with
      | none => rw [hk] at ht; simp at ht
      | some t0 =>
        rw [hk] at ht
        obtain ⟨h3, h4, _⟩ := tokL_size hk
        simp only [List.mem_cons] at ht
        rcases ht with rfl | ht
        · exact ⟨tokL_dg hk, h3⟩
        · refine ih _ ?_ t ht
          simp only [List.length_drop] at h4 ⊢
          omega
abbrev Out (α : Type) := Option (Option (α × List Tok))
def Out.then_ {α β : Type} (o : Out α) (f : α → List Tok → Out β) : Out β :=
  match o with
  | none => none
  | some none => some none
  | some (some (x, ts)) => f x ts
def adv (b : Bool) : List Tok → Option (List Tok)
  | [] => some []
  | [_] => if b then none else some []
  | _ :: t :: ts => some (t :: ts)
def need (b : Bool) (t : Tok) (ts : List Tok) : Option (List Tok) := if ts.head? = some t then adv b ts else none
def Opt {α β : Type} (o : Option α) (f : α → Out β) : Out β :=
  match o with
  | none => some none
  | some x => f x
def isNm (t : Tok) : Bool := 0 < t.size && nameL t.data.toList == t.size
def namedG (b : Bool) (ts : List Tok) : Option (ByteArray × List Tok) :=
  match ts with
  | [] => none
  | t :: ts' => if t = tStar ∨ isNm t = true then (adv b (t :: ts')).map fun r => (t, r) else none
def headG (b : Bool) (ts : List Tok) : Option ((Int × ByteArray) × List Tok) :=
  if ts.head? = some tDot then (adv b ts).map fun r => ((4, ⟨#[]⟩), r)
  else if ts.head? = some tDd then (adv b ts).map fun r => ((5, ⟨#[]⟩), r)
  else if ts.head? = some tText ∧ ts[1]? = some tLp then (adv b ts).bind fun t1 => (need b tLp t1).bind fun t2 => (need b tRp t2).map fun r => ((3, ⟨#[]⟩), r)
  else if ts.head? = some tAt then (adv b ts).bind fun t1 => (namedG b t1).map fun r => ((2, r.1), r.2)
  else (namedG b ts).map fun r => ((1, r.1), r.2)
def valL : Nat → List UInt8 → Nat
  | n, [] => n
  | n, c :: l => valL (n * 10 + (c.toNat - 48)) l
def numG (t : Tok) : Option Int := if t.data.toList.head? = some 48 then none else if valL 0 t.data.toList > 9999999 then none else some (valL 0 t.data.toList : Int)
mutual
def pathG (b : Bool) : Nat → Int → Bool → List Tok → Out (List Step)
  | 0, _, _, _ => none
  | k + 1, i, deep, ts => (stepG b k i ts).then_ fun s t1 =>
    if t1.head? = some tSl then Opt (adv b t1) fun t2 => (pathG b k i false t2).then_ fun l t3 => some (some ({ s with deep := deep } :: l, t3))
    else if t1.head? = some tDs then Opt (adv b t1) fun t2 => (pathG b k i true t2).then_ fun l t3 => some (some ({ s with deep := deep } :: l, t3))
    else some (some ([{ s with deep := deep }], t1))
def stepG (b : Bool) : Nat → Int → List Tok → Out Step
  | 0, _, _ => none
  | k + 1, i, ts => Opt (headG b ts) fun h => (predsG b k (i + 1) h.2).then_ fun ps t2 => some (some (⟨false, h.1.1, h.1.2, ps⟩, t2))
def predsG (b : Bool) : Nat → Int → List Tok → Out (List Pred)
  | 0, _, _ => none
  | k + 1, i, ts =>
    if ts.head? = some tLb then
      if i > 2 then some none else Opt (adv b ts) fun t1 => (predG b k i t1).then_ fun p t2 => Opt (need b tRb t2) fun t3 => (predsG b k i t3).then_ fun ps t4 => some (some (p :: ps, t4))
    else some (some ([], ts))
def predG (b : Bool) : Nat → Int → List Tok → Out Pred
  | 0, _, _ => none
  | k + 1, i, ts =>
    match ts with
    | [] => choiceG b k i []
    | t :: ts' => if 0 < digL t.data.toList then Opt (numG t) fun n => Opt (adv b (t :: ts')) fun t1 => some (some (⟨1, n, [], []⟩, t1)) else choiceG b k i (t :: ts')
def choiceG (b : Bool) : Nat → Int → List Tok → Out Pred
  | 0, _, _ => none
  | k + 1, i, ts => (bothG b k i ts).then_ fun p t1 => choiceL b k i p t1
def choiceL (b : Bool) : Nat → Int → Pred → List Tok → Out Pred
  | 0, _, _, _ => none
  | k + 1, i, p, ts => if ts.head? = some tOr then Opt (adv b ts) fun t1 => (bothG b k i t1).then_ fun q t2 => choiceL b k i ⟨4, 0, [], [p, q]⟩ t2 else some (some (p, ts))
def bothG (b : Bool) : Nat → Int → List Tok → Out Pred
  | 0, _, _ => none
  | k + 1, i, ts => (termG b k i ts).then_ fun p t1 => bothL b k i p t1
def bothL (b : Bool) : Nat → Int → Pred → List Tok → Out Pred
  | 0, _, _, _ => none
  | k + 1, i, p, ts => if ts.head? = some tAnd then Opt (adv b ts) fun t1 => (termG b k i t1).then_ fun q t2 => bothL b k i ⟨3, 0, [], [p, q]⟩ t2 else some (some (p, ts))
def termG (b : Bool) : Nat → Int → List Tok → Out Pred
  | 0, _, _ => none
  | k + 1, i, ts =>
    if ts.head? = some tNot ∧ ts[1]? = some tLp then
      Opt (adv b ts) fun t1 => Opt (need b tLp t1) fun t2 => (choiceG b k i t2).then_ fun p t3 => Opt (need b tRp t3) fun t4 => some (some (⟨5, 0, [], [p]⟩, t4))
    else if ts.head? = some tLp then Opt (adv b ts) fun t2 => (choiceG b k i t2).then_ fun p t3 => Opt (need b tRp t3) fun t4 => some (some (p, t4))
    else (pathG b k i false ts).then_ fun l t1 => some (some (⟨2, 0, l, []⟩, t1))
end
def parseG (k : Nat) (q : ByteArray) : Option (Option (List Step)) :=
  if q.size > 300 then some none else
    let ts := (lexQ q.data.toList).1
    let b := (lexQ q.data.toList).2
    if ts.head? = some tSl ∨ ts.head? = some tDs then
      match adv b ts with
      | none => some none
      | some t1 => match pathG b k 0 (ts.head? == some tDs) t1 with
        | none => none
        | some none => some none
        | some (some (l, t2)) => if t2 = [] then some (some l) else some none
    else some none
end Go.Proofs.YtoanmoddppmffaaGreatDoor.T
