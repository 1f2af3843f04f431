/- Two texts, one behind the other: the signs of both, the steps of both. -/
import Derived.Test.YtoanmoddppmffaaGreatDoorBJa
import Derived.Test.YtoanmoddppmffaaGreatDoorBRk
namespace Go.Proofs.YtoanmoddppmffaaGreatDoor.T
set_option linter.unusedVariables false
def Stop (r : List UInt8) : Prop := ∀ c, r.head? = some c → isMo c = false
theorem more_app : ∀ (l r : List UInt8), Stop r → moreL (l ++ r) = moreL l
  | [], [], _ => rfl
  | [], c :: r, h => by simp only [List.nil_append, moreL, h c rfl]; rfl
  | c :: l, r, h => by simp only [List.cons_append, moreL, more_app l r h]
theorem dig_app : ∀ (l r : List UInt8), Stop r → digL (l ++ r) = digL l
  | [], [], _ => rfl
  | [], c :: r, h => by
    have : isDg c = false := by
      have h := h c rfl
      unfold isMo at h
      simp only [Bool.or_eq_false_iff] at h
      exact h.1.1.2
    simp only [List.nil_append, digL, this]; rfl
  | c :: l, r, h => by simp only [List.cons_append, digL, dig_app l r h]
theorem name_app (l r : List UInt8) (hl : l ≠ []) (h : Stop r) : nameL (l ++ r) = nameL l := by
  cases l with
  | nil => exact absurd rfl hl
  | cons c l => simp only [List.cons_append, nameL, more_app l r h]
theorem stop_dot {r : List UInt8} {c : UInt8} (h : Stop r) (hc : r.head? = some c) : c ≠ 46 := by
  rintro rfl
  exact absurd (h 46 hc) (by decide)
theorem sign_app (c : UInt8) (l r : List UInt8) (h : Stop r) (hc : l = [] → c ≠ 47) : signL (c :: l ++ r) = signL (c :: l) := by
  cases l with
  | nil =>
    have hc := hc rfl
    cases r with
    | nil => rfl
    | cons x r =>
      have hx := stop_dot h rfl
      simp only [signL, sigs, List.find?_cons, tDs, tDd, tSl, tDot, tStar, tAt, tLb, tRb, tLp, tRp, List.isPrefixOf, List.cons_append, List.nil_append]
      have e1 : ((47 : UInt8) == c) = false := by simpa using fun e => hc e.symm
      have e2 : ((46 : UInt8) == x) = false := by simpa using fun e => hx e.symm
      simp [e1, e2]
  | cons x l => simp only [signL, sigs, List.find?_cons, List.find?_nil, tDs, tDd, tSl, tDot, tStar, tAt, tLb, tRb, tLp, tRp, List.isPrefixOf, List.cons_append]
theorem tok_app (d r : List UInt8) (hd : d ≠ []) (h : Stop r) (hs : tokL d = some tSl → d ≠ [47]) : tokL (d ++ r) = tokL d := by
  unfold tokL
  rw [name_app d r hd h, dig_app d r h]
  have h1 := nameL_le d
  have h2 := digL_le d
  by_cases hp : 0 < max (nameL d) (digL d)
  · rw [if_pos hp, if_pos hp, List.take_append_of_le_length (by omega)]
  · rw [if_neg hp, if_neg hp]
    cases d with
    | nil => exact absurd rfl hd
    | cons c l =>
      refine sign_app c l r h ?_
      rintro rfl rfl
      exact hs (by decide) rfl
theorem parseG_some {k : Nat} {q : ByteArray} {l : List Step} (h : parseG k q = some (some l)) : q.size ≤ 300 ∧ Cn (lexQ q.data.toList).1 ∧ (lexQ q.data.toList).2 = false ∧
    ∃ t, adv false (lexQ q.data.toList).1 = some t ∧ pathG false k 0 ((lexQ q.data.toList).1.head? == some tDs) t = some (some (l, [])) := by
  have hb : (lexQ q.data.toList).2 = false := by
    cases hb : (lexQ q.data.toList).2 with
    | false => rfl
    | true => cases parse_bad h hb
  unfold parseG at h
  split at h
  · cases h
  rename_i hs
  simp only [hb] at h
  split at h
  · rename_i hc
    refine ⟨by omega, hc, hb, ?_⟩
    cases ha : adv false (lexQ q.data.toList).1 with
    | none => rw [ha] at h; cases h
    | some t =>
      rw [ha] at h
      simp only at h
      refine ⟨t, rfl, ?_⟩
      cases hp : pathG false k 0 ((lexQ q.data.toList).1.head? == some tDs) t with
      | none => rw [hp] at h; cases h
      | some o =>
        rw [hp] at h
        match o, h with
        | none, h => cases h
        | some (l', t2), h =>
          simp only at h
          split at h
          · rename_i ht
            subst ht
            obtain rfl := Option.some.inj (Option.some.inj h)
            rfl
          · cases h
  · cases h
theorem parseG_of {k : Nat} {q : ByteArray} {l : List Step} {t : List Tok} (hz : q.size ≤ 300) (hc : Cn (lexQ q.data.toList).1) (hb : (lexQ q.data.toList).2 = false) (ha : adv false (lexQ q.data.toList).1 = some t)
    (hp : pathG false k 0 ((lexQ q.data.toList).1.head? == some tDs) t = some (some (l, []))) : parseG k q = some (some l) := by
  unfold parseG
  rw [if_neg (by omega)]
  simp only [hb]
  rw [if_pos (show _ ∨ _ from hc), ha]
  simp only [hp, if_true]
theorem parseQ_some {q : ByteArray} {l : List Step} (h : parseQ q = some l) : parseG 5000 q = some (some l) := by rw [parseQ_eq, h]
theorem parseQ_of {k : Nat} {q : ByteArray} {l : List Step} (h : parseG k q = some (some l)) : parseQ q = some l := by
  obtain ⟨hz, hc, hb, t, ha, hp⟩ := parseG_some h
  have h1 := parseG_of hz hc hb ha (le_up (f := fun k => pathG false k 0 ((lexQ q.data.toList).1.head? == some tDs) t) (fun k => (more false k).1 0 _ t) (Nat.le_max_left k 5000) _ hp)
  cases hq : parseQ q with
  | none =>
    have h2 := parseQ_eq q
    rw [hq] at h2
    unfold parseG at h2
    rw [if_neg (by omega)] at h2
    simp only [hb] at h2
    rw [if_pos (show _ ∨ _ from hc), ha] at h2
    simp only at h2
    cases hp2 : pathG false 5000 0 ((lexQ q.data.toList).1.head? == some tDs) t with
    | none => rw [hp2] at h2; cases h2
    | some o =>
      have h3 := le_up (f := fun k => pathG false k 0 ((lexQ q.data.toList).1.head? == some tDs) t) (fun k => (more false k).1 0 _ t) (Nat.le_max_right k 5000) _ hp2
      have h4 := le_up (f := fun k => pathG false k 0 ((lexQ q.data.toList).1.head? == some tDs) t) (fun k => (more false k).1 0 _ t) (Nat.le_max_left k 5000) _ hp
      rw [h4] at h3
      obtain rfl := Option.some.inj h3
      rw [hp2] at h2
      simp at h2
  | some m =>
    obtain ⟨_, _, _, t', ha', hp'⟩ := parseG_some (parseQ_some hq)
    rw [ha] at ha'
    obtain rfl := Option.some.inj ha'
    have h3 := le_up (f := fun k => pathG false k 0 ((lexQ q.data.toList).1.head? == some tDs) t) (fun k => (more false k).1 0 _ t) (Nat.le_max_right k 5000) _ hp'
    have h4 := le_up (f := fun k => pathG false k 0 ((lexQ q.data.toList).1.head? == some tDs) t) (fun k => (more false k).1 0 _ t) (Nat.le_max_left k 5000) _ hp
    rw [h4] at h3
    obtain ⟨rfl, _⟩ := Prod.mk.inj (Option.some.inj (Option.some.inj h3))
    rfl
end Go.Proofs.YtoanmoddppmffaaGreatDoor.T
