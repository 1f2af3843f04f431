/- Spaces behind brackets change no sign. -/
import Derived.Test.YtoanmoddppmffaaGreatDoorKJb
namespace Go.Proofs.YtoanmoddppmffaaGreatDoor.T
set_option linter.unusedVariables false
def isBr (c : UInt8) : Bool := c == 91 || c == 93 || c == 40 || c == 41 || c == 64
inductive Sprd : List UInt8 → List UInt8 → Prop
  | nil : Sprd [] []
  | keep (c : UInt8) {s t : List UInt8} (h : Sprd s t) : Sprd (c :: s) (c :: t)
  | ins (c x : UInt8) {s t : List UInt8} (hc : isBr c = true) (hx : isSp x = true) (h : Sprd s t) : Sprd (c :: s) (c :: x :: t)
theorem Sprd.app {a b a' b' : List UInt8} (h : Sprd a b) (h' : Sprd a' b') : Sprd (a ++ a') (b ++ b') := by
  induction h with
  | nil => exact h'
  | keep c _ ih => exact .keep c ih
  | ins c x hc hx _ ih => exact .ins c x hc hx ih
theorem Sprd.refl : ∀ l : List UInt8, Sprd l l
  | [] => .nil
  | c :: l => .keep c (Sprd.refl l)
theorem br_cases {c : UInt8} (h : isBr c = true) : c = 91 ∨ c = 93 ∨ c = 40 ∨ c = 41 ∨ c = 64 := by
  unfold isBr at h
  simp only [Bool.or_eq_true, beq_iff_eq] at h
  rcases h with (((h | h) | h) | h) | h <;> simp [h]
theorem br_sp {c : UInt8} (h : isBr c = true) : isSp c = false := by rcases br_cases h with rfl | rfl | rfl | rfl | rfl <;> decide
theorem br_mo {c : UInt8} (h : isBr c = true) : isMo c = false := by rcases br_cases h with rfl | rfl | rfl | rfl | rfl <;> decide
theorem br_al {c : UInt8} (h : isBr c = true) : isAl c = false := by rcases br_cases h with rfl | rfl | rfl | rfl | rfl <;> decide
theorem br_dg {c : UInt8} (h : isBr c = true) : isDg c = false := by rcases br_cases h with rfl | rfl | rfl | rfl | rfl <;> decide
theorem sprd_skip {s t : List UInt8} (h : Sprd s t) : Sprd (s.drop (skipL s)) (t.drop (skipL t)) := by
  induction h with
  | nil => exact .nil
  | keep c h ih =>
    by_cases hc : isSp c = true
    · simp only [skipL, if_pos hc, List.drop_succ_cons]; exact ih
    · simp only [skipL, if_neg hc, List.drop_zero]; exact .keep c h
  | ins c x hc hx h ih =>
    have hs := br_sp hc
    simp only [skipL, hs, Bool.false_eq_true, if_false, List.drop_zero]
    exact .ins c x hc hx h
theorem sprd_more {s t : List UInt8} (h : Sprd s t) : moreL t = moreL s ∧ t.take (moreL s) = s.take (moreL s) ∧ Sprd (s.drop (moreL s)) (t.drop (moreL s)) := by
  induction h with
  | nil => exact ⟨rfl, rfl, .nil⟩
  | keep c h ih =>
    by_cases hc : isMo c = true
    · simp only [moreL, if_pos hc, List.drop_succ_cons, List.take_succ_cons, ih.1, ih.2.1]; exact ⟨trivial, trivial, ih.2.2⟩
    · simp only [moreL, if_neg hc, List.drop_zero, List.take_zero]; exact ⟨trivial, trivial, .keep c h⟩
  | ins c x hc hx h ih =>
    simp only [moreL, br_mo hc, Bool.false_eq_true, if_false, List.drop_zero, List.take_zero]
    exact ⟨trivial, trivial, .ins c x hc hx h⟩
theorem sprd_dig {s t : List UInt8} (h : Sprd s t) : digL t = digL s ∧ t.take (digL s) = s.take (digL s) ∧ Sprd (s.drop (digL s)) (t.drop (digL s)) := by
  induction h with
  | nil => exact ⟨rfl, rfl, .nil⟩
  | keep c h ih =>
    by_cases hc : isDg c = true
    · simp only [digL, if_pos hc, List.drop_succ_cons, List.take_succ_cons, ih.1, ih.2.1]; exact ⟨trivial, trivial, ih.2.2⟩
    · simp only [digL, if_neg hc, List.drop_zero, List.take_zero]; exact ⟨trivial, trivial, .keep c h⟩
  | ins c x hc hx h ih =>
    simp only [digL, br_dg hc, Bool.false_eq_true, if_false, List.drop_zero, List.take_zero]
    exact ⟨trivial, trivial, .ins c x hc hx h⟩
theorem sprd_name {s t : List UInt8} (h : Sprd s t) : nameL t = nameL s ∧ t.take (nameL s) = s.take (nameL s) ∧ Sprd (s.drop (nameL s)) (t.drop (nameL s)) := by
  cases h with
  | nil => exact ⟨rfl, rfl, .nil⟩
  | keep c h =>
    have ih := sprd_more h
    by_cases hc : isAl c = true
    · simp only [nameL, if_pos hc, List.drop_succ_cons, List.take_succ_cons, ih.1, ih.2.1]; exact ⟨trivial, trivial, ih.2.2⟩
    · simp only [nameL, if_neg hc, List.drop_zero, List.take_zero]; exact ⟨trivial, trivial, .keep c h⟩
  | ins c x hc hx h =>
    simp only [nameL, br_al hc, Bool.false_eq_true, if_false, List.drop_zero, List.take_zero]
    exact ⟨trivial, trivial, .ins c x hc hx h⟩
theorem sign_br {c : UInt8} (l : List UInt8) (h : isBr c = true) : signL (c :: l) = some (bs [c]) := by
  rcases br_cases h with rfl | rfl | rfl | rfl | rfl <;> simp [signL, sigs, tDs, tDd, tSl, tDot, tStar, tAt, tLb, tRb, tLp, tRp, List.isPrefixOf, bs]
theorem sprd_head {s t : List UInt8} (h : Sprd s t) : t.head? = s.head? := by cases h <;> rfl
theorem sign_keep {c : UInt8} {s t : List UInt8} (h : Sprd s t) (hb : isBr c = false) : signL (c :: t) = signL (c :: s) ∧ ∀ k, signL (c :: s) = some k → Sprd ((c :: s).drop k.size) ((c :: t).drop k.size) := by
  have hh := sprd_head h
  have e : signL (c :: t) = signL (c :: s) := by
    cases s with
    | nil => cases t with
      | nil => rfl
      | cons y t => cases hh
    | cons x s => cases t with
      | nil => cases hh
      | cons y t =>
        obtain rfl : y = x := by simpa using hh
        simp only [signL, sigs, List.find?_cons, List.find?_nil, tDs, tDd, tSl, tDot, tStar, tAt, tLb, tRb, tLp, tRp, List.isPrefixOf]
  refine ⟨e, fun k hk => ?_⟩
  obtain ⟨hm, hp⟩ := signL_mem hk
  have h1 : k.size = 1 ∨ (k.size = 2 ∧ ∃ y r, s = y :: r ∧ isBr y = false) := by
    simp only [sigs, List.mem_cons, List.not_mem_nil, or_false] at hm
    rcases hm with rfl | rfl | rfl | rfl | rfl | rfl | rfl | rfl | rfl | rfl
    · right
      obtain ⟨r, hr⟩ := hp
      injection hr with h1 h2
      exact ⟨rfl, 47, r, h2.symm, by decide⟩
    · right
      obtain ⟨r, hr⟩ := hp
      injection hr with h1 h2
      exact ⟨rfl, 46, r, h2.symm, by decide⟩
    all_goals (left; rfl)
  rcases h1 with h1 | ⟨h1, y, r, rfl, hy⟩
  · rw [h1]; exact h
  · rw [h1]
    cases h with
    | keep _ h => exact h
    | ins _ x hc _ h => rw [hy] at hc; cases hc
theorem lexQ_drop (l : List UInt8) : lexQ (l.drop (skipL l)) = lexQ l := by
  have hs : ∀ l : List UInt8, skipL (l.drop (skipL l)) = 0 := by
    intro l
    induction l with
    | nil => rfl
    | cons c l ih =>
      by_cases hc : isSp c = true
      · simp only [skipL, if_pos hc, List.drop_succ_cons]; exact ih
      · simp only [skipL, if_neg hc, List.drop_zero]
  rw [lexQ_eq, lexQ_eq l, hs, List.drop_zero]
theorem lexQ_sp (x : UInt8) (l : List UInt8) (hx : isSp x = true) : lexQ (x :: l) = lexQ l := by
  rw [← lexQ_drop (x :: l), ← lexQ_drop l]
  simp only [skipL, if_pos hx, List.drop_succ_cons]
theorem lex_sprd : ∀ (n : Nat) (s t : List UInt8), s.length ≤ n → Sprd s t → lexQ t = lexQ s := by
  intro n
  induction n with
  | zero =>
    intro s t hl h
    obtain rfl : s = [] := List.eq_nil_of_length_eq_zero (by omega)
    cases h; rfl
  | succ n ih =>
    intro s t hl h
    rw [← lexQ_drop s, ← lexQ_drop t]
    have hd := sprd_skip h
    have hlen : (s.drop (skipL s)).length ≤ n + 1 := by rw [List.length_drop]; omega
    generalize s.drop (skipL s) = d at hd hlen
    generalize t.drop (skipL t) = e at hd
    clear h hl
    have hds := sprd_skip hd
    have hl2 : (d.drop (skipL d)).length ≤ n + 1 := by rw [List.length_drop]; omega
    rw [lexQ_eq d, lexQ_eq e]
    generalize d.drop (skipL d) = a at hds hl2
    generalize e.drop (skipL e) = b at hds
    have key : ∀ k : Tok, 1 ≤ k.size → k.size ≤ a.length → tokL a = some k → tokL b = some k → lexQ (b.drop k.size) = lexQ (a.drop k.size) →
        (if b = [] then (([], false) : List Tok × Bool) else match tokL b with | none => ([], true) | some t => (t :: (lexQ (b.drop t.size)).1, (lexQ (b.drop t.size)).2)) =
        (if a = [] then ([], false) else match tokL a with | none => ([], true) | some t => (t :: (lexQ (a.drop t.size)).1, (lexQ (a.drop t.size)).2)) := by
      intro k _ _ h1 h2 h3
      have na : a ≠ [] := by rintro rfl; cases h1
      have nb : b ≠ [] := by rintro rfl; cases h2
      rw [if_neg na, if_neg nb, h1, h2]
      simp only
      rw [h3]
    cases hds with
    | nil => rfl
    | keep c h =>
      rename_i s' t'
      have hN := sprd_name (Sprd.keep c h)
      have hD := sprd_dig (Sprd.keep c h)
      by_cases hp : 0 < max (nameL (c :: s')) (digL (c :: s'))
      · have hta : tokL (c :: s') = some (bs ((c :: s').take (max (nameL (c :: s')) (digL (c :: s'))))) := by unfold tokL; rw [if_pos hp]
        have htb : tokL (c :: t') = some (bs ((c :: s').take (max (nameL (c :: s')) (digL (c :: s'))))) := by
          unfold tokL
          rw [hN.1, hD.1, if_pos hp]
          rcases Nat.le_total (nameL (c :: s')) (digL (c :: s')) with hle | hle
          · rw [Nat.max_eq_right hle, hD.2.1]
          · rw [Nat.max_eq_left hle, hN.2.1]
        obtain ⟨q1, q2, _⟩ := tokL_size hta
        refine key _ q1 q2 hta htb (ih _ _ (by rw [List.length_drop]; omega) ?_)
        have hsz : (bs ((c :: s').take (max (nameL (c :: s')) (digL (c :: s'))))).size = max (nameL (c :: s')) (digL (c :: s')) := by
          rw [bs_size, List.length_take]
          have := nameL_le (c :: s')
          have := digL_le (c :: s')
          omega
        rw [hsz]
        rcases Nat.le_total (nameL (c :: s')) (digL (c :: s')) with hle | hle
        · rw [Nat.max_eq_right hle]; exact hD.2.2
        · rw [Nat.max_eq_left hle]; exact hN.2.2
      · have hta : tokL (c :: s') = signL (c :: s') := by unfold tokL; rw [if_neg hp]
        have htb : tokL (c :: t') = signL (c :: t') := by unfold tokL; rw [hN.1, hD.1, if_neg hp]
        cases hb : isBr c with
        | true =>
          have ea := hta.trans (sign_br s' hb)
          have eb := htb.trans (sign_br t' hb)
          obtain ⟨q1, q2, _⟩ := tokL_size ea
          exact key _ q1 q2 ea eb (ih _ _ (by rw [List.length_drop]; omega) h)
        | false =>
          obtain ⟨e1, e2⟩ := sign_keep h hb
          cases hk : signL (c :: s') with
          | none =>
            rw [if_neg (by simp), if_neg (by simp), hta, htb, e1, hk]
          | some k =>
            have ea := hta.trans hk
            have eb := htb.trans (e1.trans hk)
            obtain ⟨q1, q2, _⟩ := tokL_size ea
            exact key _ q1 q2 ea eb (ih _ _ (by rw [List.length_drop]; omega) (e2 k hk))
    | ins c x hc hx h =>
      rename_i s' t'
      have z1 : ∀ l, max (nameL (c :: l)) (digL (c :: l)) = 0 := fun l => by simp [nameL, digL, br_al hc, br_dg hc]
      have ea : tokL (c :: s') = some (bs [c]) := by unfold tokL; rw [z1, if_neg (by omega), sign_br s' hc]
      have eb : tokL (c :: x :: t') = some (bs [c]) := by unfold tokL; rw [z1, if_neg (by omega), sign_br _ hc]
      obtain ⟨q1, q2, _⟩ := tokL_size ea
      refine key _ q1 q2 ea eb ?_
      have e1 : (c :: x :: t').drop (bs [c]).size = x :: t' := rfl
      have e2 : (c :: s').drop (bs [c]).size = s' := rfl
      rw [e1, e2, lexQ_sp x t' hx]
      exact ih _ _ (by simp only [List.length_cons] at hl2; omega) h
theorem parse_sprd {s t : ByteArray} {m : List Step} (h : Sprd s.data.toList t.data.toList) (hs : parseQ s = some m) (hz : t.size ≤ 299) : parseQ (⟨#[32]⟩ ++ t) = some m := by
  obtain ⟨_, c1, c2, ta, c3, c4⟩ := parseG_some (parseQ_some hs)
  have hd : ((⟨#[32]⟩ : ByteArray) ++ t).data.toList = 32 :: t.data.toList := by simp
  have he : lexQ ((⟨#[32]⟩ : ByteArray) ++ t).data.toList = lexQ s.data.toList := by rw [hd, lexQ_sp 32 _ (by decide), lex_sprd _ _ _ (Nat.le_refl _) h]
  refine parseQ_of (k := 5000) (parseG_of (t := ta) ?_ (by rw [he]; exact c1) (by rw [he]; exact c2) (by rw [he]; exact c3) (by rw [he]; exact c4))
  rw [ByteArray.size_append]
  have : (⟨#[32]⟩ : ByteArray).size = 1 := rfl
  omega
end Go.Proofs.YtoanmoddppmffaaGreatDoor.T
