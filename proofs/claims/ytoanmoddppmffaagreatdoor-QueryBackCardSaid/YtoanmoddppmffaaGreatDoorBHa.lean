/- The text of what was read, read again, is the same: the signs. -/
import Derived.Test.YtoanmoddppmffaaGreatDoorBKa
import Derived.Test.YtoanmoddppmffaaGreatDoorBFa
namespace Go.Proofs.YtoanmoddppmffaaGreatDoor.T
set_option linter.unusedVariables false
def Lr (b : List UInt8) (ts : List Tok) : Prop := (∀ r, Stop r → Stop (b ++ r)) ∧ ∀ r, Stop r → lexQ (b ++ r) = (ts ++ (lexQ r).1, (lexQ r).2)
def Lx (b : List UInt8) (ts : List Tok) : Prop := (∃ c l, b = c :: l ∧ c ≠ 47) ∧ ∀ r, Stop r → lexQ (b ++ r) = (ts ++ (lexQ r).1, (lexQ r).2)
theorem Lr.nil : Lr [] [] := ⟨fun r h => h, fun r h => rfl⟩
theorem Lx.app {a b : List UInt8} {ts us : List Tok} (h : Lx a ts) (h' : Lr b us) : Lx (a ++ b) (ts ++ us) := by
  refine ⟨?_, fun r hr => ?_⟩
  · obtain ⟨⟨c, l, rfl, hc⟩, _⟩ := h
    exact ⟨c, l ++ b, rfl, hc⟩
  · rw [List.append_assoc, h.2 _ (h'.1 r hr), h'.2 r hr, List.append_assoc]
theorem stop_cons {c : UInt8} {l : List UInt8} (h : isMo c = false) : Stop (c :: l) := fun d hd => by
  obtain rfl := Option.some.inj hd
  exact h
theorem tok_data (t : Tok) : t.data.toList.length = t.size := by rw [Array.length_toList]; rfl
theorem lx_tok {t : Tok} {c : UInt8} {l : List UInt8} (hd : t.data.toList = c :: l) (hs : isSp c = false) (hc : c ≠ 47) (h : tokL t.data.toList = some t) : Lx t.data.toList [t] := by
  refine ⟨⟨c, l, hd, hc⟩, fun r hr => ?_⟩
  have e : tokL (t.data.toList ++ r) = some t := by
    rw [tok_app _ r (by simp [hd]) hr (fun _ e => ?_)]
    · exact h
    · rw [hd] at e
      exact hc (List.cons.inj e).1
  have z : (t.data.toList ++ r).drop (skipL (t.data.toList ++ r)) = t.data.toList ++ r := by
    rw [hd]
    simp only [List.cons_append, skipL, hs, Bool.false_eq_true, if_false, List.drop_zero]
  rw [lexQ_eq, z, if_neg (by simp [hd]), e]
  simp only
  rw [← tok_data t, List.drop_left]
  rfl
theorem lex_br (c : UInt8) (x : List UInt8) (hc : isBr c = true) : lexQ (c :: x) = (bs [c] :: (lexQ x).1, (lexQ x).2) := by
  have e : tokL (c :: x) = some (bs [c]) := by
    unfold tokL
    rw [show max (nameL (c :: x)) (digL (c :: x)) = 0 by simp [nameL, digL, br_al hc, br_dg hc], if_neg (by omega), sign_br x hc]
  have z : (c :: x).drop (skipL (c :: x)) = c :: x := by simp only [skipL, br_sp hc, Bool.false_eq_true, if_false, List.drop_zero]
  rw [lexQ_eq, z, if_neg (by simp), e]
  rfl
theorem lex_sl (x : UInt8) (l : List UInt8) (hx : x ≠ 47) : lexQ (47 :: x :: l) = (tSl :: (lexQ (x :: l)).1, (lexQ (x :: l)).2) := by
  have e : tokL (47 :: x :: l) = some tSl := by
    have e1 : ((47 : UInt8) == x) = false := by simpa using fun e => hx e.symm
    unfold tokL
    rw [show max (nameL (47 :: x :: l)) (digL (47 :: x :: l)) = 0 from rfl, if_neg (by omega)]
    simp [signL, sigs, tDs, tDd, tSl, List.isPrefixOf, e1]
  have z : (47 :: x :: l).drop (skipL (47 :: x :: l)) = 47 :: x :: l := rfl
  rw [lexQ_eq, z, if_neg (by simp), e]
  rfl
theorem lex_ds (l : List UInt8) : lexQ (47 :: 47 :: l) = (tDs :: (lexQ l).1, (lexQ l).2) := by
  have e : tokL (47 :: 47 :: l) = some tDs := by
    unfold tokL
    rw [show max (nameL (47 :: 47 :: l)) (digL (47 :: 47 :: l)) = 0 from rfl, if_neg (by omega)]
    simp [signL, sigs, tDs, List.isPrefixOf]
  have z : (47 :: 47 :: l).drop (skipL (47 :: 47 :: l)) = 47 :: 47 :: l := rfl
  rw [lexQ_eq, z, if_neg (by simp), e]
  rfl
theorem al_sp {c : UInt8} (h : isAl c = true) : isSp c = false ∧ c ≠ 47 := by
  constructor
  · cases hs : isSp c with
    | false => rfl
    | true =>
      unfold isSp at hs
      simp only [Bool.or_eq_true, beq_iff_eq] at hs
      rcases hs with ((rfl | rfl) | rfl) | rfl <;> revert h <;> decide
  · rintro rfl; revert h; decide
theorem dg_sp {c : UInt8} (h : isDg c = true) : isSp c = false ∧ c ≠ 47 := by
  constructor
  · cases hs : isSp c with
    | false => rfl
    | true =>
      unfold isSp at hs
      simp only [Bool.or_eq_true, beq_iff_eq] at hs
      rcases hs with ((rfl | rfl) | rfl) | rfl <;> revert h <;> decide
  · rintro rfl; revert h; decide
theorem tok_all {t : Tok} (h : max (nameL t.data.toList) (digL t.data.toList) = t.size) (h0 : 0 < t.size) : tokL t.data.toList = some t := by
  unfold tokL
  rw [h, if_pos h0, ← tok_data t, List.take_length, bs_of]
theorem lx_name {t : Tok} (h : isNm t = true) : Lx t.data.toList [t] ∧ digL t.data.toList = 0 := by
  unfold isNm at h
  simp only [Bool.and_eq_true, decide_eq_true_eq, beq_iff_eq] at h
  obtain ⟨h0, h1⟩ := h
  have hd := name_dig _ (show 0 < nameL t.data.toList by omega)
  have ht : tokL t.data.toList = some t := tok_all (by rw [hd, h1]; omega) h0
  refine ⟨?_, hd⟩
  cases e : t.data.toList with
  | nil => rw [e] at h1; simp only [nameL] at h1; omega
  | cons c l =>
    have hc : isAl c = true := by
      cases hc : isAl c with
      | true => rfl
      | false => rw [e] at h1; simp only [nameL, hc, Bool.false_eq_true, if_false] at h1; omega
    rw [← e]
    exact lx_tok e (al_sp hc).1 (al_sp hc).2 ht
theorem lx_digits {t : Tok} (h : 0 < digL t.data.toList) (hd : Dg t) : Lx t.data.toList [t] := by
  have h1 := hd h
  have hn : nameL t.data.toList = 0 := by
    rcases Nat.eq_zero_or_pos (nameL t.data.toList) with h2 | h2
    · exact h2
    · have := name_dig _ h2; omega
  have ht : tokL t.data.toList = some t := tok_all (by rw [hn, h1]; omega) (by omega)
  cases e : t.data.toList with
  | nil => rw [e] at h; simp only [digL] at h; omega
  | cons c l =>
    have hc : isDg c = true := by
      cases hc : isDg c with
      | true => rfl
      | false => rw [e] at h; simp only [digL, hc, Bool.false_eq_true, if_false] at h; omega
    rw [← e]
    exact lx_tok e (dg_sp hc).1 (dg_sp hc).2 ht
theorem lx_star : Lx tStar.data.toList [tStar] := lx_tok (c := 42) (l := []) rfl (by decide) (by decide) (by decide)
theorem lx_dot : Lx tDot.data.toList [tDot] := lx_tok (c := 46) (l := []) rfl (by decide) (by decide) (by decide)
theorem lx_dd : Lx tDd.data.toList [tDd] := lx_tok (c := 46) (l := [46]) rfl (by decide) (by decide) (by decide)
theorem lx_and : Lx tAnd.data.toList [tAnd] := (lx_name (by decide)).1
theorem lx_or : Lx tOr.data.toList [tOr] := (lx_name (by decide)).1
theorem lx_not : Lx tNot.data.toList [tNot] := (lx_name (by decide)).1
theorem lx_text : Lx tText.data.toList [tText] := (lx_name (by decide)).1
theorem lx_open {c : UInt8} {b : List UInt8} {ts : List Tok} (hc : isBr c = true) (h : Lx b ts) : Lx (c :: b) (bs [c] :: ts) := by
  refine ⟨⟨c, b, rfl, ?_⟩, fun r hr => ?_⟩
  · rintro rfl; revert hc; decide
  · rw [List.cons_append, lex_br c _ hc, h.2 r hr]
    rfl
theorem lr_open {c : UInt8} {b : List UInt8} {ts : List Tok} (hc : isBr c = true) (h : Lx b ts) : Lr (c :: b) (bs [c] :: ts) := ⟨fun r hr => stop_cons (br_mo hc), (lx_open hc h).2⟩
theorem lr_shut {c : UInt8} (hc : isBr c = true) {b : List UInt8} {ts : List Tok} (h : Lr b ts) : Lr (c :: b) (bs [c] :: ts) := by
  refine ⟨fun r hr => stop_cons (br_mo hc), fun r hr => ?_⟩
  rw [List.cons_append, lex_br c _ hc, h.2 r hr]
  rfl
theorem lr_word {t : Tok} {b : List UInt8} {ts : List Tok} (h : Lx t.data.toList [t]) (h' : Lx b ts) : Lr (32 :: t.data.toList ++ 32 :: b) (t :: ts) := by
  refine ⟨fun r hr => stop_cons (by decide), fun r hr => ?_⟩
  rw [List.cons_append, List.cons_append, lexQ_sp 32 _ (by decide), List.append_assoc, List.cons_append, h.2 _ (stop_cons (by decide)), lexQ_sp 32 _ (by decide), h'.2 r hr]
  rfl
theorem lr_sl {b : List UInt8} {ts : List Tok} (h : Lx b ts) : Lr (47 :: b) (tSl :: ts) := by
  refine ⟨fun r hr => stop_cons (by decide), fun r hr => ?_⟩
  obtain ⟨⟨c, l, rfl, hc⟩, h2⟩ := h
  have h2 := h2 r hr
  rw [List.cons_append] at h2
  rw [List.cons_append, List.cons_append, lex_sl c _ hc, h2]
  rfl
theorem lr_ds {b : List UInt8} {ts : List Tok} (h : Lx b ts) : Lr (47 :: 47 :: b) (tDs :: ts) := by
  refine ⟨fun r hr => stop_cons (by decide), fun r hr => ?_⟩
  rw [List.cons_append, List.cons_append, lex_ds, h.2 r hr]
  rfl
theorem digit_of {c : UInt8} (h : isDg c = true) : 48 ≤ c.toNat ∧ c.toNat ≤ 57 := by
  unfold isDg at h
  simp only [Bool.and_eq_true, decide_eq_true_eq, UInt8.le_iff_toNat_le] at h
  exact h
theorem dec_digit (n : Nat) (c : UInt8) (hn : 0 < n) (hc : isDg c = true) : Lib.decDigits (n * 10 + (c.toNat - 48)) = Lib.decDigits n ++ [c] := by
  have h := digit_of hc
  rw [Lib.decDigits, dif_neg (by omega), show (n * 10 + (c.toNat - 48)) / 10 = n by omega, show 48 + (n * 10 + (c.toNat - 48)) % 10 = c.toNat by omega, UInt8.ofNat_toNat]
theorem valL_cons (n : Nat) (c : UInt8) (l : List UInt8) : valL n (c :: l) = valL (n * 10 + (c.toNat - 48)) l := by cases n <;> rfl
theorem valL_nil (n : Nat) : valL n [] = n := by cases n <;> rfl
theorem dec_val : ∀ (l : List UInt8) (n : Nat), 0 < n → digL l = l.length → Lib.decDigits (valL n l) = Lib.decDigits n ++ l
  | [], n, _, _ => by rw [valL_nil, List.append_nil]
  | c :: l, n, hn, hd => by
    have hc : isDg c = true := by
      cases hc : isDg c with
      | true => rfl
      | false => simp only [digL, hc, Bool.false_eq_true, if_false, List.length_cons] at hd; omega
    have hd' : digL l = l.length := by simp only [digL, hc, if_true, List.length_cons] at hd; omega
    rw [valL_cons, dec_val l _ (by omega) hd', dec_digit n c hn hc, List.append_assoc]
    rfl
theorem dec_all {l : List UInt8} (h : 0 < digL l) (hd : digL l = l.length) (hz : l.head? ≠ some 48) : Lib.decDigits (valL 0 l) = l ∧ 1 ≤ valL 0 l := by
  cases l with
  | nil => simp only [digL] at h; omega
  | cons c l =>
    have hc : isDg c = true := by
      cases hc : isDg c with
      | true => rfl
      | false => simp only [digL, hc, Bool.false_eq_true, if_false] at h; omega
    have hd' : digL l = l.length := by simp only [digL, hc, if_true, List.length_cons] at hd; omega
    have hg := digit_of hc
    have h48 : c.toNat ≠ 48 := by
      intro e
      apply hz
      rw [List.head?_cons]
      congr 1
      exact UInt8.toNat_inj.1 e
    have mono : ∀ (l : List UInt8) (n : Nat), n ≤ valL n l := by
      intro l
      induction l with
      | nil => intro n; rw [valL_nil]; exact Nat.le_refl _
      | cons c l ih => intro n; rw [valL_cons]; exact Nat.le_trans (by omega) (ih _)
    rw [valL_cons]
    refine ⟨?_, Nat.le_trans (by omega) (mono l _)⟩
    rw [dec_val l _ (by omega) hd', Nat.zero_mul, Nat.zero_add, Lib.decDigits, dif_pos (by omega), show 48 + (c.toNat - 48) = c.toNat by omega, UInt8.ofNat_toNat]
    rfl
theorem num_back {t : Tok} {n : Int} (h : 0 < digL t.data.toList) (hd : Dg t) (hn : numG t = some n) : bs (Lib.itoa n) = t ∧ 1 ≤ n ∧ n ≤ 9999999 := by
  unfold numG at hn
  split at hn
  · cases hn
  rename_i hz
  split at hn
  · cases hn
  rename_i hv
  obtain rfl := Option.some.inj hn
  obtain ⟨h1, h2⟩ := dec_all h (by rw [hd h, tok_data]) hz
  refine ⟨?_, by omega, by omega⟩
  unfold Lib.itoa
  rw [if_neg (by omega), Int.toNat_natCast, h1, bs_of]
end Go.Proofs.YtoanmoddppmffaaGreatDoor.T
