/- The reader's small methods: takes, needs, called, named. -/
import Derived.Test.YtoanmoddppmffaaGreatDoorXQd
namespace Go.Proofs.YtoanmoddppmffaaGreatDoor.T
open Go.RowKit Go.Shelf Go.Proofs.YtoanmoddppmffaaGreatDoorW.PrintWords
set_option linter.unusedVariables false
set_option linter.unusedSimpArgs false
theorem StT.below {b : Bool} {w w' : World} {g : Nat} {i : Int} {ts : List Tok} (h : StT b w g i ts) (hb : Below w.heap.size w w') : StT b w' g i ts := by
  obtain ⟨l, s, ho, hl, hd⟩ := h
  exact ⟨l, s, blk_below ho hb, hl, hd⟩
theorem StW.below {w w' : World} {g : Nat} {i : Int} (h : StW w g i) (hb : Below w.heap.size w w') : StW w' g i := blk_below h hb
theorem StO.below {b : Bool} {w w' : World} {g : Nat} {i : Int} {o : Option (List Tok)} (h : StO b w g i o) (hb : Below w.heap.size w w') : StO b w' g i o := by
  cases o with
  | none => exact StW.below h hb
  | some ts => exact StT.below h hb
theorem size_length (s : ByteArray) : s.data.toList.length = s.size := by rw [Array.length_toList]; rfl
theorem StT.open_ {b : Bool} {w : World} {g : Nat} {i : Int} {t : Tok} {ts : List Tok} (h : StT b w g i (t :: ts)) :
    ∃ left rest, w.heap[g]? = some (rdO left t i false) ∧ left.size ≤ 400 ∧ 1 ≤ t.size ∧ t.size ≤ left.size ∧ Dg t ∧ left.data.toList = t.data.toList ++ rest ∧ left.data.toList.drop t.size = rest ∧ lexQ rest = (ts, b) := by
  obtain ⟨left, sign, ho, hl, rfl, h1, hd, rest, he, hx⟩ := h
  have h2 : left.data.toList.drop sign.size = rest := by rw [he, ← size_length sign, List.drop_left]
  refine ⟨left, rest, ho, hl, h1, ?_, hd, he, h2, hx⟩
  have := congrArg List.length he
  rw [List.length_append, size_length, size_length] at this
  omega
theorem next_st (b : Bool) (g : Nat) (i : Int) (t : Tok) (ts : List Tok) (w : World) (h : StT b w g i (t :: ts)) :
    Calls Tryz.prog 19 #[.pointer (some ⟨g, 0, none⟩)] w fun e w' => (∃ v, e = .returned v) ∧ w.grownBy w' (some g) ∧ StO b w' g i (adv b (t :: ts)) := by
  obtain ⟨left, rest, ho, hl, h1, h2, hd, he, hr, hx⟩ := h.open_
  refine (next_any left t i g w ho h2 hl).mono ?_
  rintro e w' ⟨hv, hg, hs⟩
  refine ⟨hv, hg, ?_⟩
  rw [hr, hx] at hs
  cases ts with
  | nil => cases b <;> exact hs
  | cons t' ts => rw [if_neg (by simp)] at hs; exact hs
set_option maxHeartbeats 400000 in
theorem takes_yes (b : Bool) (g : Nat) (i : Int) (t : Tok) (ts : List Tok) (w : World) (h : StT b w g i (t :: ts)) :
    Calls Tryz.prog 43 #[.pointer (some ⟨g, 0, none⟩), .string t] w fun e w' => e = .returned (.bool true) ∧ w.grownBy w' (some g) ∧ StO b w' g i (adv b (t :: ts)) := by
  have hcon := next_st b g i t ts w h
  obtain ⟨left, rest, ho, hl, h1, h2, hd, he, hr, hx⟩ := h.open_
  have c1 : w.cell? ⟨g, 1, none⟩ = some (.string t) := (blk_cell ho 1).trans rfl
  have hne : (t.toList == []) = false := (nonempty_list (fun e => by subst e; exact absurd h1 (by decide))).2
  have hne2 : t.toList.isEmpty = false := (nonempty_list (fun e => by subst e; exact absurd h1 (by decide))).1
  clear hx he hr hd ho h
  go_enter Tryz.func43, Tryz.ntmps43
  go_wp2_with (go_at_call 19; refine hcon.mono ?_; rintro e w' ⟨⟨v, rfl⟩, hg, hs⟩)
  go_ret
  exact ⟨rfl, hg, hs⟩
set_option maxHeartbeats 400000 in
theorem takes_no (g : Nat) (left s t : Tok) (i : Int) (b : Bool) (w : World) (h : w.heap[g]? = some (rdO left s i b)) (hne : s = t → s = ⟨#[]⟩) :
    Calls Tryz.prog 43 #[.pointer (some ⟨g, 0, none⟩), .string t] w fun e w' => e = .returned (.bool false) ∧ w = w' := by
  have c1 : w.cell? ⟨g, 1, none⟩ = some (.string s) := (blk_cell h 1).trans rfl
  clear h
  by_cases hs : s = t
  · subst hs
    obtain rfl := hne rfl
    go_enter Tryz.func43, Tryz.ntmps43
    go_wp2
    go_ret
    exact ⟨rfl, rfl⟩
  · have hb : (s.toList == t.toList) = false := by
      rw [beq_eq_false_iff_ne, toList_data, toList_data]
      exact fun e => hs (bs_ext e)
    go_enter Tryz.func43, Tryz.ntmps43
    go_wp2
    go_ret
    exact ⟨rfl, rfl⟩
theorem takes_st (b : Bool) (g : Nat) (i : Int) (t : Tok) (ts : List Tok) (w : World) (h : StT b w g i ts) (hn : ts.head? ≠ some t) :
    Calls Tryz.prog 43 #[.pointer (some ⟨g, 0, none⟩), .string t] w fun e w' => e = .returned (.bool false) ∧ w = w' := by
  obtain ⟨left, sign, ho, hl, hd⟩ := h
  cases ts with
  | nil => exact takes_no g left sign t i false w ho (fun _ => hd.2)
  | cons t' ts => exact takes_no g left sign t i false w ho (fun e => absurd (by rw [List.head?_cons, ← hd.1, e]) hn)
theorem takes_w (g : Nat) (i : Int) (t : Tok) (w : World) (h : StW w g i) :
    Calls Tryz.prog 43 #[.pointer (some ⟨g, 0, none⟩), .string t] w fun e w' => e = .returned (.bool false) ∧ w = w' := takes_no g _ _ t i true w h (fun _ => rfl)
def NeedsPost (b : Bool) (g : Nat) (i : Int) (o : Option (List Tok)) (w : World) (e : Ending) (w' : World) : Prop := (∃ v, e = .returned v) ∧ w.grownBy w' (some g) ∧ StO b w' g i o
set_option maxHeartbeats 400000 in
theorem needs_any (b : Bool) (g : Nat) (i : Int) (t : Tok) (o : Option (List Tok)) (w : World) (h : StO b w g i o) :
    Calls Tryz.prog 60 #[.pointer (some ⟨g, 0, none⟩), .string t] w (NeedsPost b g i (o.bind (need b t)) w) := by
  cases o with
  | none =>
    have h' : StW w g i := h
    have hcon := takes_w g i t w h'
    have hf := fails_any g _ _ i _ w h'
    clear h h'
    go_enter Tryz.func60, Tryz.ntmps60
    go_wp2_with (first | (go_at_call 43; refine hcon.mono ?_; rintro e w' ⟨rfl, rfl⟩) | (go_at_call 41; refine hf.mono ?_; rintro e w' ⟨⟨v, rfl⟩, hW, hg⟩))
    go_end0
    exact ⟨⟨_, rfl⟩, hg, hW⟩
  | some ts =>
    have h' : StT b w g i ts := h
    by_cases hh : ts.head? = some t
    · obtain ⟨ts', rfl⟩ : ∃ ts', ts = t :: ts' := by
        cases ts with
        | nil => simp at hh
        | cons a l => simp at hh; exact ⟨l, by rw [hh]⟩
      have hcon := takes_yes b g i t ts' w h'
      have e1 : (some (t :: ts')).bind (need b t) = adv b (t :: ts') := by simp [need]
      rw [e1]
      clear h h' hh e1
      go_enter Tryz.func60, Tryz.ntmps60
      go_wp2_with (go_at_call 43; refine hcon.mono ?_; rintro e w' ⟨rfl, hg, hs⟩)
      go_end0
      exact ⟨⟨_, rfl⟩, hg, hs⟩
    · have hcon := takes_st b g i t ts w h' hh
      obtain ⟨left, sign, ho, _⟩ := h'
      have hf := fails_any g _ _ i _ w ho
      have e1 : (some ts).bind (need b t) = none := by simp [need, hh]
      rw [e1]
      clear h hh e1 ho
      go_enter Tryz.func60, Tryz.ntmps60
      go_wp2_with (first | (go_at_call 43; refine hcon.mono ?_; rintro e w' ⟨rfl, rfl⟩) | (go_at_call 41; refine hf.mono ?_; rintro e w' ⟨⟨v, rfl⟩, hW, hg⟩))
      go_end0
      exact ⟨⟨_, rfl⟩, hg, hW⟩
end Go.Proofs.YtoanmoddppmffaaGreatDoor.T
namespace Go.Proofs.YtoanmoddppmffaaGreatDoor.T
open Go.RowKit Go.Shelf Go.Proofs.YtoanmoddppmffaaGreatDoorW.PrintWords
set_option linter.unusedVariables false
set_option linter.unusedSimpArgs false
theorem tok_of_lp {l : List UInt8} : tokL (40 :: l) = some tLp := by
  unfold tokL
  have h1 : nameL (40 :: l) = 0 := rfl
  have h2 : digL (40 :: l) = 0 := rfl
  rw [h1, h2, if_neg (by decide)]
  unfold signL sigs
  simp [List.find?, tDs, tDd, tSl, tDot, tStar, tAt, tLb, tRb, tLp, tRp, List.isPrefixOf]
theorem lp_next {rest : List UInt8} {ts : List Tok} {b : Bool} (h : lexQ rest = (ts, b)) : [40].isPrefixOf (rest.drop (skipL rest)) = decide (ts.head? = some tLp) := by
  rw [lexQ_eq] at h
  cases hd : rest.drop (skipL rest) with
  | nil =>
    rw [hd, if_pos rfl] at h
    obtain rfl := (Prod.mk.inj h).1
    simp [List.isPrefixOf]
  | cons c l =>
    rw [hd, if_neg (by simp)] at h
    by_cases hc : c = 40
    · subst hc
      rw [tok_of_lp] at h
      obtain rfl := (Prod.mk.inj h).1
      simp [List.isPrefixOf]
    · have e1 : [40].isPrefixOf (c :: l) = false := by simp [List.isPrefixOf]; exact fun e => hc e.symm
      rw [e1]
      symm
      rw [decide_eq_false_iff_not]
      intro hh
      cases ht : tokL (c :: l) with
      | none => rw [ht] at h; obtain rfl := (Prod.mk.inj h).1; simp at hh
      | some t =>
        rw [ht] at h
        obtain rfl := (Prod.mk.inj h).1
        simp only [List.head?_cons, Option.some.injEq] at hh
        subst hh
        have := (tokL_size ht).2.2
        simp only [tLp, List.cons_append, List.nil_append] at this
        exact hc (List.cons.inj this).1
def isCalled (t : Tok) (ts : List Tok) : Bool := decide (ts.head? = some t ∧ ts[1]? = some tLp)
def CalledPost (v : Bool) (w : World) (e : Ending) (w' : World) : Prop := e = .returned (.bool v) ∧ Below w.heap.size w w'
set_option maxHeartbeats 400000 in
theorem called_any (b : Bool) (g : Nat) (i : Int) (t : Tok) (ts : List Tok) (w : World) (h : StT b w g i ts) (hz : 1 ≤ t.size) :
    Calls Tryz.prog 59 #[.pointer (some ⟨g, 0, none⟩), .string t] w (CalledPost (isCalled t ts) w) := by
  by_cases hh : ts.head? = some t
  · obtain ⟨ts', rfl⟩ : ∃ ts', ts = t :: ts' := by
      cases ts with
      | nil => simp at hh
      | cons a l => simp at hh; exact ⟨l, by rw [hh]⟩
    obtain ⟨left, rest, ho, hl, h1, h2, hd, he, hr, hx⟩ := h.open_
    have c0 : w.cell? ⟨g, 0, none⟩ = some (.string left) := (blk_cell ho 0).trans rfl
    have c1 : w.cell? ⟨g, 1, none⟩ = some (.string t) := (blk_cell ho 1).trans rfl
    have HX := Aside0.mk (lp_next hx)
    have e2 : isCalled t (t :: ts') = decide (ts'.head? = some tLp) := by
      unfold isCalled
      cases ts' <;> simp
    have HE := Aside0.mk e2
    have hs' : (t.size : Int) ≤ (left.size : Int) := by omega
    have HB := Aside0.mk (show (left.extract t.size left.size).data.toList = rest by rw [Lib.extract_to_end, hr])
    have hbz : (left.extract t.size left.size).size ≤ 100000 := by simp; omega
    generalize hbe : left.extract t.size left.size = beh at HB hbz
    have HBE := Aside0.mk hbe
    have hsk := skip_any beh w hbz
    rw [HB.out] at hsk
    have hk0 : ((skipL rest : Nat) : Int) ≤ (beh.size : Int) := by have := skipL_le rest; rw [← HB.out, size_length] at this; rw [← HB.out]; omega
    have HP := Aside0.mk (Lib.extract_to_end beh (skipL rest))
    have hp := fun w => Tryz.strings_HasPrefix (beh.extract (skipL rest) beh.size) ⟨#[40]⟩ w
    rw [Lib.extract_to_end, HB.out] at hp
    have hp' : ∀ w, Calls Tryz.prog 38 #[.string (beh.extract (skipL rest) beh.size), .string ⟨#[40]⟩] w fun e w' => e = .returned (.bool (decide (ts'.head? = some tLp))) ∧ w' = w := by
      intro w
      rw [← HX.out]
      exact hp w
    generalize skipL rest = k at *
    clear he hr hd ho h hx hp hh e2
    rw [HE.out]
    go_enter Tryz.func59, Tryz.ntmps59
    go_wp2_with (first | (go_at_call 34; refine hsk.mono ?_; rintro e w' ⟨rfl, hb⟩) | (go_at_call 38; refine (hp' _).mono ?_; rintro e w' ⟨rfl, rfl⟩))
    go_ret
    exact ⟨rfl, hb⟩
  · have e1 : isCalled t ts = false := by simp [isCalled, hh]
    obtain ⟨left, sign, ho, hl, hd⟩ := h
    have hne : ¬ sign = t := by
      intro e
      cases ts with
      | nil => obtain ⟨_, h2⟩ := hd; rw [h2] at e; subst e; exact absurd hz (by decide)
      | cons t' ts => exact hh (by rw [List.head?_cons, ← hd.1, e])
    have hb : (sign.toList == t.toList) = false := by
      rw [beq_eq_false_iff_ne, toList_data, toList_data]
      exact fun e => hne (bs_ext e)
    have c1 : w.cell? ⟨g, 1, none⟩ = some (.string sign) := (blk_cell ho 1).trans rfl
    rw [e1]
    clear e1 hd ho hh hne
    go_enter Tryz.func59, Tryz.ntmps59
    go_wp2
    go_ret
    exact ⟨rfl, Below.refl _ _⟩
set_option maxHeartbeats 400000 in
theorem called_w (g : Nat) (i : Int) (t : Tok) (w : World) (h : StW w g i) (hz : 1 ≤ t.size) :
    Calls Tryz.prog 59 #[.pointer (some ⟨g, 0, none⟩), .string t] w (CalledPost false w) := by
  have hb : ((⟨#[]⟩ : ByteArray).toList == t.toList) = false := by
    rw [beq_eq_false_iff_ne, toList_data, toList_data]
    intro e
    have := congrArg List.length e
    rw [size_length, size_length] at this
    have h0 : (⟨#[]⟩ : ByteArray).size = 0 := rfl
    omega
  have hb2 : (([] : List UInt8) == t.toList) = false := by
    rw [beq_eq_false_iff_ne, toList_data]
    intro e
    have := congrArg List.length e
    rw [size_length, List.length_nil] at this
    omega
  have hb3 : t.toList.isEmpty = false := (nonempty_list (fun e => by subst e; exact absurd hz (by decide))).1
  have c1 : w.cell? ⟨g, 1, none⟩ = some (.string ⟨#[]⟩) := (blk_cell h 1).trans rfl
  clear h
  go_enter Tryz.func59, Tryz.ntmps59
  go_wp2
  go_ret
  exact ⟨rfl, Below.refl _ _⟩
def NamedPost (b : Bool) (g : Nat) (i : Int) (o : Option (ByteArray × List Tok)) (w : World) (e : Ending) (w' : World) : Prop :=
  ∃ s, e = .returned (.string s) ∧ w.grownBy w' (some g) ∧ (match o with | some (nm, ts) => s = nm ∧ StT b w' g i ts | none => StW w' g i)
theorem named_no (b : Bool) (g : Nat) (i : Int) (left s : ByteArray) (x : Bool) (w : World) (ho : w.heap[g]? = some (rdO left s i x)) (hs : s ≠ tStar) (hn : isNm s = false) (hz : s.size ≤ 100000) :
    Calls Tryz.prog 61 #[.pointer (some ⟨g, 0, none⟩)] w (NamedPost b g i none w) := by
  have c1 : w.cell? ⟨g, 1, none⟩ = some (.string s) := (blk_cell ho 1).trans rfl
  have hb : (s.toList == [42]) = false := by
    rw [beq_eq_false_iff_ne, toList_data]
    exact fun e => hs (bs_ext e)
  have hc := cName_any s w hz
  rw [hn] at hc
  have HO := Aside0.mk ho
  clear ho hs hn
  go_enter Tryz.func61, Tryz.ntmps61
  go_wp2_with (first | (go_at_call 45; refine hc.mono ?_; rintro e w1 ⟨rfl, hb1⟩) | (go_at_call 41; refine (fails_any g _ _ i _ _ (blk_below HO.out hb1)).mono ?_; rintro e w2 ⟨⟨v, rfl⟩, hW, hg⟩))
  go_ret
  exact ⟨_, rfl, gb_trans (grown_of_below hb1 _) hg (.inl rfl), hW⟩
theorem named_yes (b : Bool) (g : Nat) (i : Int) (t : Tok) (ts : List Tok) (w : World) (h : StT b w g i (t :: ts)) (hn : t = tStar ∨ isNm t = true) (hz : t.size ≤ 100000) :
    Calls Tryz.prog 61 #[.pointer (some ⟨g, 0, none⟩)] w (NamedPost b g i ((adv b (t :: ts)).map fun r => (t, r)) w) := by
  have key : ∀ (v : Value) (w' : World), v = .string t → w.grownBy w' (some g) → StO b w' g i (adv b (t :: ts)) → NamedPost b g i ((adv b (t :: ts)).map fun r => (t, r)) w (.returned v) w' := by
    rintro v w' rfl hg hs
    refine ⟨t, rfl, hg, ?_⟩
    cases ha : adv b (t :: ts) with
    | none => rw [ha] at hs; exact hs
    | some r => rw [ha] at hs; exact ⟨rfl, hs⟩
  have HK := Aside0.mk key
  clear key
  by_cases hs : t = tStar
  · have hcon := next_st b g i t ts w h
    obtain ⟨left, rest, ho, _⟩ := h.open_
    have c1 : w.cell? ⟨g, 1, none⟩ = some (.string t) := (blk_cell ho 1).trans rfl
    have hb : (t.toList == [42]) = true := by rw [beq_iff_eq, toList_data, hs]; rfl
    clear h ho hn hs
    go_enter Tryz.func61, Tryz.ntmps61
    go_wp2_with (go_at_call 19; refine hcon.mono ?_; rintro e w' ⟨⟨v, rfl⟩, hg, hs⟩)
    go_ret
    exact HK.out _ _ rfl hg hs
  · have hn1 := hn.resolve_left hs
    have hc := cName_any t w hz
    rw [hn1] at hc
    have HN := fun w' (hb : Below w.heap.size w w') => next_st b g i t ts w' (h.below hb)
    obtain ⟨left, rest, ho, _⟩ := h.open_
    have c1 : w.cell? ⟨g, 1, none⟩ = some (.string t) := (blk_cell ho 1).trans rfl
    have hb : (t.toList == [42]) = false := by
      rw [beq_eq_false_iff_ne, toList_data]
      exact fun e => hs (bs_ext e)
    have HN := Aside0.mk HN
    clear h ho hn hs hn1
    go_enter Tryz.func61, Tryz.ntmps61
    go_wp2_with (first | (go_at_call 45; refine hc.mono ?_; rintro e w1 ⟨rfl, hb1⟩) | (go_at_call 19; refine (HN.out _ hb1).mono ?_; rintro e w' ⟨⟨v, rfl⟩, hg, hs⟩))
    go_ret
    exact HK.out _ _ rfl (gb_trans (grown_of_below hb1 _) hg (.inl rfl)) hs
theorem named_any (b : Bool) (g : Nat) (i : Int) (o : Option (List Tok)) (w : World) (h : StO b w g i o) :
    Calls Tryz.prog 61 #[.pointer (some ⟨g, 0, none⟩)] w (NamedPost b g i (o.bind (namedG b)) w) := by
  cases o with
  | none => exact named_no b g i _ _ _ w h (by decide) rfl (by decide)
  | some ts =>
    have h' : StT b w g i ts := h
    cases ts with
    | nil =>
      obtain ⟨left, sign, ho, _, _, rfl⟩ := h'
      exact named_no b g i _ _ _ w ho (by decide) rfl (by decide)
    | cons t ts =>
      have hz : t.size ≤ 400 := by
        obtain ⟨left, rest, _, hl, _, h2, _⟩ := h'.open_
        omega
      by_cases hn : t = tStar ∨ isNm t = true
      · have e1 : (some (t :: ts)).bind (namedG b) = (adv b (t :: ts)).map fun r => (t, r) := by simp only [Option.bind_some, namedG, if_pos hn]
        rw [e1]
        exact named_yes b g i t ts w h' hn (by omega)
      · have e1 : (some (t :: ts)).bind (namedG b) = none := by simp only [Option.bind_some, namedG, if_neg hn]
        rw [e1]
        obtain ⟨left, sign, ho, _, rfl, _⟩ := h'
        exact named_no b g i _ _ _ w ho (fun e => hn (.inl e)) (by cases he : isNm sign with | false => rfl | true => exact absurd (.inr he) hn) (by omega)
end Go.Proofs.YtoanmoddppmffaaGreatDoor.T
