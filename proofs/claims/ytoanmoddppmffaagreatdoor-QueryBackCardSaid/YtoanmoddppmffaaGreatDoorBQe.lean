/- The reader's small methods: takes, needs, called, named. -/
import Derived.Test.YtoanmoddppmffaaGreatDoorBQd
namespace Go.Proofs.YtoanmoddppmffaaGreatDoor.T
open Go.RowKit Go.Shelf Go.Proofs.YtoanmoddppmffaaGreatDoorW.PrintWords
set_option linter.unusedVariables false
set_option linter.unusedSimpArgs false
theorem StT.below {b : Bool} {w w' : World} {g : Nat} {i : Int} {ts : List Tok} (h : StT b w g i ts) (hb : Below w.heap.size w w') : StT b w' g i ts := by
  obtain ⟨l, s, ho, hl, hd⟩ := h
  exact ⟨l, s, blk_below ho hb, hl, hd⟩
theorem StW.below {w w' : World} {g : Nat} {i : Int} (h : StW w g i) (hb : Below w.heap.size w w') : StW w' g i := blk_below h hb
theorem StO.below {b : Bool} {w w' : World} {g : Nat} {i : Int} {o : Option (List Tok)} (h : StO b w g i o) (hb : Below w.heap.size w w') : StO b w' g i o := by
  cases o with
  | none => exact StW.below h hb
  | some ts => exact StT.below h hb
theorem size_length (s : ByteArray) : s.data.toList.length = s.size := by rw [Array.length_toList]; rfl
theorem StT.open_ {b : Bool} {w : World} {g : Nat} {i : Int} {t : Tok} {ts : List Tok} (h : StT b w g i (t :: ts)) :
    ∃ left rest, w.heap[g]? = some (rdO left t i false) ∧ left.size ≤ 400 ∧ 1 ≤ t.size ∧ t.size ≤ left.size ∧ Dg t ∧ left.data.toList = t.data.toList ++ rest ∧ left.data.toList.drop t.size = rest ∧ lexQ rest = (ts, b) := by
  obtain ⟨left, sign, ho, hl, rfl, h1, hd, rest, he, hx⟩ := h
  have h2 : left.data.toList.drop sign.size = rest := by rw [he, ← size_length sign, List.drop_left]
  refine ⟨left, rest, ho, hl, h1, ?_, hd, he, h2, hx⟩
  have := congrArg List.length he
  rw [List.length_append, size_length, size_length] at this
  omega
theorem next_st (b : Bool) (g : Nat) (i : Int) (t : Tok) (ts : List Tok) (w : World) (h : StT b w g i (t :: ts)) :
    Calls Tryz.prog 19 #[.pointer (some ⟨g, 0, none⟩)] w fun e w' => (∃ v, e = .returned v) ∧ w.grownBy w' (some g) ∧ StO b w' g i (adv b (t :: ts)) := by
  obtain ⟨left, rest, ho, hl, h1, h2, hd, he, hr, hx⟩ := h.open_
  refine (next_any left t i g w ho h2 hl).mono ?_
  rintro e w' ⟨hv, hg, hs⟩
  refine ⟨hv, hg, ?_⟩
  rw [hr, hx] at hs
  cases ts with
  | nil => cases b <;> exact hs
  | cons t' ts => rw [if_neg (by simp)] at hs; exact hs
set_option maxHeartbeats 400000 in
theorem takes_yes (b : Bool) (g : Nat) (i : Int) (t : Tok) (ts : List Tok) (w : World) (h : StT b w g i (t :: ts)) :
    Calls Tryz.prog 43 #[.pointer (some ⟨g, 0, none⟩), .string t] w fun e w' => e = .returned (.bool true) ∧ w.grownBy w' (some g) ∧ StO b w' g i (adv b (t :: ts)) := by
  have hcon := next_st b g i t ts w h
  obtain ⟨left, rest, ho, hl, h1, h2, hd, he, hr, hx⟩ := h.open_
  have c1 : w.cell? ⟨g, 1, none⟩ = some (.string t) := (blk_cell ho 1).trans rfl
  have hne : (t.toList == []) = false := (nonempty_list (fun e => by subst e; exact absurd h1 (by decide))).2
  have hne2 : t.toList.isEmpty = false := (nonempty_list (fun e => by subst e; exact absurd h1 (by decide))).1
  clear hx he hr hd ho h
  go_enter Tryz.func43, Tryz.ntmps43
  go_wp2_with (go_at_call 19; refine hcon.mono ?_; rintro e w' ⟨⟨v, rfl⟩, hg, hs⟩)
  go_ret
  exact ⟨rfl, hg, hs⟩
set_option maxHeartbeats 400000 in
theorem takes_no (g : Nat) (left s t : Tok) (i : Int) (b : Bool) (w : World) (h : w.heap[g]? = some (rdO left s i b)) (hne : s = t → s = ⟨#[]⟩) :
    Calls Tryz.prog 43 #[.pointer (some ⟨g, 0, none⟩), .string t] w fun e w' => e = .returned (.bool false) ∧ w = w' := by
  have c1 : w.cell? ⟨g, 1, none⟩ = some (.string s) := (blk_cell h 1).trans rfl
  clear h
  by_cases hs : s = t
  · subst hs
    obtain rfl := hne rfl
    go_enter Tryz.func43, Tryz.ntmps43
    go_wp2
    go_ret
    exact ⟨rfl, rfl⟩
  · have hb : (s.toList == t.toList) = false := by
      rw [beq_eq_false_iff_ne, toList_data, toList_data]
      exact fun e => hs (bs_ext e)
    go_enter Tryz.func43, Tryz.ntmps43
    go_wp2
    go_ret
    exact ⟨rfl, rfl⟩
theorem takes_st (b : Bool) (g : Nat) (i : Int) (t : Tok) (ts : List Tok) (w : World) (h : StT b w g i ts) (hn : ts.head? ≠ some t) :
    Calls Tryz.prog 43 #[.pointer (some ⟨g, 0, none⟩), .string t] w fun e w' => e = .returned (.bool false) ∧ w = w' := by
  obtain ⟨left, sign, ho, hl, hd⟩ := h
  cases ts with
  | nil => exact takes_no g left sign t i false w ho (fun _ => hd.2)
  | cons t' ts => exact takes_no g left sign t i false w ho (fun e => absurd (by rw [List.head?_cons, ← hd.1, e]) hn)
theorem takes_w (g : Nat) (i : Int) (t : Tok) (w : World) (h : StW w g i) :
    Calls Tryz.prog 43 #[.pointer (some ⟨g, 0, none⟩), .string t] w fun e w' => e = .returned (.bool false) ∧ w = w' := takes_no g _ _ t i true w h (fun _ => rfl)
def NeedsPost (b : Bool) (g : Nat) (i : Int) (o : Option (List Tok)) (w : World) (e : Ending) (w' : World) : Prop := (∃ v, e = .returned v) ∧ w.grownBy w' (some g) ∧ StO b w' g i o
set_option maxHeartbeats 400000 in
theorem needs_any (b : Bool) (g : Nat) (i : Int) (t : Tok) (o : Option (List Tok)) (w : World) (h : StO b w g i o) :
    Calls Tryz.prog 60 #[.pointer (some ⟨g, 0, none⟩), .string t] w (NeedsPost b g i (o.bind (need b t)) w) := by
  cases o with
  | none =>
    have h' : StW w g i := h
    have hcon := takes_w g i t w h'
    have hf := fails_any g _ _ i _ w h'
    clear h h'
    go_enter Tryz.func60, Tryz.ntmps60
    go_wp2_with (first | (go_at_call 43; refine hcon.mono ?_; rintro e w' ⟨rfl, rfl⟩) | (go_at_call 41; refine hf.mono ?_; rintro e w' ⟨⟨v, rfl⟩, hW, hg⟩))
    go_end0
    exact ⟨⟨_, rfl⟩, hg, hW⟩
  | some ts =>
    have h' : StT b w g i ts := h
    by_cases hh : ts.head? = some t
    · obtain ⟨ts', rfl⟩ : ∃ ts', ts = t :: ts' := by
        cases ts with
        | nil => simp at hh
        | cons a l => simp at hh; exact ⟨l, by rw [hh]⟩
      have hcon := takes_yes b g i t ts' w h'
      have e1 : (some (t :: ts')).bind (need b t) = adv b (t :: ts') := by simp [need]
      rw [e1]
      clear h h' hh e1
      go_enter Tryz.func60, Tryz.ntmps60
      go_wp2_with (go_at_call 43; refine hcon.mono ?_; rintro e w' ⟨rfl, hg, hs⟩)
      go_end0
      exact ⟨⟨_, rfl⟩, hg, hs⟩
    · have hcon := takes_st b g i t ts w h' hh
      obtain ⟨left, sign, ho, _⟩ := h'
      have hf := fails_any g _ _ i _ w ho
      have e1 : (some ts).bind (need b t) = none := by simp [need, hh]
      rw [e1]
      clear h hh e1 ho
      go_enter Tryz.func60, Tryz.ntmps60
      go_wp2_with (first | (go_at_call 43; refine hcon.mono ?_; rintro e w' ⟨rfl, rfl⟩) | (go_at_call 41; refine hf.mono ?_; rintro e w' ⟨⟨v, rfl⟩, hW, hg⟩))
      go_end0
      exact ⟨⟨_, rfl⟩, hg, hW⟩
end Go.Proofs.YtoanmoddppmffaaGreatDoor.T
