/- TreeNodes' plain law: what its function comes to is true, of any tree and any three numbers. -/
import Derived.Test.YtoanmoddppmffaaAPa
import Derived.Test.YtoanmoddppmffaaANx
namespace Go.Proofs.Ytoanmoddppmffaa.T
open Go.RowKit Go.Proofs.YtoanmoddppmffaaW.PrintWords Go.Proofs.YtoanmoddppmffaaW.PrintLast Go.Proofs.YtoanmoddppmffaaW.PrintMore
set_option linter.unusedVariables false
set_option linter.unusedSimpArgs false
theorem up_of {α : Type} {F : Nat → Option α} (h : ∀ k, LeO (F k) (F (k + 1))) {k m : Nat} (hk : k ≤ m) {r : α} (e : F k = some r) : F m = some r := by
  induction m with
  | zero => obtain rfl : k = 0 := by omega
            exact e
  | succ m ih =>
    by_cases hm : k ≤ m
    · exact h m _ (ih hm)
    · obtain rfl : k = m + 1 := by omega
      exact e
theorem hits_take_succ (l0 : List ByteArray) (l1 : List S52) (c : Int) (l : List Int) (m : Nat) (hm : m < l.length) : hits l0 l1 c (l.take (m + 1)) = if symP l0 l1 (rd l m) = c then hits l0 l1 c (l.take m) ++ [rd l m] else hits l0 l1 c (l.take m) := by
  have e : l.take (m + 1) = l.take m ++ [rd l m] := by
    rw [List.take_succ_eq_append_getElem hm, rd_get]
    simp [List.getD, List.getElem?_eq_getElem hm]
  rw [e]
  unfold hits
  rw [List.filter_append]
  by_cases h : symP l0 l1 (rd l m) = c <;> simp [h]
theorem nthOf_snoc (l : List Int) (x q : Int) : nthOf (l ++ [x]) q = if (l.length : Int) = q then x else nthOf l q := by
  unfold nthOf
  simp only [List.length_append, List.length_singleton]
  by_cases h : (l.length : Int) = q
  · rw [if_pos h, if_pos (by omega)]
    subst h
    rw [rd_get]
    simp
  · rw [if_neg h]
    by_cases h2 : 0 ≤ q ∧ q < (l.length : Int)
    · rw [if_pos h2, if_pos (by omega)]
      obtain ⟨n, rfl⟩ := Int.eq_ofNat_of_zero_le h2.1
      have hn : n < l.length := by have := h2.2; omega
      show rd _ ((n : Nat) : Int) = rd _ ((n : Nat) : Int)
      rw [rd_get, rd_get]
      simp [List.getD, List.getElem?_append_left hn]
    · rw [if_neg h2, if_neg (by omega)]
theorem hits_len (l0 : List ByteArray) (l1 : List S52) (c : Int) (l : List Int) : (hits l0 l1 c l).length ≤ l.length := List.length_filter_le _ _
theorem ne_p (s0 : List ByteArray) (s1 : List S52) (i : Int) (m : Nat) (hm : 50 ≤ m) : tree_Parent.f m s0 s1 i = some (parOf s1 i) := by
  obtain ⟨m, rfl⟩ : ∃ m', m = m' + 1 := ⟨m - 1, by omega⟩
  exact parent_tells m s0 s1 i
theorem ne_s (s0 : List ByteArray) (s1 : List S52) (i : Int) (m : Nat) (hm : 50 ≤ m) : tree_Symbol.f m s0 s1 i = some (symP s0 s1 i) := by
  have h3 : 3 ≤ m := by omega
  rw [symP_eq]
  exact up_of (F := fun k => tree_Symbol.f k s0 s1 i) (tree_Symbol.mono s0 s1 i) h3 (symbol_tells s0 s1 i)
theorem ne_r (s0 : List ByteArray) (s1 : List S52) (i : Int) (m : Nat) (hm : 50 ≤ m) : topiaryref15_Symbol.f m s0 s1 i = some (symP s0 s1 i) := by
  have h3 : 3 ≤ m := by omega
  exact up_of (F := fun k => topiaryref15_Symbol.f k s0 s1 i) (topiaryref15_Symbol.mono s0 s1 i) h3 (refSymbol_tells s0 s1 i)
theorem ne_l (s0 : List ByteArray) (s1 : List S52) (i q1 q2 : Int) (h1 : s1.length ≤ 30) (hq0 : -9223372036854775808 ≤ q1) (hq1 : q1 ≤ 9223372036854775807) (m : Nat) (hm : 50 ≤ m) : tree_Labelled.f m s0 s1 i q2 q1 = some (nthOf (hits s0 s1 q2 (kidsOf s1 i)) q1) := by
  have h3 : s1.length + 10 ≤ m := by omega
  have h4 : s1.length < 17592186044416 := by omega
  exact up_of (F := fun k => tree_Labelled.f k s0 s1 i q2 q1) (tree_Labelled.mono s0 s1 i q2 q1) h3 (labelled_tells s0 s1 i q2 q1 h4 hq0 hq1)
theorem nodes_end (s0 : List ByteArray) (s1 : List S52) (i q1 q2 : Int) (h0 : s0.length ≤ 12) (h1 : s1.length ≤ 30) (hq0 : -9223372036854775808 ≤ q1) (hq1 : q1 ≤ 9223372036854775807) (m : Nat) (hm : 60 ≤ m) (lf : Bool) (hlf : lf = leafOf s1 i) :
    topiarylaw15_TreeNodes.j3 m true i (kidsOf s1 i) (nthOf (kidsOf s1 i) q1) (nthOf (hits s0 s1 q2 (kidsOf s1 i)) q1) true lf s0 s1 i q1 q2 = some true := by
  obtain ⟨m, rfl⟩ : ∃ m', m = m' + 1 := ⟨m - 1, by omega⟩
  have hm' : 50 ≤ m := by omega
  have h4 : s1.length < 17592186044416 := by omega
  subst hlf
  rw [topiarylaw15_TreeNodes.j3]
  rw [if_pos (show true = true from rfl), if_pos (show true = true from rfl)]
  unfold tree_Symbols.f
  rw [Option.bind_some, if_pos (Eq.refl _), ne_s s0 s1 i m hm', Option.bind_some, ne_r s0 s1 i m hm', Option.bind_some, if_pos (Eq.refl _), ne_p s0 s1 i m hm', Option.bind_some, refParent_tells, Option.bind_some, if_pos (Eq.refl _),
    degree_tells s0 s1 i h4, Option.bind_some, if_pos (Eq.refl _), child_tells s0 s1 i q1 h4, Option.bind_some, if_pos (Eq.refl _), ne_l s0 s1 i q1 q2 h1 hq0 hq1 m hm', Option.bind_some, if_pos (Eq.refl _), leaf_tells s0 s1 i h4, Option.bind_some, beq_self_eq_true]
theorem nodes_from (s0 : List ByteArray) (s1 : List S52) (i q1 q2 : Int) (h0 : s0.length ≤ 12) (h1 : s1.length ≤ 30) (hq0 : -9223372036854775808 ≤ q1) (hq1 : q1 ≤ 9223372036854775807) :
    ∀ (d j m : Nat), j + d = (kidsOf s1 i).length → d + 62 < m →
      topiarylaw15_TreeNodes.l0 m true i (kidsOf s1 i) (nthOf (kidsOf s1 i) q1) (nthOf (hits s0 s1 q2 ((kidsOf s1 i).take j)) q1) ((hits s0 s1 q2 ((kidsOf s1 i).take j)).length : Int) (j : Int) s0 s1 i q1 q2 = some true
  | 0, j, m, hj, hm => by
    obtain ⟨m, rfl⟩ : ∃ m', m = m' + 1 := ⟨m - 1, by omega⟩
    have hk := kidsOf_length s1 i
    have ht : (kidsOf s1 i).take j = kidsOf s1 i := by rw [List.take_of_length_le (by omega)]
    have hsm : topiaryref02_Same.f m (kidsOf s1 i) (kidsOf s1 i) = some true :=
      up_of (F := fun k => topiaryref02_Same.f k (kidsOf s1 i) (kidsOf s1 i)) (topiaryref02_Same.mono _ _) (by omega : (kidsOf s1 i).length + 1 ≤ m) (same_tells _ (by omega))
    simp only [topiarylaw15_TreeNodes.l0]
    rw [if_neg (by omega), children_tells s0 s1 i (by omega)]
    simp only [Option.bind_some]
    rw [hsm]
    simp only [Option.bind_some, ht]
    by_cases c1 : i ≥ 0
    · rw [if_pos c1]
      by_cases c2 : i < (s1.length : Int)
      · rw [if_pos c2]
        exact nodes_end s0 s1 i q1 q2 h0 h1 hq0 hq1 m (by omega) _ (by simp [leafOf, c1, c2])
      · rw [if_neg c2]
        exact nodes_end s0 s1 i q1 q2 h0 h1 hq0 hq1 m (by omega) _ (by simp [leafOf, c1, c2])
    · rw [if_neg c1]
      exact nodes_end s0 s1 i q1 q2 h0 h1 hq0 hq1 m (by omega) _ (by simp [leafOf, c1])
  | d + 1, j, m, hj, hm => by
    obtain ⟨m, rfl⟩ : ∃ m', m = m' + 1 := ⟨m - 1, by omega⟩
    have hk := kidsOf_length s1 i
    have hlt : j < (kidsOf s1 i).length := by omega
    have hh := hits_len s0 s1 q2 ((kidsOf s1 i).take j)
    have hht : ((kidsOf s1 i).take j).length ≤ 30 := by rw [List.length_take]; omega
    have ih := nodes_from s0 s1 i q1 q2 h0 h1 hq0 hq1 d (j + 1) m (by omega) (by omega)
    have e : ((j : Int) + 1) = ((j + 1 : Nat) : Int) := by omega
    have hr : topiaryref15_Symbol.f m s0 s1 (rd (kidsOf s1 i) j) = some (symP s0 s1 (rd (kidsOf s1 i) j)) :=
      up_of (F := fun k => topiaryref15_Symbol.f k s0 s1 _) (topiaryref15_Symbol.mono s0 s1 _) (by omega : 3 ≤ m) (refSymbol_tells s0 s1 _)
    simp only [topiarylaw15_TreeNodes.l0]
    rw [if_pos (by omega), if_pos (by omega), hr]
    simp only [Option.bind_some]
    rw [hits_take_succ s0 s1 q2 _ j hlt] at ih
    rw [wrap_id (x := (j : Int) + 1) (by omega) (by omega), wrap_id (x := ((hits s0 s1 q2 ((kidsOf s1 i).take j)).length : Int) + 1) (by omega) (by omega), e]
    by_cases c1 : symP s0 s1 (rd (kidsOf s1 i) j) = q2
    · rw [if_pos c1]
      rw [if_pos c1, nthOf_snoc, List.length_append, List.length_singleton] at ih
      have e2 : ((hits s0 s1 q2 ((kidsOf s1 i).take j)).length : Int) + 1 = (((hits s0 s1 q2 ((kidsOf s1 i).take j)).length + 1 : Nat) : Int) := by omega
      rw [e2]
      by_cases c2 : ((hits s0 s1 q2 ((kidsOf s1 i).take j)).length : Int) = q1
      · rw [if_pos c2]
        rw [if_pos c2] at ih
        exact ih
      · rw [if_neg c2]
        rw [if_neg c2] at ih
        exact ih
    · rw [if_neg c1]
      rw [if_neg c1] at ih
      exact ih
theorem nodes_at (l0 : List ByteArray) (l1 : List S52) (i q1 q2 : Int) (hq0 : -9223372036854775808 ≤ q1) (hq1 : q1 ≤ 9223372036854775807) (m : Nat) (hm : m + 2 = 200) : topiarylaw15_TreeNodes.f (m + 2) l0 l1 i q1 q2 = some true := by
  obtain ⟨s0, s1, hs, h0, h1⟩ := small_tells l0 l1
  have hk := kidsOf_length s1 i
  have ha : topiarylaw15_awake.f (m + 2) = some true := by rw [hm]; exact awake_tells
  have hsm : topiarylaw15_small.f (m + 2) l0 l1 = some (s0, s1) := up_of (F := fun k => topiarylaw15_small.f k l0 l1) (topiarylaw15_small.mono l0 l1) (by omega : 100 ≤ m + 2) hs
  have hc : topiaryref15_Children.f (m + 2) s0 s1 i = some (kidsOf s1 i) := up_of (F := fun k => topiaryref15_Children.f k s0 s1 i) (topiaryref15_Children.mono s0 s1 i) (by omega : s1.length + 1 ≤ m + 2) (refChildren_tells s0 s1 i (by omega))
  have hl := nodes_from s0 s1 i q1 q2 h0 h1 hq0 hq1 (kidsOf s1 i).length 0 m (by omega) (by omega)
  have e0 : hits s0 s1 q2 ((kidsOf s1 i).take 0) = [] := rfl
  have en : nthOf [] q1 = -1 := by
    have hz : ¬ (0 ≤ q1 ∧ q1 < (([] : List Int).length : Int)) := fun h => absurd (Int.lt_of_le_of_lt h.1 h.2) (by decide)
    unfold nthOf; rw [if_neg hz]
  rw [e0, en] at hl
  have hl2 : topiarylaw15_TreeNodes.l0 m true i (kidsOf s1 i) (nthOf (kidsOf s1 i) q1) (-1) 0 0 s0 s1 i q1 q2 = some true := hl
  clear hl
  unfold topiarylaw15_TreeNodes.f
  rw [ha]
  simp only [Option.bind_some]
  rw [hsm]
  simp only [Option.bind_some]
  rw [hc]
  simp only [Option.bind_some]
  by_cases c1 : q1 ≥ 0
  · rw [if_pos c1]
    simp only [topiarylaw15_TreeNodes.j0, topiarylaw15_TreeNodes.j1]
    by_cases c2 : q1 < ((kidsOf s1 i).length : Int)
    · have z : nthOf (kidsOf s1 i) q1 = rd (kidsOf s1 i) q1 := by unfold nthOf; rw [if_pos ⟨c1, c2⟩]
      rw [z] at hl2
      rw [if_pos (decide_eq_true c2), if_pos (show 0 ≤ q1 from c1), if_pos c2]
      exact hl2
    · have z : nthOf (kidsOf s1 i) q1 = -1 := by unfold nthOf; rw [if_neg (by omega)]
      rw [z] at hl2
      rw [if_neg (by rw [decide_eq_false c2]; decide)]
      exact hl2
  · rw [if_neg c1]
    have z : nthOf (kidsOf s1 i) q1 = -1 := by unfold nthOf; rw [if_neg (by omega)]
    rw [z] at hl2
    simp only [topiarylaw15_TreeNodes.j0, topiarylaw15_TreeNodes.j1]
    rw [if_neg (by decide)]
    exact hl2
theorem nodes_tells (l0 : List ByteArray) (l1 : List S52) (i q1 q2 : Int) (hq0 : -9223372036854775808 ≤ q1) (hq1 : q1 ≤ 9223372036854775807) : topiarylaw15_TreeNodes.f (198 + 2) l0 l1 i q1 q2 = some true :=
  nodes_at l0 l1 i q1 q2 hq0 hq1 198 rfl
end Go.Proofs.Ytoanmoddppmffaa.T
