/- TreeParts' plain law. -/
import Derived.Test.YtoanmoddppmffaaGPg
import Derived.Test.YtoanmoddppmffaaGPq
import Derived.Test.YtoanmoddppmffaaGRx
namespace Go.Proofs.Ytoanmoddppmffaa.T
open Go.RowKit Go.Proofs.YtoanmoddppmffaaW.PrintWords Go.Proofs.YtoanmoddppmffaaW.PrintLast Go.Proofs.YtoanmoddppmffaaW.PrintMore
set_option linter.unusedVariables false
set_option linter.unusedSimpArgs false
theorem awake_parts : topiarylaw15_awake.f 700000 = some true := by kernel_rfl
def symTo (l0 : List ByteArray) (l1 : List S52) (c : Int) : Nat → Nat → Nat
  | 0, _ => 0
  | d + 1, j => (if 0 ≤ symP l0 l1 (j : Int) ∧ symP l0 l1 (j : Int) < c then 1 else 0) + symTo l0 l1 c d (j + 1)
theorem symTo_zero (l0 : List ByteArray) (l1 : List S52) : ∀ d j, symTo l0 l1 0 d j = 0
  | 0, _ => rfl
  | d + 1, j => by rw [symTo, symTo_zero l0 l1 d (j + 1), if_neg (by omega)]
theorem symTo_le (l0 : List ByteArray) (l1 : List S52) (c : Int) : ∀ d j, symTo l0 l1 c d j ≤ d
  | 0, _ => Nat.le_refl _
  | d + 1, j => by
    have := symTo_le l0 l1 c d (j + 1)
    rw [symTo]; split <;> omega
theorem pre_one (c : Int) (l0 : List ByteArray) (l1 : List S52) (i : Int) : pre [c] (sig l0 l1 i) = (c == symP l0 l1 i) := by
  have := pre_snoc [] c (symP l0 l1 i) (ups l0 l1 i)
  rw [List.nil_append, pre_nil, Bool.and_true] at this
  exact this
theorem symTo_succ (l0 : List ByteArray) (l1 : List S52) (c : Nat) : ∀ d j, symTo l0 l1 ((c : Int) + 1) d j = symTo l0 l1 (c : Int) d j + (pathsFrom l0 l1 [(c : Int)] d j).length
  | 0, _ => rfl
  | d + 1, j => by
    rw [symTo, symTo, symTo_succ l0 l1 c d (j + 1), pathsFrom, pre_one]
    by_cases h : (c : Int) = symP l0 l1 (j : Int)
    · rw [if_pos (by omega), if_neg (by omega), if_pos (beq_iff_eq.2 h), List.length_cons]; omega
    · rw [beq_eq_false_iff_ne.2 h, if_neg (show ¬ (false = true) by decide)]
      by_cases h2 : 0 ≤ symP l0 l1 (j : Int) ∧ symP l0 l1 (j : Int) < (c : Int)
      · rw [if_pos (by omega), if_pos h2]; omega
      · rw [if_neg (by omega), if_neg h2]; omega
theorem sym_range (names : List ByteArray) (l1 : List S52) (g : Good names l1) (j : Nat) (hj : j < l1.length) : 0 ≤ symP names l1 (j : Int) ∧ symP names l1 (j : Int) < 2 * (names.length : Int) + 1 := by
  have hn := g.nlong
  have hk := g.kind j hj
  have hm := g.name j hj
  rw [symP_eq]
  unfold symOf
  rw [if_pos (by omega)]
  by_cases h : (rd_T52 l1 (j : Int)).f0 ≠ 1 ∧ (rd_T52 l1 (j : Int)).f0 ≠ 2
  · rw [if_pos h, wrap_id (by omega) (by omega)]; omega
  · have h3 := hm (by omega)
    rw [if_neg h, if_pos h3]
    by_cases h2 : (rd_T52 l1 (j : Int)).f0 = 2
    · rw [if_pos h2, wrap_id (x := 2 * (rd_T52 l1 (j : Int)).f1) (by omega) (by omega), wrap_id (by omega) (by omega)]; omega
    · rw [if_neg h2, wrap_id (by omega) (by omega)]; omega
theorem symTo_all (names : List ByteArray) (l1 : List S52) (g : Good names l1) : ∀ d j, j + d = l1.length → symTo names l1 (2 * (names.length : Int) + 1) d j = d
  | 0, _, _ => rfl
  | d + 1, j, h => by
    have := sym_range names l1 g j (by omega)
    rw [symTo, symTo_all names l1 g d (j + 1) (by omega), if_pos this]; omega
theorem pre_drop (p u : List Int) (h : pre p u = true) : pre (p.drop 1) u = true := by
  cases p with
  | nil => exact h
  | cons x p =>
    unfold pre at h ⊢
    rw [List.isPrefixOf_iff_prefix] at h ⊢
    rw [List.reverse_cons] at h
    exact (List.prefix_append _ _).trans h
theorem paths_sub (l0 : List ByteArray) (l1 : List S52) (p : List Int) : ∀ d j, List.Sublist (pathsFrom l0 l1 p d j) (pathsFrom l0 l1 (p.drop 1) d j)
  | 0, _ => List.Sublist.refl _
  | d + 1, j => by
    have ih := paths_sub l0 l1 p d (j + 1)
    rw [pathsFrom, pathsFrom]
    by_cases h : pre p (sig l0 l1 (j : Int)) = true
    · rw [if_pos h, if_pos (pre_drop _ _ h)]; exact ih.cons_cons _
    · rw [if_neg h]
      split
      · exact ih.cons _
      · exact ih
theorem drop_rd' (l : List Int) (k : Nat) (h : k < l.length) : l.drop k = rd l (k : Int) :: l.drop (k + 1) := by
  rw [List.drop_eq_getElem_cons h, rd_get]
  simp [List.getD_eq_getElem?_getD, List.getElem?_eq_getElem h]
theorem sub_ne {x y : Int} {a b : List Int} (h : List.Sublist (x :: a) (y :: b)) (hne : y ≠ x) : List.Sublist (x :: a) b := by
  cases h with
  | cons _ h => exact h
  | cons_cons _ h => exact absurd rfl hne
theorem parts_loop (l0 : List ByteArray) (l1 : List S52) (hl : l1.length ≤ 200) (a b : List Int) (ha : a.length ≤ 200) (hb : b.length ≤ 200) (m : Nat) :
    (∀ i k : Nat, i ≤ a.length → k ≤ b.length → List.Sublist (a.drop i) (b.drop k) → 2 * (a.length - i) + (b.length - k) + 10 < m → topiarylaw15_TreeParts.l1 m true (l1.length : Int) a b (k : Int) (i : Int) l0 l1 = some true) ∧
    (∀ i k : Nat, i < a.length → k ≤ b.length → List.Sublist (a.drop i) (b.drop k) → 2 * (a.length - i) + (b.length - k) + 9 < m → topiarylaw15_TreeParts.l2 m true (l1.length : Int) a b (k : Int) (i : Int) l0 l1 = some true) := by
  induction m with
  | zero => exact ⟨fun i k _ _ _ h => by omega, fun i k _ _ _ h => by omega⟩
  | succ m ih =>
    refine ⟨fun i k hi hk hs hm => ?_, fun i k hi hk hs hm => ?_⟩
    · rw [topiarylaw15_TreeParts.l1]
      by_cases c : i < a.length
      · rw [if_pos (by omega)]
        exact ih.2 i k c hk hs (by omega)
      · rw [if_neg (by omega), if_pos rfl, beq_self_eq_true]
    · rw [topiarylaw15_TreeParts.l2]
      by_cases c : k < b.length
      · rw [if_pos (by omega), if_pos (by omega), if_pos (by omega), if_pos (by omega)]
        rw [drop_rd' a i hi, drop_rd' b k c] at hs
        by_cases e : rd b (k : Int) = rd a (i : Int)
        · rw [if_pos e, if_neg (by omega), wrap_id (by omega) (by omega), show ((i : Int) + 1) = ((i + 1 : Nat) : Int) by omega]
          refine ih.1 (i + 1) k (by omega) hk ?_ (by omega)
          rw [drop_rd' b k c]
          exact (List.Sublist.refl _).cons _ |>.trans hs
        · rw [if_neg e, wrap_id (by omega) (by omega), show ((k : Int) + 1) = ((k + 1 : Nat) : Int) by omega]
          refine ih.2 i (k + 1) hi (by omega) ?_ (by omega)
          rw [drop_rd' a i hi]
          exact sub_ne hs e
      · have hnil : b.drop k = [] := List.drop_of_length_le (by omega)
        rw [hnil, drop_rd' a i hi] at hs
        exact absurd hs (by intro h; cases h)
theorem parts_from (names : List ByteArray) (l1 : List S52) (g : Good names l1) (p : List Int) : ∀ (d c m : Nat), c + d = 2 * names.length + 1 → d + 60000 < m → topiarylaw15_TreeParts.l0 m p true (symTo names l1 (c : Int) l1.length 0 : Int) (c : Int) names l1 = some true
  | 0, c, m, hc, hm => by
    have hl := g.long
    have hn := g.nlong
    have hmul : (l1.length + 4) * l1.length ≤ 204 * 200 := Nat.mul_le_mul (by omega) hl
    obtain ⟨m, rfl⟩ : ∃ m', m = m' + 2 := ⟨m - 2, by omega⟩
    have hsum : (symTo names l1 (c : Int) l1.length 0) = l1.length := by
      have := symTo_all names l1 g l1.length 0 (by omega)
      rw [show (2 * (names.length : Int) + 1) = (c : Int) by omega] at this
      exact this
    have hS : wrap64 (wrap64 (2 * (names.length : Int)) + 1) = (c : Int) := by
      rw [wrap_id (x := 2 * (names.length : Int)) (by omega) (by omega), wrap_id (by omega) (by omega)]; omega
    have j1s : ∀ q : List Int, q.length ≤ 4 → topiarylaw15_TreeParts.j1 (m + 1) q true (l1.length : Int) names l1 = some true := by
      intro q hq
      rw [topiarylaw15_TreeParts.j1]
      by_cases h0 : (q.length : Int) = 0
      · rw [if_pos h0, if_pos rfl, beq_self_eq_true]
      · rw [if_neg h0, tpaths_tells names l1 q (by omega) (by omega) m (by omega), Option.bind_some, if_pos (by omega), tpaths_tells names l1 (q.drop 1) (by omega) (by simp; omega) m (by omega), Option.bind_some]
        have ha := pathsFrom_len names l1 q l1.length 0
        have hb := pathsFrom_len names l1 (q.drop 1) l1.length 0
        exact (parts_loop names l1 hl (pathsOf names l1 q) (pathsOf names l1 (q.drop 1)) (by unfold pathsOf; omega) (by unfold pathsOf; omega) m).1 0 0 (by omega) (by omega) (by rw [List.drop_zero, List.drop_zero]; exact paths_sub names l1 q _ _) (by unfold pathsOf; omega)
    rw [topiarylaw15_TreeParts.l0]
    unfold tree_Symbols.f
    rw [Option.bind_some, hS, if_neg (by omega), hsum]
    by_cases h4 : (p.length : Int) > 4
    · rw [if_pos h4, if_pos (by omega)]
      exact j1s _ (by rw [List.length_take]; omega)
    · rw [if_neg h4]
      exact j1s p (by omega)
  | d + 1, c, m, hc, hm => by
    have hl := g.long
    have hn := g.nlong
    have hmul : (l1.length + 4) * l1.length ≤ 204 * 200 := Nat.mul_le_mul (by omega) hl
    obtain ⟨m, rfl⟩ : ∃ m', m = m' + 1 := ⟨m - 1, by omega⟩
    have hS : wrap64 (wrap64 (2 * (names.length : Int)) + 1) = 2 * (names.length : Int) + 1 := by
      rw [wrap_id (x := 2 * (names.length : Int)) (by omega) (by omega), wrap_id (by omega) (by omega)]
    have ih := parts_from names l1 g p d (c + 1) m (by omega) (by omega)
    have hle := symTo_le names l1 (c : Int) l1.length 0
    have hpl := pathsFrom_len names l1 [(c : Int)] l1.length 0
    rw [show ((c + 1 : Nat) : Int) = (c : Int) + 1 by omega, symTo_succ] at ih
    rw [topiarylaw15_TreeParts.l0]
    unfold tree_Symbols.f
    rw [Option.bind_some, hS, if_pos (by omega), tpaths_tells names l1 [(c : Int)] (by omega) (by simp) m (by omega), Option.bind_some, wrap_id (x := (c : Int) + 1) (by omega) (by omega), wrap_id (by unfold pathsOf; omega) (by unfold pathsOf; omega)]
    unfold pathsOf
    rw [show ((symTo names l1 (c : Int) l1.length 0 : Nat) : Int) + ((pathsFrom names l1 [(c : Int)] l1.length 0).length : Int) = ((symTo names l1 (c : Int) l1.length 0 + (pathsFrom names l1 [(c : Int)] l1.length 0).length : Nat) : Int) by omega]
    exact ih
theorem parts_at (s : ByteArray) (p : List Int) (m : Nat) (hm : m = 700000) : topiarylaw15_TreeParts.f m s p = some true := by
  have ha : topiarylaw15_awake.f m = some true := by rw [hm]; exact awake_parts
  obtain ⟨t, et, ht⟩ := short_tl s
  obtain ⟨r, er, hr⟩ := parse_tl t ht m (by omega)
  unfold topiarylaw15_TreeParts.f
  rw [ha, Option.bind_some, et, Option.bind_some, er, Option.bind_some]
  by_cases c : r.2.2 = 0
  · rw [if_pos c]
    have g := hr c
    have hn := g.nlong
    have := parts_from r.1 r.2.1 g p (2 * r.1.length + 1) 0 m (by omega) (by omega)
    rw [show ((0 : Nat) : Int) = 0 from rfl, symTo_zero] at this
    exact this
  · rw [if_neg c]
theorem parts_tells (s : ByteArray) (p : List Int) : topiarylaw15_TreeParts.f 700000 s p = some true := parts_at s p 700000 rfl
end Go.Proofs.Ytoanmoddppmffaa.T
