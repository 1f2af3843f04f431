/- TreeOwn's plain law. -/
import Derived.Test.YtoanmoddppmffaaEPg
import Derived.Test.YtoanmoddppmffaaEPq
import Derived.Test.YtoanmoddppmffaaEOx
namespace Go.Proofs.Ytoanmoddppmffaa.T
open Go.RowKit Go.Proofs.YtoanmoddppmffaaW.PrintWords Go.Proofs.YtoanmoddppmffaaW.PrintLast Go.Proofs.YtoanmoddppmffaaW.PrintMore
set_option linter.unusedVariables false
set_option linter.unusedSimpArgs false
theorem awake_own : topiarylaw15_awake.f 700000 = some true := by kernel_rfl
theorem tmod_in (a n : Int) (hn : 0 < n) (h2 : n ≤ 1000) : 0 ≤ Int.tmod (wrap64 (Int.tmod a n + n)) n ∧ Int.tmod (wrap64 (Int.tmod a n + n)) n < n := by
  have h1 := Int.tmod_lt_of_pos a hn
  have h3 := Int.lt_tmod_of_pos a hn
  rw [wrap_id (by omega) (by omega)]
  exact ⟨Int.tmod_nonneg _ (by omega), Int.tmod_lt_of_pos _ hn⟩
theorem mem_pathsFrom (l0 : List ByteArray) (l1 : List S52) (p : List Int) (x : Int) : ∀ d j : Nat, x ∈ pathsFrom l0 l1 p d j ↔ ∃ k : Nat, j ≤ k ∧ k < j + d ∧ x = (k : Int) ∧ pre p (sig l0 l1 (k : Int)) = true
  | 0, j => by
    rw [pathsFrom]
    exact ⟨fun h => by simp at h, fun ⟨k, h1, h2, _⟩ => by omega⟩
  | d + 1, j => by
    rw [pathsFrom]
    have ih := mem_pathsFrom l0 l1 p x d (j + 1)
    by_cases c : pre p (sig l0 l1 (j : Int)) = true
    · rw [if_pos c, List.mem_cons, ih]
      constructor
      · rintro (rfl | ⟨k, h1, h2, h3, h4⟩)
        · exact ⟨j, Nat.le_refl _, by omega, rfl, c⟩
        · exact ⟨k, by omega, by omega, h3, h4⟩
      · rintro ⟨k, h1, h2, h3, h4⟩
        by_cases hk : k = j
        · subst hk; exact .inl h3
        · exact .inr ⟨k, by omega, by omega, h3, h4⟩
    · rw [if_neg c, ih]
      constructor
      · rintro ⟨k, h1, h2, h3, h4⟩
        exact ⟨k, by omega, by omega, h3, h4⟩
      · rintro ⟨k, h1, h2, h3, h4⟩
        by_cases hk : k = j
        · subst hk; exact absurd h4 c
        · exact ⟨k, by omega, by omega, h3, h4⟩
theorem pre_own (s : Int) (u v : List Int) (y : Int) : pre (u.reverse ++ [s]) (y :: v) = (s == y && u.isPrefixOf v) := by
  rw [pre_snoc]
  unfold pre
  rw [List.reverse_reverse]
theorem depth_ups (l0 : List ByteArray) (l1 : List S52) (i : Int) (h0 : 0 ≤ i) (h1 : i < l1.length) (hl : l1.length < 17592186044416) : tree_Depth.f l0 l1 i = some ((ups l0 l1 i).length : Int) := by
  rw [depth_tells l0 l1 i hl, if_pos ⟨h0, h1⟩]
  simp [ups]
theorem take_rd (l : List Int) (k : Nat) (h : k < l.length) : l.take (k + 1) = l.take k ++ [rd l (k : Int)] := by
  rw [List.take_succ_eq_append_getElem h, rd_get]
  simp [List.getD_eq_getElem?_getD, List.getElem?_eq_getElem h]
theorem symbol_at (l0 : List ByteArray) (l1 : List S52) (i : Int) (m : Nat) (hm : 3 ≤ m) : tree_Symbol.f m l0 l1 i = some (symP l0 l1 i) := by
  rw [symP_eq]
  exact up_of' (F := fun k => tree_Symbol.f k l0 l1 i) (tree_Symbol.mono l0 l1 i) hm (symbol_tells l0 l1 i)
theorem own_end (l0 : List ByteArray) (l1 : List S52) (hl : l1.length ≤ 200) (i n : Nat) (hi : i < l1.length) (L : List Int)
    (hL : ∀ x ∈ L, ∃ k : Nat, k < l1.length ∧ x = (k : Int) ∧ symP l0 l1 (k : Int) = symP l0 l1 (i : Int) ∧ n ≤ (ups l0 l1 (k : Int)).length) (hin : (i : Int) ∈ L) (hll : L.length ≤ 200) :
    ∀ (d k m : Nat), k + d = L.length → 2 * d + 20 < m → topiarylaw15_TreeOwn.l1 m true (i : Int) (ups l0 l1 (i : Int)) (n : Int) L (decide ((i : Int) ∈ L.take k)) (k : Int) l0 l1 = some true
  | 0, k, m, hk, hm => by
    obtain ⟨m, rfl⟩ : ∃ m', m = m' + 1 := ⟨m - 1, by omega⟩
    have ht : L.take k = L := List.take_of_length_le (by omega)
    rw [topiarylaw15_TreeOwn.l1, if_neg (by omega), if_pos rfl, ht, if_pos (decide_eq_true hin), depth_ups l0 l1 i (by omega) (by omega) (by omega), Option.bind_some, beq_self_eq_true]
  | d + 1, k, m, hk, hm => by
    obtain ⟨m, rfl⟩ : ∃ m', m = m' + 2 := ⟨m - 2, by omega⟩
    have hlt : k < L.length := by omega
    have hmem : rd L (k : Int) ∈ L := by
      rw [rd_get, List.getD_eq_getElem?_getD, List.getElem?_eq_getElem hlt]
      exact List.getElem_mem _
    obtain ⟨q, q1, q2, q3, q4⟩ := hL _ hmem
    have j3s : ∀ b, b = decide ((i : Int) ∈ L.take (k + 1)) → topiarylaw15_TreeOwn.j3 (m + 1) true (i : Int) (ups l0 l1 (i : Int)) (n : Int) L b (k : Int) l0 l1 = some true := by
      intro b hb
      have ih := own_end l0 l1 hl i n hi L hL hin hll d (k + 1) m (by omega) (by omega)
      rw [topiarylaw15_TreeOwn.j3, if_pos (by omega), if_pos (by omega), q2, depth_ups l0 l1 q (by omega) (by omega) (by omega), Option.bind_some, if_neg (by omega), symbol_at l0 l1 q m (by omega), Option.bind_some, symbol_at l0 l1 i m (by omega), Option.bind_some, if_pos q3, wrap_id (by omega) (by omega), show ((k : Int) + 1) = ((k + 1 : Nat) : Int) by omega, hb]
      exact ih
    rw [topiarylaw15_TreeOwn.l1, if_pos (by omega)]
    by_cases c : (i : Int) ∈ L.take k
    · rw [if_pos (decide_eq_true c)]
      exact j3s true (by rw [take_rd L k hlt, decide_eq_true (List.mem_append.2 (.inl c))])
    · rw [if_neg (by rw [decide_eq_false c]; decide), if_pos (by omega)]
      refine j3s _ ?_
      rw [take_rd L k hlt]
      by_cases e : rd L (k : Int) = (i : Int)
      · rw [beq_iff_eq.2 e, decide_eq_true (List.mem_append.2 (.inr (by simp [e])))]
      · rw [beq_eq_false_iff_ne.2 e, decide_eq_false]
        intro h
        rcases List.mem_append.1 h with h | h
        · exact c h
        · exact e (List.mem_singleton.1 h).symm
theorem own_build (l0 : List ByteArray) (l1 : List S52) (hl : l1.length ≤ 200) (i n : Nat) (hi : i < l1.length) (hn : n ≤ (ups l0 l1 (i : Int)).length) :
    ∀ (d k m : Nat), k + d = n → d + 50000 < m → topiarylaw15_TreeOwn.l0 m true (i : Int) (ups l0 l1 (i : Int)) (n : Int) (((ups l0 l1 (i : Int)).take k).reverse ++ [symP l0 l1 (i : Int)]) (k : Int) l0 l1 = some true
  | 0, k, m, hk, hm => by
    obtain ⟨m, rfl⟩ : ∃ m', m = m' + 1 := ⟨m - 1, by omega⟩
    have hul := ups_len l0 l1 (i : Int)
    have hmul : (l1.length + 4) * l1.length ≤ 204 * 200 := Nat.mul_le_mul (by omega) hl
    obtain rfl : k = n := by omega
    generalize hp : ((ups l0 l1 (i : Int)).take k).reverse ++ [symP l0 l1 (i : Int)] = p
    have hpl : p.length ≤ 100000 := by rw [← hp]; simp; omega
    rw [topiarylaw15_TreeOwn.l0, if_neg (by omega), tpaths_tells l0 l1 p (by omega) hpl m (by omega), Option.bind_some]
    have hlen := pathsFrom_len l0 l1 p l1.length 0
    have := own_end l0 l1 hl i k hi (pathsOf l0 l1 p) (fun x hx => ?_) ?_ (Nat.le_trans hlen hl) (pathsOf l0 l1 p).length 0 m (by omega) (by unfold pathsOf; omega)
    · rw [List.take_zero] at this
      simpa using this
    · obtain ⟨q, _, q1, q2, q3⟩ := (mem_pathsFrom l0 l1 p x _ _).1 hx
      refine ⟨q, by omega, q2, ?_⟩
      rw [← hp, sig, pre_own, Bool.and_eq_true, beq_iff_eq, List.isPrefixOf_iff_prefix] at q3
      refine ⟨q3.1.symm, ?_⟩
      have := q3.2.length_le
      rw [List.length_take] at this
      omega
    · refine (mem_pathsFrom l0 l1 p _ _ _).2 ⟨i, by omega, by omega, rfl, ?_⟩
      rw [← hp, sig, pre_own, Bool.and_eq_true, beq_iff_eq, List.isPrefixOf_iff_prefix]
      exact ⟨rfl, List.take_prefix _ _⟩
  | d + 1, k, m, hk, hm => by
    obtain ⟨m, rfl⟩ : ∃ m', m = m' + 1 := ⟨m - 1, by omega⟩
    have hul := ups_len l0 l1 (i : Int)
    have ih := own_build l0 l1 hl i n hi hn d (k + 1) m (by omega) (by omega)
    rw [take_rd _ k (by omega), List.reverse_append, List.reverse_singleton, List.append_assoc] at ih
    rw [topiarylaw15_TreeOwn.l0, if_pos (by omega), if_pos (by omega), if_pos (by omega), if_pos (by simp), Option.bind_some, if_pos (by simp; omega), wrap_id (by omega) (by omega), show ((k : Int) + 1) = ((k + 1 : Nat) : Int) by omega, List.nil_append]
    exact ih
theorem own_at (s : ByteArray) (q0 q1 : Int) (m : Nat) (hm : m + 1 = 700000) : topiarylaw15_TreeOwn.f (m + 1) s q0 q1 = some true := by
  have ha : topiarylaw15_awake.f (m + 1) = some true := by rw [hm]; exact awake_own
  obtain ⟨t, et, ht⟩ := short_tl s
  obtain ⟨r, er, hr⟩ := parse_tl t ht (m + 1) (by omega)
  unfold topiarylaw15_TreeOwn.f
  rw [ha, Option.bind_some, et, Option.bind_some, er, Option.bind_some]
  by_cases c : r.2.2 = 0
  · have g := hr c
    have hlong := g.long
    have hsome := g.some_
    generalize hn : (r.2.1.length : Int) = n
    have hn0 : 0 < n := by omega
    have hn1 : n ≤ 200 := by omega
    rw [if_pos c, topiarylaw15_TreeOwn.j0, if_neg (by simp; omega), hn, if_neg (by omega)]
    obtain ⟨i0, i1⟩ := tmod_in q0 n hn0 (by omega)
    generalize Int.tmod (wrap64 (Int.tmod q0 n + n)) n = i at i0 i1
    obtain ⟨i, rfl⟩ := Int.eq_ofNat_of_zero_le i0
    have hu : tree_Up.f r.1 r.2.1 (i : Int) = some (ups r.1 r.2.1 (i : Int)) := up_tells r.1 r.2.1 i (by omega)
    have hul := ups_len r.1 r.2.1 (i : Int)
    rw [hu, Option.bind_some]
    generalize hL : ((ups r.1 r.2.1 (i : Int)).length : Int) = L
    have hw : wrap64 (L + 1) = L + 1 := wrap_id (by omega) (by omega)
    rw [hw, if_neg (by omega), symbol_at r.1 r.2.1 i m (by omega), Option.bind_some]
    have hz : wrap64 (wrap64 (Int.tmod q1 (L + 1) + L) + 1) = wrap64 (Int.tmod q1 (L + 1) + (L + 1)) := by
      have h1 := Int.tmod_lt_of_pos q1 (show 0 < L + 1 by omega)
      have h2 := Int.lt_tmod_of_pos q1 (show 0 < L + 1 by omega)
      rw [wrap_id (x := Int.tmod q1 (L + 1) + L) (by omega) (by omega), Int.add_assoc]
    rw [hz]
    obtain ⟨k0, k1⟩ := tmod_in q1 (L + 1) (by omega) (by omega)
    generalize Int.tmod (wrap64 (Int.tmod q1 (L + 1) + (L + 1))) (L + 1) = k at k0 k1
    obtain ⟨k, rfl⟩ := Int.eq_ofNat_of_zero_le k0
    exact own_build r.1 r.2.1 hlong i k (by omega) (by omega) k 0 m (by omega) (by omega)
  · rw [if_neg c, topiarylaw15_TreeOwn.j0, if_pos rfl]
theorem own_tells (s : ByteArray) (q0 q1 : Int) : topiarylaw15_TreeOwn.f (699999 + 1) s q0 q1 = some true := own_at s q0 q1 699999 rfl
end Go.Proofs.Ytoanmoddppmffaa.T
