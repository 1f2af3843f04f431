/- Paths: at which nodes a path ends, written out. -/
import Derived.Test.YtoanmoddppmffaaJPd
import Derived.Test.YtoanmoddppmffaaJTx20
namespace Go.Proofs.Ytoanmoddppmffaa.T
open Go.RowKit Go.Proofs.YtoanmoddppmffaaW.PrintWords Go.Proofs.YtoanmoddppmffaaW.PrintLast Go.Proofs.YtoanmoddppmffaaW.PrintMore
set_option linter.unusedVariables false
set_option linter.unusedSimpArgs false
def pre (p u : List Int) : Bool := p.reverse.isPrefixOf u
theorem pre_nil (u : List Int) : pre [] u = true := by simp [pre]
theorem pre_snoc_nil (r : List Int) (x : Int) : pre (r ++ [x]) [] = false := by simp [pre, List.isPrefixOf]
theorem pre_snoc (r : List Int) (x y : Int) (u : List Int) : pre (r ++ [x]) (y :: u) = (x == y && pre r u) := by simp [pre, List.isPrefixOf]
theorem rd_last (r : List Int) (x : Int) (k : Int) (hk : k = (r.length : Int)) : rd (r ++ [x]) k = x := by
  subst hk
  rw [rd_get]
  simp
theorem take_last (r : List Int) (x : Int) (k : Int) (hk : k = (r.length : Int)) : (r ++ [x]).take k.toNat = r := by
  subst hk
  simp
def ups (l0 : List ByteArray) (l1 : List S52) (i : Int) : List Int := (aboves l1 i).map (symP l0 l1)
def sig (l0 : List ByteArray) (l1 : List S52) (i : Int) : List Int := symP l0 l1 i :: ups l0 l1 i
def pathsFrom (l0 : List ByteArray) (l1 : List S52) (p : List Int) : Nat → Nat → List Int
  | 0, _ => []
  | d + 1, j => if pre p (sig l0 l1 (j : Int)) = true then (j : Int) :: pathsFrom l0 l1 p d (j + 1) else pathsFrom l0 l1 p d (j + 1)
def pathsOf (l0 : List ByteArray) (l1 : List S52) (p : List Int) : List Int := pathsFrom l0 l1 p l1.length 0
theorem pathsFrom_len (l0 : List ByteArray) (l1 : List S52) (p : List Int) : ∀ d j, (pathsFrom l0 l1 p d j).length ≤ d
  | 0, j => by simp [pathsFrom]
  | d + 1, j => by
    have := pathsFrom_len l0 l1 p d (j + 1)
    rw [pathsFrom]; split
    · simp; omega
    · omega
theorem ups_len (l0 : List ByteArray) (l1 : List S52) (i : Int) : (ups l0 l1 i).length ≤ l1.length := by
  unfold ups aboves
  rw [List.length_map]; exact chain_len _ _ _
theorem tpaths_inner (l0 : List ByteArray) (l1 : List S52) (p : List Int) (n j : Int) (hp : p.length ≤ 100000) (out : List Int) (ho : out.length < 10000000) (i : Int) (G : List Int → List Int) (U : List Int) (hU : U.length ≤ 10000000) :
    ∀ (d t m : Nat) (rest : List Int), t + d = U.length → rest.length ≤ 100000 → d + 1 < m → (∀ (m' : Nat) (o : List Int), m ≤ m' + d + 1 → (o = out ∨ o = out ++ [i]) → tree_Paths.l0 m' p o n (wrap64 (j + 1)) l0 l1 = some (G o)) →
      tree_Paths.l1 m p out i rest n j U (U.length : Int) (t : Int) l0 l1 = some (G (if pre rest (U.drop t) = true then out ++ [i] else out))
  | 0, t, m, rest, ht, hr, hm, hk => by
    obtain ⟨m, rfl⟩ : ∃ m', m = m' + 1 := ⟨m - 1, by omega⟩
    have hd : U.drop t = [] := List.drop_of_length_le (by omega)
    rw [tree_Paths.l1, if_neg (by omega), hd]
    rcases List.eq_nil_or_concat rest with rfl | ⟨r, x, rfl⟩
    · rw [if_pos (by simp), if_pos (by omega), if_pos (pre_nil _)]
      exact hk m _ (by omega) (.inr rfl)
    · rw [List.concat_eq_append, if_neg (by simp; omega), pre_snoc_nil, if_neg (by decide)]
      exact hk m _ (by omega) (.inl rfl)
  | d + 1, t, m, rest, ht, hr, hm, hk => by
    obtain ⟨m, rfl⟩ : ∃ m', m = m' + 1 := ⟨m - 1, by omega⟩
    have hlt : t < U.length := by omega
    have hd : U.drop t = rd U (t : Int) :: U.drop (t + 1) := by
      rw [List.drop_eq_getElem_cons hlt, rd_get]
      simp [List.getD_eq_getElem?_getD, List.getElem?_eq_getElem hlt]
    rw [tree_Paths.l1, if_pos (by omega), if_pos (by omega), if_pos (by omega), hd]
    rcases List.eq_nil_or_concat rest with rfl | ⟨r, x, rfl⟩
    · rw [if_pos (by simp), if_pos (by omega), if_pos (pre_nil _)]
      exact hk m _ (by omega) (.inr rfl)
    · rw [List.concat_eq_append] at hr ⊢
      have hl : ((r ++ [x]).length : Int) = (r.length : Int) + 1 := by simp
      have hrl : (r ++ [x]).length = r.length + 1 := by simp
      have hw : wrap64 (((r ++ [x]).length : Int) - 1) = (r.length : Int) := by rw [hl, wrap_id (by omega) (by omega)]; omega
      rw [if_neg (by omega), hw, if_pos (by omega), if_pos (by omega), rd_last r x _ rfl, pre_snoc, take_last r x _ rfl, if_pos (show (r.length : Int) ≤ ((r ++ [x]).length : Int) by omega)]
      by_cases c : x = rd U (t : Int)
      · have ih := tpaths_inner l0 l1 p n j hp out ho i G U hU d (t + 1) m r (by omega) (by omega) (by omega) (fun m' o h => hk m' o (by omega))
        rw [if_pos c, wrap_id (by omega) (by omega), show ((t : Int) + 1) = ((t + 1 : Nat) : Int) by omega, ih, beq_iff_eq.2 c, Bool.true_and]
      · rw [if_neg c, beq_eq_false_iff_ne.2 c, Bool.false_and, if_neg (by decide)]
        exact hk m _ (by omega) (.inl rfl)
theorem tpaths_from (l0 : List ByteArray) (l1 : List S52) (p : List Int) (hl : l1.length ≤ 10000) (hp : p.length ≤ 100000) : ∀ (d j m : Nat) (out : List Int), j + d = l1.length → out.length ≤ j → (l1.length + 4) * d + 10 < m →
    tree_Paths.l0 m p out (l1.length : Int) (j : Int) l0 l1 = some (out ++ pathsFrom l0 l1 p d j)
  | 0, j, m, out, hj, ho, hm => by
    obtain ⟨m, rfl⟩ : ∃ m', m = m' + 1 := ⟨m - 1, by omega⟩
    rw [tree_Paths.l0, if_neg (by omega), pathsFrom, List.append_nil]
  | d + 1, j, m, out, hj, ho, hm => by
    have hul := ups_len l0 l1 (j : Int)
    have hmul : (l1.length + 4) * (d + 1) = (l1.length + 4) * d + (l1.length + 4) := Nat.mul_succ _ _
    obtain ⟨m, rfl⟩ : ∃ m', m = m' + 2 := ⟨m - 2, by omega⟩
    have ez : ((j : Int) + 1) = ((j + 1 : Nat) : Int) := by omega
    have next : ∀ (m' : Nat) (o : List Int), m ≤ m' + (ups l0 l1 (j : Int)).length + 1 → o.length ≤ j + 1 → tree_Paths.l0 m' p o (l1.length : Int) (wrap64 ((j : Int) + 1)) l0 l1 = some (o ++ pathsFrom l0 l1 p d (j + 1)) := by
      intro m' o h1 h2
      rw [wrap_id (by omega) (by omega), ez]
      exact tpaths_from l0 l1 p hl hp d (j + 1) m' o (by omega) h2 (by omega)
    -- the inner loop hands on one of two rows
    have inner : ∀ rest : List Int, rest.length ≤ 100000 → tree_Paths.j1 (m + 1) p out (j : Int) rest (l1.length : Int) (j : Int) l0 l1 = some ((if pre rest (ups l0 l1 (j : Int)) = true then out ++ [(j : Int)] else out) ++ pathsFrom l0 l1 p d (j + 1)) := by
      intro rest hrest
      have hu : tree_Up.f l0 l1 (j : Int) = some (ups l0 l1 (j : Int)) := up_tells l0 l1 j (by omega)
      rw [tree_Paths.j1, hu, Option.bind_some]
      refine tpaths_inner l0 l1 p (l1.length : Int) (j : Int) hp out (by omega) (j : Int) (fun o => o ++ pathsFrom l0 l1 p d (j + 1)) (ups l0 l1 (j : Int)) (by omega) (ups l0 l1 (j : Int)).length 0 m rest (by omega) hrest (by omega) (fun m' o h1 h2 => next m' o h1 ?_)
      rcases h2 with rfl | rfl
      · omega
      · rw [List.length_append, List.length_singleton]; omega
    have fin : ∀ b : Bool, ((if b = true then out ++ [(j : Int)] else out) ++ pathsFrom l0 l1 p d (j + 1)) = out ++ (if b = true then (j : Int) :: pathsFrom l0 l1 p d (j + 1) else pathsFrom l0 l1 p d (j + 1)) := by
      intro b
      cases b <;> simp
    rw [tree_Paths.l0, if_pos (by omega), pathsFrom, ← fin]
    rcases List.eq_nil_or_concat p with rfl | ⟨r, x, rfl⟩
    · rw [if_neg (by simp), inner [] (by simp), pre_nil, pre_nil]
    · rw [List.concat_eq_append] at *
      have hl2 : ((r ++ [x]).length : Int) = (r.length : Int) + 1 := by simp
      have hrl : (r ++ [x]).length = r.length + 1 := by simp
      have hw : wrap64 (((r ++ [x]).length : Int) - 1) = (r.length : Int) := by rw [hl2, wrap_id (by omega) (by omega)]; omega
      have hs : tree_Symbol.f (m + 1) l0 l1 (j : Int) = some (symP l0 l1 (j : Int)) := by
        rw [symP_eq]
        exact up_of' (F := fun k => tree_Symbol.f k l0 l1 (j : Int)) (tree_Symbol.mono l0 l1 (j : Int)) (show 3 ≤ m + 1 by omega) (symbol_tells l0 l1 (j : Int))
      rw [if_pos (by omega), hs, Option.bind_some, hw, if_pos (by omega), if_pos (by omega), rd_last r x _ rfl, take_last r x _ rfl, if_pos (show (r.length : Int) ≤ ((r ++ [x]).length : Int) by omega), sig, pre_snoc]
      by_cases c : symP l0 l1 (j : Int) = x
      · rw [if_pos c, inner r (by omega), beq_iff_eq.2 c.symm, Bool.true_and]
      · rw [if_neg c, beq_eq_false_iff_ne.2 (fun h => c h.symm), Bool.false_and, if_neg (by decide)]
        exact next (m + 1) out (by omega) (by omega)
theorem tpaths_tells (l0 : List ByteArray) (l1 : List S52) (p : List Int) (hl : l1.length ≤ 10000) (hp : p.length ≤ 100000) (m : Nat) (hm : (l1.length + 4) * l1.length + 10 < m) : tree_Paths.f m l0 l1 p = some (pathsOf l0 l1 p) := by
  have := tpaths_from l0 l1 p hl hp l1.length 0 m [] (by omega) (by simp) hm
  rw [List.nil_append] at this
  exact this
end Go.Proofs.Ytoanmoddppmffaa.T
