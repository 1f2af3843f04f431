/- Plain laws on trees: what the reference's symbols, parents and children come to, and that the small tree is small. -/
import Derived.Test.YtoanmoddppmffaaJTx14
import Derived.Test.YtoanmoddppmffaaJTx15
import Derived.Test.YtoanmoddppmffaaJTx16
import Derived.Test.YtoanmoddppmffaaJTx17
import Derived.KernelRfl
namespace Go.Proofs.Ytoanmoddppmffaa.T
open Go.RowKit Go.Proofs.YtoanmoddppmffaaW.PrintWords Go.Proofs.YtoanmoddppmffaaW.PrintLast Go.Proofs.YtoanmoddppmffaaW.PrintMore
theorem wrap_id {x : Int} (h0 : -9223372036854775808 ≤ x) (h1 : x ≤ 9223372036854775807) : wrap64 x = x := by unfold wrap64; omega
theorem refParent_tells (l0 : List ByteArray) (l1 : List S52) (i : Int) : topiaryref15_Parent.f l0 l1 i = some (parOf l1 i) := by
  unfold topiaryref15_Parent.f parOf
  by_cases h0 : i < 0
  · have h : ¬ (0 ≤ i ∧ i < (l1.length : Int)) := by omega
    rw [if_pos h0, if_neg h]
  · by_cases h1 : i ≥ (l1.length : Int)
    · have h : ¬ (0 ≤ i ∧ i < (l1.length : Int)) := by omega
      rw [if_neg h0, if_pos h1, if_neg h]
    · have h : (0 ≤ i ∧ i < (l1.length : Int)) := by omega
      rw [if_neg h0, if_neg h1, if_pos h.1, if_pos h.2, if_pos h]
      by_cases h2 : (rd_T52 l1 i).f2 < 0
      · have g : ¬ (0 ≤ (rd_T52 l1 i).f2 ∧ (rd_T52 l1 i).f2 < i) := by omega
        rw [if_pos h2, if_neg g]
      · by_cases h3 : (rd_T52 l1 i).f2 ≥ i
        · have g : ¬ (0 ≤ (rd_T52 l1 i).f2 ∧ (rd_T52 l1 i).f2 < i) := by omega
          rw [if_neg h2, if_pos h3, if_neg g]
        · have g : (0 ≤ (rd_T52 l1 i).f2 ∧ (rd_T52 l1 i).f2 < i) := by omega
          rw [if_neg h2, if_neg h3, if_pos g]
def symOf (l0 : List ByteArray) (l1 : List S52) (i : Int) : Int :=
  if 0 ≤ i ∧ i < (l1.length : Int) then
    (if (rd_T52 l1 i).f0 ≠ 1 ∧ (rd_T52 l1 i).f0 ≠ 2 then wrap64 (2 * (l0.length : Int))
     else if 0 ≤ (rd_T52 l1 i).f1 ∧ (rd_T52 l1 i).f1 < (l0.length : Int) then (if (rd_T52 l1 i).f0 = 2 then wrap64 (wrap64 (2 * (rd_T52 l1 i).f1) + 1) else wrap64 (2 * (rd_T52 l1 i).f1)) else -1)
  else -1
theorem wrap_back (n : Int) : wrap64 (wrap64 (wrap64 (2 * n) + 1) - 1) = wrap64 (2 * n) := by unfold wrap64; omega
theorem symbol_tells (l0 : List ByteArray) (l1 : List S52) (i : Int) : tree_Symbol.f 3 l0 l1 i = some (symOf l0 l1 i) := by
  unfold tree_Symbol.f symOf
  by_cases h : (0 ≤ i ∧ i < (l1.length : Int))
  · have h0 : ¬ i < 0 := by omega
    have h1 : decide (i ≥ (l1.length : Int)) = false := decide_eq_false (by omega)
    rw [if_neg h0, h1, if_pos h]
    simp only [tree_Symbol.j0]
    rw [if_neg (show ¬ false = true by decide), if_pos h.1, if_pos h.2]
    by_cases k1 : (rd_T52 l1 i).f0 = 1
    · have k2 : ¬ (rd_T52 l1 i).f0 = 2 := by omega
      have k3 : ¬ ((rd_T52 l1 i).f0 ≠ 1 ∧ (rd_T52 l1 i).f0 ≠ 2) := by omega
      rw [if_neg k3]
      simp only [tree_Symbol.j1, tree_Symbol.j2]
      by_cases n0 : (rd_T52 l1 i).f1 ≥ 0
      · by_cases n1 : (rd_T52 l1 i).f1 < (l0.length : Int)
        · simp [n0, n1, k1]
        · simp [n0, n1, k1]
      · simp [n0, k1]
    · by_cases k2 : (rd_T52 l1 i).f0 = 2
      · have k3 : ¬ ((rd_T52 l1 i).f0 ≠ 1 ∧ (rd_T52 l1 i).f0 ≠ 2) := by omega
        rw [if_neg k3]
        simp only [tree_Symbol.j1, tree_Symbol.j2]
        by_cases n0 : (rd_T52 l1 i).f1 ≥ 0
        · by_cases n1 : (rd_T52 l1 i).f1 < (l0.length : Int)
          · simp [n0, n1, k2]
          · simp [n0, n1, k2]
        · simp [n0, k2]
      · rw [if_pos (show ((rd_T52 l1 i).f0 ≠ 1 ∧ (rd_T52 l1 i).f0 ≠ 2) from ⟨k1, k2⟩)]
        simp only [tree_Symbol.j1, tree_Symbol.j2, tree_Symbols.f, Option.bind_some]
        simp [k1, k2, wrap_back]
  · rw [if_neg h]
    by_cases h0 : i < 0
    · rw [if_pos h0]; simp [tree_Symbol.j0]
    · have h1 : decide (i ≥ (l1.length : Int)) = true := decide_eq_true (by omega)
      rw [if_neg h0, h1]; simp [tree_Symbol.j0]
theorem symP_eq (l0 : List ByteArray) (l1 : List S52) (i : Int) : symP l0 l1 i = symOf l0 l1 i := by
  unfold symP
  rw [symbol_tells]; rfl
theorem refSymbol_tells (l0 : List ByteArray) (l1 : List S52) (i : Int) : topiaryref15_Symbol.f 3 l0 l1 i = some (symP l0 l1 i) := by
  rw [symP_eq]
  unfold topiaryref15_Symbol.f symOf
  by_cases h : (0 ≤ i ∧ i < (l1.length : Int))
  · have h0 : ¬ i < 0 := by omega
    have h1 : decide (i ≥ (l1.length : Int)) = false := decide_eq_false (by omega)
    rw [if_neg h0, h1, if_pos h]
    simp only [topiaryref15_Symbol.j0]
    rw [if_neg (show ¬ false = true by decide), if_pos h.1, if_pos h.2]
    have n2 : (decide ((rd_T52 l1 i).f1 ≥ (l0.length : Int))) = !(decide ((rd_T52 l1 i).f1 < (l0.length : Int))) := by
      by_cases n1 : (rd_T52 l1 i).f1 < (l0.length : Int)
      · simp [n1]
      · simp [n1]; omega
    by_cases k1 : (rd_T52 l1 i).f0 = 1
    · have k2 : ¬ (rd_T52 l1 i).f0 = 2 := by omega
      have k3 : ¬ ((rd_T52 l1 i).f0 ≠ 1 ∧ (rd_T52 l1 i).f0 ≠ 2) := by omega
      rw [if_neg k3, if_pos k1]
      simp only [topiaryref15_Symbol.j1, topiaryref15_Symbol.j2]
      rw [n2]
      by_cases n0 : (rd_T52 l1 i).f1 < 0
      · have n3 : ¬ 0 ≤ (rd_T52 l1 i).f1 := by omega
        simp [n0, n3]
      · have n3 : 0 ≤ (rd_T52 l1 i).f1 := by omega
        by_cases n1 : (rd_T52 l1 i).f1 < (l0.length : Int)
        · simp [n0, n1, n3, k1]
        · simp [n0, n1]
    · by_cases k2 : (rd_T52 l1 i).f0 = 2
      · have k3 : ¬ ((rd_T52 l1 i).f0 ≠ 1 ∧ (rd_T52 l1 i).f0 ≠ 2) := by omega
        rw [if_neg k3, if_neg k1]
        simp only [topiaryref15_Symbol.j1, topiaryref15_Symbol.j2]
        rw [n2]
        by_cases n0 : (rd_T52 l1 i).f1 < 0
        · have n3 : ¬ 0 ≤ (rd_T52 l1 i).f1 := by omega
          simp [n0, n3, k2]
        · have n3 : 0 ≤ (rd_T52 l1 i).f1 := by omega
          by_cases n1 : (rd_T52 l1 i).f1 < (l0.length : Int)
          · simp [n0, n1, n3, k2]
          · simp [n0, n1, k2]
      · rw [if_pos (show ((rd_T52 l1 i).f0 ≠ 1 ∧ (rd_T52 l1 i).f0 ≠ 2) from ⟨k1, k2⟩), if_neg k1]
        simp only [topiaryref15_Symbol.j1, topiaryref15_Symbol.j2]
        simp [k2]
  · rw [if_neg h]
    by_cases h0 : i < 0
    · rw [if_pos h0]; simp [topiaryref15_Symbol.j0]
    · have h1 : decide (i ≥ (l1.length : Int)) = true := decide_eq_true (by omega)
      rw [if_neg h0, h1]; simp [topiaryref15_Symbol.j0]
theorem rd_get (l : List Int) (j : Nat) : rd l (j : Int) = l.getD j 0 := rfl
theorem same_from (l : List Int) (hl : l.length < 4611686018427387904) : ∀ (d k m : Nat), k + d = l.length → d < m → topiaryref02_Same.l0 m l l (k : Int) = some true
  | 0, k, m, hk, hm => by
    obtain ⟨m, rfl⟩ : ∃ m', m = m' + 1 := ⟨m - 1, by omega⟩
    simp only [topiaryref02_Same.l0]
    rw [if_neg (by omega)]
  | d + 1, k, m, hk, hm => by
    obtain ⟨m, rfl⟩ : ∃ m', m = m' + 1 := ⟨m - 1, by omega⟩
    simp only [topiaryref02_Same.l0]
    rw [if_pos (by omega), if_pos (by omega), if_pos (by omega), wrap_id (by omega) (by omega), if_pos trivial]
    exact same_from l hl d (k + 1) m (by omega) (by omega)
theorem same_tells (l : List Int) (hl : l.length < 4611686018427387904) : topiaryref02_Same.f (l.length + 1) l l = some true := by
  unfold topiaryref02_Same.f
  rw [if_pos rfl]
  exact same_from l hl l.length 0 (l.length + 1) (by omega) (by omega)
theorem short_some (s : ByteArray) : ∃ r, topiarylaw15_short.f s 20 = some r := by
  unfold topiarylaw15_short.f
  by_cases h : (s.size : Int) > 20
  · rw [if_pos h, if_pos (by omega), if_pos (by omega)]; exact ⟨_, rfl⟩
  · rw [if_neg h]; exact ⟨_, rfl⟩
theorem small_nodes (l0 : List ByteArray) (l1 : List S52) (r0 : List ByteArray) : ∀ (d k m : Nat) (r1 : List S52), k + d = 30 → r1.length ≤ k → d < m → ∃ r, topiarylaw15_small.l1 m (k : Int) l0 l1 r0 r1 = some (r0, r) ∧ r.length ≤ 30
  | 0, k, m, r1, hk, hr, hm => by
    obtain ⟨m, rfl⟩ : ∃ m', m = m' + 1 := ⟨m - 1, by omega⟩
    simp only [topiarylaw15_small.l1]
    by_cases h : (k : Int) < (l1.length : Int)
    · rw [if_pos h, if_neg (by omega)]; exact ⟨r1, rfl, by omega⟩
    · rw [if_neg h]; exact ⟨r1, rfl, by omega⟩
  | d + 1, k, m, r1, hk, hr, hm => by
    obtain ⟨m, rfl⟩ : ∃ m', m = m' + 1 := ⟨m - 1, by omega⟩
    simp only [topiarylaw15_small.l1]
    by_cases h : (k : Int) < (l1.length : Int)
    · obtain ⟨s, hs⟩ := short_some ((rd_T52 l1 (k : Int)).f3)
      rw [if_pos h, if_pos (by omega), if_pos (by omega), hs]
      simp only [Option.bind_some]
      rw [if_pos (by omega), wrap_id (by omega) (by omega)]
      have e : ((k : Int) + 1) = ((k + 1 : Nat) : Int) := by omega
      rw [e]
      exact small_nodes l0 l1 r0 d (k + 1) m _ (by omega) (by simp; omega) (by omega)
    · rw [if_neg h]; exact ⟨r1, rfl, by omega⟩
theorem small_names (l0 : List ByteArray) (l1 : List S52) : ∀ (d k m : Nat) (r0 : List ByteArray), k + d = 12 → r0.length ≤ k → d + 40 < m → ∃ r r', topiarylaw15_small.l0 m (k : Int) l0 l1 r0 = some (r, r') ∧ r.length ≤ 12 ∧ r'.length ≤ 30
  | 0, k, m, r0, hk, hr, hm => by
    obtain ⟨m, rfl⟩ : ∃ m', m = m' + 2 := ⟨m - 2, by omega⟩
    obtain ⟨r, h1, h2⟩ := small_nodes l0 l1 r0 30 0 m [] rfl (by simp) (by omega)
    refine ⟨r0, r, ?_, by omega, h2⟩
    simp only [topiarylaw15_small.l0]
    by_cases h : (k : Int) < (l0.length : Int)
    · rw [if_pos h, if_neg (by omega)]; exact h1
    · rw [if_neg h]; exact h1
  | d + 1, k, m, r0, hk, hr, hm => by
    obtain ⟨m, rfl⟩ : ∃ m', m = m' + 1 := ⟨m - 1, by omega⟩
    by_cases h : (k : Int) < (l0.length : Int)
    · obtain ⟨s, hs⟩ := short_some (rdOf ByteArray.empty l0 (k : Int))
      obtain ⟨r, r', h1, h2⟩ := small_names l0 l1 d (k + 1) m (r0 ++ [s]) (by omega) (by simp; omega) (by omega)
      refine ⟨r, r', ?_, h2⟩
      simp only [topiarylaw15_small.l0]
      rw [if_pos h, if_pos (by omega), if_pos (by omega), hs]
      simp only [Option.bind_some]
      rw [if_pos (by omega), wrap_id (by omega) (by omega)]
      have e : ((k : Int) + 1) = ((k + 1 : Nat) : Int) := by omega
      rw [e]
      exact h1
    · obtain ⟨m, rfl⟩ : ∃ m', m = m' + 1 := ⟨m - 1, by omega⟩
      obtain ⟨r, h1, h2⟩ := small_nodes l0 l1 r0 30 0 m [] rfl (by simp) (by omega)
      refine ⟨r0, r, ?_, by omega, h2⟩
      simp only [topiarylaw15_small.l0]
      rw [if_neg h]
      exact h1
theorem small_tells (l0 : List ByteArray) (l1 : List S52) : ∃ r r', topiarylaw15_small.f 100 l0 l1 = some (r, r') ∧ r.length ≤ 12 ∧ r'.length ≤ 30 :=
  small_names l0 l1 12 0 100 [] rfl (by simp) (by omega)
end Go.Proofs.Ytoanmoddppmffaa.T
