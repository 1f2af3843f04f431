/- Plain laws on trees: what the reference's symbols, parents and children come to, and that the small tree is small. -/
import Derived.Test.YtoanmoddppmffaaGTx14
import Derived.Test.YtoanmoddppmffaaGTx15
import Derived.Test.YtoanmoddppmffaaGTx16
import Derived.Test.YtoanmoddppmffaaGTx17
import Derived.KernelRfl
namespace Go.Proofs.Ytoanmoddppmffaa.T
open Go.RowKit Go.Proofs.YtoanmoddppmffaaW.PrintWords Go.Proofs.YtoanmoddppmffaaW.PrintLast Go.Proofs.YtoanmoddppmffaaW.PrintMore
theorem wrap_id {x : Int} (h0 : -9223372036854775808 ≤ x) (h1 : x ≤ 9223372036854775807) : wrap64 x = x := by unfold wrap64; omega
def symOf (l0 : List ByteArray) (l1 : List S52) (i : Int) : Int :=
  if 0 ≤ i ∧ i < (l1.length : Int) then
    (if (rd_T52 l1 i).f0 ≠ 1 ∧ (rd_T52 l1 i).f0 ≠ 2 then wrap64 (2 * (l0.length : Int))
     else if 0 ≤ (rd_T52 l1 i).f1 ∧ (rd_T52 l1 i).f1 < (l0.length : Int) then (if (rd_T52 l1 i).f0 = 2 then wrap64 (wrap64 (2 * (rd_T52 l1 i).f1) + 1) else wrap64 (2 * (rd_T52 l1 i).f1)) else -1)
  else -1
theorem wrap_back (n : Int) : wrap64 (wrap64 (wrap64 (2 * n) + 1) - 1) = wrap64 (2 * n) := by unfold wrap64; omega
theorem symbol_tells (l0 : List ByteArray) (l1 : List S52) (i : Int) : tree_Symbol.f 3 l0 l1 i = some (symOf l0 l1 i) := by
  unfold tree_Symbol.f symOf
  by_cases h : (0 ≤ i ∧ i < (l1.length : Int))
  · have h0 : ¬ i < 0 := by omega
    have h1 : decide (i ≥ (l1.length : Int)) = false := decide_eq_false (by omega)
    rw [if_neg h0, h1, if_pos h]
    simp only [tree_Symbol.j0]
    rw [if_neg (show ¬ false = true by decide), if_pos h.1, if_pos h.2]
    by_cases k1 : (rd_T52 l1 i).f0 = 1
    · have k2 : ¬ (rd_T52 l1 i).f0 = 2 := by omega
      have k3 : ¬ ((rd_T52 l1 i).f0 ≠ 1 ∧ (rd_T52 l1 i).f0 ≠ 2) := by omega
      rw [if_neg k3]
      simp only [tree_Symbol.j1, tree_Symbol.j2]
      by_cases n0 : (rd_T52 l1 i).f1 ≥ 0
      · by_cases n1 : (rd_T52 l1 i).f1 < (l0.length : Int)
        · simp [n0, n1, k1]
        · simp [n0, n1, k1]
      · simp [n0, k1]
    · by_cases k2 : (rd_T52 l1 i).f0 = 2
      · have k3 : ¬ ((rd_T52 l1 i).f0 ≠ 1 ∧ (rd_T52 l1 i).f0 ≠ 2) := by omega
        rw [if_neg k3]
        simp only [tree_Symbol.j1, tree_Symbol.j2]
        by_cases n0 : (rd_T52 l1 i).f1 ≥ 0
        · by_cases n1 : (rd_T52 l1 i).f1 < (l0.length : Int)
          · simp [n0, n1, k2]
          · simp [n0, n1, k2]
        · simp [n0, k2]
      · rw [if_pos (show ((rd_T52 l1 i).f0 ≠ 1 ∧ (rd_T52 l1 i).f0 ≠ 2) from ⟨k1, k2⟩)]
        simp only [tree_Symbol.j1, tree_Symbol.j2, tree_Symbols.f, Option.bind_some]
        simp [k1, k2, wrap_back]
  · rw [if_neg h]
    by_cases h0 : i < 0
    · rw [if_pos h0]; simp [tree_Symbol.j0]
    · have h1 : decide (i ≥ (l1.length : Int)) = true := decide_eq_true (by omega)
      rw [if_neg h0, h1]; simp [tree_Symbol.j0]
theorem symP_eq (l0 : List ByteArray) (l1 : List S52) (i : Int) : symP l0 l1 i = symOf l0 l1 i := by
  unfold symP
  rw [symbol_tells]; rfl
theorem rd_get (l : List Int) (j : Nat) : rd l (j : Int) = l.getD j 0 := rfl
end Go.Proofs.Ytoanmoddppmffaa.T
