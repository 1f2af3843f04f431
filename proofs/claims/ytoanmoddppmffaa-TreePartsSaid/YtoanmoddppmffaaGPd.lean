/- TreeAround's plain law: what is around a node, and where it ends, as the reference says, of any tree and any number. -/
import Derived.Test.YtoanmoddppmffaaGPa
import Derived.Test.YtoanmoddppmffaaGTx18
namespace Go.Proofs.Ytoanmoddppmffaa.T
open Go.RowKit Go.Proofs.YtoanmoddppmffaaW.PrintWords Go.Proofs.YtoanmoddppmffaaW.PrintLast Go.Proofs.YtoanmoddppmffaaW.PrintMore
set_option linter.unusedVariables false
set_option linter.unusedSimpArgs false
theorem up_of' {α : Type} {F : Nat → Option α} (h : ∀ k, LeO (F k) (F (k + 1))) {k m : Nat} (hk : k ≤ m) {r : α} (e : F k = some r) : F m = some r := by
  induction m with
  | zero => obtain rfl : k = 0 := by omega
            exact e
  | succ m ih =>
    by_cases hm : k ≤ m
    · exact h m _ (ih hm)
    · obtain rfl : k = m + 1 := by omega
      exact e
theorem chain_len (l1 : List S52) : ∀ d p, (chain l1 d p).length ≤ d
  | 0, p => by simp [chain]
  | d + 1, p => by
    rw [chain]
    by_cases h : 0 ≤ p
    · rw [if_pos h]; have := chain_len l1 d (parOf l1 p); simp; omega
    · rw [if_neg h]; simp
theorem up_tells (l0 : List ByteArray) (l1 : List S52) (i : Int) (hl : l1.length < 17592186044416) : tree_Up.f l0 l1 i = some ((aboves l1 i).map (symP l0 l1)) := by
  unfold tree_Up.f
  rw [if_pos hl]
end Go.Proofs.Ytoanmoddppmffaa.T
