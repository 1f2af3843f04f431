/- TreeAround's plain law: what is around a node, and where it ends, as the reference says, of any tree and any number. -/
import Derived.Test.YtoanmoddppmffaaJPa
import Derived.Test.YtoanmoddppmffaaJTx18
namespace Go.Proofs.Ytoanmoddppmffaa.T
open Go.RowKit Go.Proofs.YtoanmoddppmffaaW.PrintWords Go.Proofs.YtoanmoddppmffaaW.PrintLast Go.Proofs.YtoanmoddppmffaaW.PrintMore
set_option linter.unusedVariables false
set_option linter.unusedSimpArgs false
theorem up_of' {α : Type} {F : Nat → Option α} (h : ∀ k, LeO (F k) (F (k + 1))) {k m : Nat} (hk : k ≤ m) {r : α} (e : F k = some r) : F m = some r := by
  induction m with
  | zero => obtain rfl : k = 0 := by omega
            exact e
  | succ m ih =>
    by_cases hm : k ≤ m
    · exact h m _ (ih hm)
    · obtain rfl : k = m + 1 := by omega
      exact e
theorem refUp_from (l0 : List ByteArray) (l1 : List S52) : ∀ (d m : Nat) (xs : List Int) (p : Int), p < d → xs.length + d ≤ 17592186044416 → d + 6 < m → topiaryref15_Up.l0 m xs p l0 l1 = some (xs ++ (chain l1 d p).map (symP l0 l1))
  | 0, m, xs, p, hp, hx, hm => by
    obtain ⟨m, rfl⟩ : ∃ m', m = m' + 1 := ⟨m - 1, by omega⟩
    rw [topiaryref15_Up.l0, if_neg (by omega)]
    simp [chain]
  | d + 1, m, xs, p, hp, hx, hm => by
    obtain ⟨m, rfl⟩ : ∃ m', m = m' + 1 := ⟨m - 1, by omega⟩
    rw [topiaryref15_Up.l0, chain]
    by_cases h0 : 0 ≤ p
    · have hr : topiaryref15_Symbol.f m l0 l1 p = some (symP l0 l1 p) := up_of' (F := fun k => topiaryref15_Symbol.f k l0 l1 p) (topiaryref15_Symbol.mono l0 l1 p) (by omega : 3 ≤ m) (refSymbol_tells l0 l1 p)
      have hq := parOf_le l1 p
      have ih := refUp_from l0 l1 d m (xs ++ [symP l0 l1 p]) (parOf l1 p) (by omega) (by simp; omega) (by omega)
      rw [if_pos h0, if_pos (show p ≥ 0 from h0), hr, Option.bind_some, if_pos (by omega), refParent_tells, Option.bind_some, ih]
      simp
    · rw [if_neg h0, if_neg (by omega)]
      simp
theorem refUp_tells (l0 : List ByteArray) (l1 : List S52) (i : Int) (m : Nat) (hl : l1.length < 17592186044416) (hm : l1.length + 6 < m) : topiaryref15_Up.f m l0 l1 i = some ((aboves l1 i).map (symP l0 l1)) := by
  unfold topiaryref15_Up.f
  rw [refParent_tells, Option.bind_some, refUp_from l0 l1 l1.length m [] (parOf l1 i) (parOf_bound l1 i) (by simp; omega) hm]
  simp [aboves]
theorem chain_len (l1 : List S52) : ∀ d p, (chain l1 d p).length ≤ d
  | 0, p => by simp [chain]
  | d + 1, p => by
    rw [chain]
    by_cases h : 0 ≤ p
    · rw [if_pos h]; have := chain_len l1 d (parOf l1 p); simp; omega
    · rw [if_neg h]; simp
theorem up_tells (l0 : List ByteArray) (l1 : List S52) (i : Int) (hl : l1.length < 17592186044416) : tree_Up.f l0 l1 i = some ((aboves l1 i).map (symP l0 l1)) := by
  unfold tree_Up.f
  rw [if_pos hl]
end Go.Proofs.Ytoanmoddppmffaa.T
