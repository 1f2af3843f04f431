/- TreeAround's plain law: what is around a node, and where it ends, as the reference says, of any tree and any number. -/
import Derived.Test.YtoanmoddppmffaaCPa
import Derived.Test.YtoanmoddppmffaaCTx18
namespace Go.Proofs.Ytoanmoddppmffaa.T
open Go.RowKit Go.Proofs.YtoanmoddppmffaaW.PrintWords Go.Proofs.YtoanmoddppmffaaW.PrintLast Go.Proofs.YtoanmoddppmffaaW.PrintMore
set_option linter.unusedVariables false
set_option linter.unusedSimpArgs false
theorem chain_len (l1 : List S52) : ∀ d p, (chain l1 d p).length ≤ d
  | 0, p => by simp [chain]
  | d + 1, p => by
    rw [chain]
    by_cases h : 0 ≤ p
    · rw [if_pos h]; have := chain_len l1 d (parOf l1 p); simp; omega
    · rw [if_neg h]; simp
theorem up_tells (l0 : List ByteArray) (l1 : List S52) (i : Int) (hl : l1.length < 17592186044416) : tree_Up.f l0 l1 i = some ((aboves l1 i).map (symP l0 l1)) := by
  unfold tree_Up.f
  rw [if_pos hl]
theorem depth_tells (l0 : List ByteArray) (l1 : List S52) (i : Int) (hl : l1.length < 17592186044416) : tree_Depth.f l0 l1 i = some (if 0 ≤ i ∧ i < (l1.length : Int) then ((aboves l1 i).length : Int) else -1) := by
  unfold tree_Depth.f
  by_cases h0 : i < 0
  · rw [if_pos h0, if_neg (by omega)]
  · by_cases h1 : i ≥ (l1.length : Int)
    · rw [if_neg h0, if_pos h1, if_neg (by omega)]
    · rw [if_neg h0, if_neg h1, if_pos (by omega), up_tells l0 l1 i hl]
      simp
def wi (l1 : List S52) (i : Int) : Nat → Int → Bool
  | 0, _ => false
  | d + 1, j => if 0 ≤ j then (if j = i then true else wi l1 i d (parOf l1 j)) else false
def wit (l1 : List S52) (i j : Int) : Bool := wi l1 i (j.toNat + 1) j
theorem wi_any (l1 : List S52) (i : Int) : ∀ (d d' : Nat) (j : Int), j < d → j < d' → wi l1 i d j = wi l1 i d' j
  | 0, 0, j, _, _ => rfl
  | 0, d' + 1, j, h, _ => by rw [wi, wi, if_neg (by omega)]
  | d + 1, 0, j, _, h => by rw [wi, wi, if_neg (by omega)]
  | d + 1, d' + 1, j, h, h' => by
    rw [wi, wi]
    by_cases h0 : 0 ≤ j
    · have := parOf_le l1 j
      rw [wi_any l1 i d d' (parOf l1 j) (by omega) (by omega)]
    · rw [if_neg h0, if_neg h0]
theorem wi_wit (l1 : List S52) (i : Int) (d : Nat) (j : Int) (h : j < d) : wi l1 i d j = wit l1 i j := wi_any l1 i _ _ j h (by omega)
theorem wit_step (l1 : List S52) (i j : Int) (h0 : 0 ≤ j) : wit l1 i j = if j = i then true else wit l1 i (parOf l1 j) := by
  have := parOf_le l1 j
  rw [← wi_wit l1 i (j.toNat + 1 + 1) j (by omega), wi, if_pos h0, wi_wit l1 i (j.toNat + 1) (parOf l1 j) (by omega)]
theorem wit_neg (l1 : List S52) (i j : Int) (h0 : j < 0) : wit l1 i j = false := by
  rw [wit, wi, if_neg (by omega)]
theorem wit_below (l1 : List S52) (i : Int) : ∀ (d : Nat) (j : Int), j < d → j < i → wit l1 i j = false
  | 0, j, h, _ => wit_neg l1 i j (by omega)
  | d + 1, j, h, hi => by
    by_cases h0 : 0 ≤ j
    · have := parOf_le l1 j
      rw [wit_step l1 i j h0, if_neg (by omega)]
      by_cases h1 : 0 ≤ parOf l1 j
      · exact wit_below l1 i d (parOf l1 j) (by omega) (by omega)
      · exact wit_neg l1 i _ (by omega)
    · exact wit_neg l1 i j (by omega)
def endFrom (l1 : List S52) (i : Int) : Nat → Int → Int → Int
  | 0, _, e => e
  | d + 1, k, e => endFrom l1 i d (k + 1) (if wit l1 i k = true then k + 1 else e)
def endOf (l1 : List S52) (i : Int) : Int := if 0 ≤ i ∧ i < (l1.length : Int) then endFrom l1 i (l1.length - i.toNat - 1) (i + 1) (i + 1) else -1
theorem rdOf_set_self (x : List Bool) (k : Nat) (b : Bool) (hk : k < x.length) : rdOf false (x.set k b) (k : Int) = b := by
  simp [rdOf, List.getD, List.getElem?_set_self, hk]
theorem rdOf_set_ne (x : List Bool) (k t : Nat) (b : Bool) (hk : k ≠ t) : rdOf false (x.set k b) (t : Int) = rdOf false x (t : Int) := by
  simp [rdOf, List.getD, List.getElem?_set_ne hk]
theorem treeEnd_from (l0 : List ByteArray) (l1 : List S52) (i : Int) (hi : 0 ≤ i) (hl : l1.length < 17592186044416) : ∀ (d k m : Nat) (e : Int) (x : List Bool), k + d = l1.length → i < k → x.length = l1.length → (∀ t : Nat, t < k → rdOf false x (t : Int) = wit l1 i t) → d + 3 < m →
    tree_End.l0 m e x (k : Int) l0 l1 = some (endFrom l1 i d k e)
  | 0, k, m, e, x, hk, hik, hx, hv, hm => by
    obtain ⟨m, rfl⟩ : ∃ m', m = m' + 1 := ⟨m - 1, by omega⟩
    rw [tree_End.l0, if_neg (by omega), endFrom]
  | d + 1, k, m, e, x, hk, hik, hx, hv, hm => by
    obtain ⟨m, rfl⟩ : ∃ m', m = m' + 1 := ⟨m - 1, by omega⟩
    have hp : tree_Parent.f m l0 l1 k = some (parOf l1 k) := by
      obtain ⟨m, rfl⟩ : ∃ m', m = m' + 1 := ⟨m - 1, by omega⟩
      exact parent_tells m l0 l1 k
    have ez : ((k : Int) + 1) = ((k + 1 : Nat) : Int) := by omega
    have hkn : ((k : Nat) : Int).toNat = k := by omega
    have hpl := parOf_le l1 k
    -- the cell that is written holds whether k is within i
    have go : ∀ b, b = wit l1 i k → (if rdOf false (x.set k b) k = true then tree_End.l0 m (wrap64 ((k : Int) + 1)) (x.set k b) (wrap64 ((k : Int) + 1)) l0 l1 else tree_End.l0 m e (x.set k b) (wrap64 ((k : Int) + 1)) l0 l1) = some (endFrom l1 i (d + 1) k e) := by
      intro b hb
      rw [rdOf_set_self x k b (by omega), endFrom, ← hb, wrap_id (by omega) (by omega), ez]
      have hv' : ∀ t : Nat, t < k + 1 → rdOf false (x.set k b) (t : Int) = wit l1 i t := by
        intro t ht
        by_cases hkt : k = t
        · subst hkt
          rw [rdOf_set_self x k b (by omega), hb]
        · rw [rdOf_set_ne x k t b hkt, hv t (by omega)]
      by_cases c : b = true
      · rw [if_pos c, if_pos c]
        exact treeEnd_from l0 l1 i hi hl d (k + 1) m _ _ (by omega) (by omega) (by simpa using hx) hv' (by omega)
      · rw [if_neg c, if_neg c]
        exact treeEnd_from l0 l1 i hi hl d (k + 1) m e _ (by omega) (by omega) (by simpa using hx) hv' (by omega)
    have hst := wit_step l1 i k (by omega)
    rw [if_neg (by omega)] at hst
    rw [tree_End.l0, if_pos (by omega), hp, Option.bind_some]
    by_cases c : parOf l1 k ≥ 0
    · obtain ⟨p, hpe⟩ := Int.eq_ofNat_of_zero_le (show 0 ≤ parOf l1 k from c)
      have hb := go (rdOf false x (parOf l1 k)) (by rw [hst, hpe]; exact hv p (by omega))
      rw [if_pos c, if_pos (show 0 ≤ parOf l1 k from c), if_pos (by omega), if_pos (by omega), if_pos (by omega), Option.bind_some, hkn]
      exact hb
    · have hb := go false (by rw [hst, wit_neg l1 i _ (by omega)])
      rw [if_neg c, if_pos (by omega), if_pos (by omega), Option.bind_some, hkn]
      exact hb
theorem treeEnd_tells (l0 : List ByteArray) (l1 : List S52) (i : Int) (m : Nat) (hl : l1.length < 17592186044416) (hm : l1.length + 9 < m) : tree_End.f m l0 l1 i = some (endOf l1 i) := by
  unfold tree_End.f endOf
  obtain ⟨m, rfl⟩ : ∃ m', m = m' + 1 := ⟨m - 1, by omega⟩
  by_cases h0 : i < 0
  · rw [if_pos h0, if_neg (by omega), tree_End.j0, if_pos rfl]
  · rw [if_neg h0, tree_End.j0]
    by_cases h1 : i ≥ (l1.length : Int)
    · rw [if_pos (decide_eq_true h1), if_neg (by omega)]
    · obtain ⟨n, rfl⟩ := Int.eq_ofNat_of_zero_le (show 0 ≤ i by omega)
      have hn : n < l1.length := by omega
      have hi : ((n : Nat) : Int).toNat = n := by omega
      have hlz : ((l1.length : Nat) : Int).toNat = l1.length := by omega
      have ez : ((n : Int) + 1) = ((n + 1 : Nat) : Int) := by omega
      have hnl : (List.replicate l1.length false).length = l1.length := by simp
      rw [if_neg (by simpa using h1), if_pos (by omega), if_pos (by omega), hlz, hi, if_pos (by omega), Option.bind_some, hnl, if_pos (by omega), if_pos (by omega), wrap_id (by omega) (by omega), ez]
      refine treeEnd_from l0 l1 n (by omega) hl (l1.length - n - 1) (n + 1) m _ _ (by omega) (by omega) (by simp) (fun t ht => ?_) (by omega)
      by_cases htn : n = t
      · subst htn
        rw [rdOf_set_self _ n true (by simp; omega), wit_step l1 n n (by omega), if_pos rfl]
      · rw [rdOf_set_ne _ n t true htn, wit_below l1 n n t (by omega) (by omega)]
        simp [rdOf, List.getD, List.getElem?_replicate]
        split <;> rfl
end Go.Proofs.Ytoanmoddppmffaa.T
