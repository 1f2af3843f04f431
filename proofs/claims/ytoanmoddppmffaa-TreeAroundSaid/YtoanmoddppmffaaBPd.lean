/- TreeAround's plain law: what is around a node, and where it ends, as the reference says, of any tree and any number. -/
import Derived.Test.YtoanmoddppmffaaBPa
import Derived.Test.YtoanmoddppmffaaBTx18
namespace Go.Proofs.Ytoanmoddppmffaa.T
open Go.RowKit Go.Proofs.YtoanmoddppmffaaW.PrintWords Go.Proofs.YtoanmoddppmffaaW.PrintLast Go.Proofs.YtoanmoddppmffaaW.PrintMore
set_option linter.unusedVariables false
set_option linter.unusedSimpArgs false
theorem up_of' {α : Type} {F : Nat → Option α} (h : ∀ k, LeO (F k) (F (k + 1))) {k m : Nat} (hk : k ≤ m) {r : α} (e : F k = some r) : F m = some r := by
  induction m with
  | zero => obtain rfl : k = 0 := by omega
            exact e
  | succ m ih =>
    by_cases hm : k ≤ m
    · exact h m _ (ih hm)
    · obtain rfl : k = m + 1 := by omega
      exact e
theorem refUp_from (l0 : List ByteArray) (l1 : List S52) : ∀ (d m : Nat) (xs : List Int) (p : Int), p < d → xs.length + d ≤ 17592186044416 → d + 6 < m → topiaryref15_Up.l0 m xs p l0 l1 = some (xs ++ (chain l1 d p).map (symP l0 l1))
  | 0, m, xs, p, hp, hx, hm => by
    obtain ⟨m, rfl⟩ : ∃ m', m = m' + 1 := ⟨m - 1, by omega⟩
    rw [topiaryref15_Up.l0, if_neg (by omega)]
    simp [chain]
  | d + 1, m, xs, p, hp, hx, hm => by
    obtain ⟨m, rfl⟩ : ∃ m', m = m' + 1 := ⟨m - 1, by omega⟩
    rw [topiaryref15_Up.l0, chain]
    by_cases h0 : 0 ≤ p
    · have hr : topiaryref15_Symbol.f m l0 l1 p = some (symP l0 l1 p) := up_of' (F := fun k => topiaryref15_Symbol.f k l0 l1 p) (topiaryref15_Symbol.mono l0 l1 p) (by omega : 3 ≤ m) (refSymbol_tells l0 l1 p)
      have hq := parOf_le l1 p
      have ih := refUp_from l0 l1 d m (xs ++ [symP l0 l1 p]) (parOf l1 p) (by omega) (by simp; omega) (by omega)
      rw [if_pos h0, if_pos (show p ≥ 0 from h0), hr, Option.bind_some, if_pos (by omega), refParent_tells, Option.bind_some, ih]
      simp
    · rw [if_neg h0, if_neg (by omega)]
      simp
theorem refUp_tells (l0 : List ByteArray) (l1 : List S52) (i : Int) (m : Nat) (hl : l1.length < 17592186044416) (hm : l1.length + 6 < m) : topiaryref15_Up.f m l0 l1 i = some ((aboves l1 i).map (symP l0 l1)) := by
  unfold topiaryref15_Up.f
  rw [refParent_tells, Option.bind_some, refUp_from l0 l1 l1.length m [] (parOf l1 i) (parOf_bound l1 i) (by simp; omega) hm]
  simp [aboves]
theorem chain_len (l1 : List S52) : ∀ d p, (chain l1 d p).length ≤ d
  | 0, p => by simp [chain]
  | d + 1, p => by
    rw [chain]
    by_cases h : 0 ≤ p
    · rw [if_pos h]; have := chain_len l1 d (parOf l1 p); simp; omega
    · rw [if_neg h]; simp
theorem up_tells (l0 : List ByteArray) (l1 : List S52) (i : Int) (hl : l1.length < 17592186044416) : tree_Up.f l0 l1 i = some ((aboves l1 i).map (symP l0 l1)) := by
  unfold tree_Up.f
  rw [if_pos hl]
theorem depth_tells (l0 : List ByteArray) (l1 : List S52) (i : Int) (hl : l1.length < 17592186044416) : tree_Depth.f l0 l1 i = some (if 0 ≤ i ∧ i < (l1.length : Int) then ((aboves l1 i).length : Int) else -1) := by
  unfold tree_Depth.f
  by_cases h0 : i < 0
  · rw [if_pos h0, if_neg (by omega)]
  · by_cases h1 : i ≥ (l1.length : Int)
    · rw [if_neg h0, if_pos h1, if_neg (by omega)]
    · rw [if_neg h0, if_neg h1, if_pos (by omega), up_tells l0 l1 i hl]
      simp
def wi (l1 : List S52) (i : Int) : Nat → Int → Bool
  | 0, _ => false
  | d + 1, j => if 0 ≤ j then (if j = i then true else wi l1 i d (parOf l1 j)) else false
def wit (l1 : List S52) (i j : Int) : Bool := wi l1 i (j.toNat + 1) j
theorem wi_any (l1 : List S52) (i : Int) : ∀ (d d' : Nat) (j : Int), j < d → j < d' → wi l1 i d j = wi l1 i d' j
  | 0, 0, j, _, _ => rfl
  | 0, d' + 1, j, h, _ => by rw [wi, wi, if_neg (by omega)]
  | d + 1, 0, j, _, h => by rw [wi, wi, if_neg (by omega)]
  | d + 1, d' + 1, j, h, h' => by
    rw [wi, wi]
    by_cases h0 : 0 ≤ j
    · have := parOf_le l1 j
      rw [wi_any l1 i d d' (parOf l1 j) (by omega) (by omega)]
    · rw [if_neg h0, if_neg h0]
theorem wi_wit (l1 : List S52) (i : Int) (d : Nat) (j : Int) (h : j < d) : wi l1 i d j = wit l1 i j := wi_any l1 i _ _ j h (by omega)
theorem wit_step (l1 : List S52) (i j : Int) (h0 : 0 ≤ j) : wit l1 i j = if j = i then true else wit l1 i (parOf l1 j) := by
  have := parOf_le l1 j
  rw [← wi_wit l1 i (j.toNat + 1 + 1) j (by omega), wi, if_pos h0, wi_wit l1 i (j.toNat + 1) (parOf l1 j) (by omega)]
theorem wit_neg (l1 : List S52) (i j : Int) (h0 : j < 0) : wit l1 i j = false := by
  rw [wit, wi, if_neg (by omega)]
theorem wit_below (l1 : List S52) (i : Int) : ∀ (d : Nat) (j : Int), j < d → j < i → wit l1 i j = false
  | 0, j, h, _ => wit_neg l1 i j (by omega)
  | d + 1, j, h, hi => by
    by_cases h0 : 0 ≤ j
    · have := parOf_le l1 j
      rw [wit_step l1 i j h0, if_neg (by omega)]
      by_cases h1 : 0 ≤ parOf l1 j
      · exact wit_below l1 i d (parOf l1 j) (by omega) (by omega)
      · exact wit_neg l1 i _ (by omega)
    · exact wit_neg l1 i j (by omega)
theorem within_from (l0 : List ByteArray) (l1 : List S52) (i : Int) : ∀ (d m : Nat) (j : Int), j < d → d < m → topiaryref15_Within.l0 m i j l0 l1 = some (wit l1 i j)
  | 0, m, j, h, hm => by
    obtain ⟨m, rfl⟩ : ∃ m', m = m' + 1 := ⟨m - 1, by omega⟩
    rw [topiaryref15_Within.l0, if_neg (by omega), wit_neg l1 i j (by omega)]
  | d + 1, m, j, h, hm => by
    obtain ⟨m, rfl⟩ : ∃ m', m = m' + 1 := ⟨m - 1, by omega⟩
    rw [topiaryref15_Within.l0]
    by_cases h0 : j ≥ 0
    · rw [if_pos h0, wit_step l1 i j h0]
      by_cases h1 : j = i
      · rw [if_pos h1, if_pos h1]
      · have := parOf_le l1 j
        rw [if_neg h1, if_neg h1, refParent_tells, Option.bind_some]
        exact within_from l0 l1 i d m (parOf l1 j) (by omega) (by omega)
    · rw [if_neg h0, wit_neg l1 i j (by omega)]
def endFrom (l1 : List S52) (i : Int) : Nat → Int → Int → Int
  | 0, _, e => e
  | d + 1, k, e => endFrom l1 i d (k + 1) (if wit l1 i k = true then k + 1 else e)
theorem refEnd_from (l0 : List ByteArray) (l1 : List S52) (i : Int) (hl : l1.length < 17592186044416) : ∀ (d k m : Nat) (e : Int), k + d = l1.length → l1.length + d + 3 < m → topiaryref15_End.l0 m i e (k : Int) l0 l1 = some (endFrom l1 i d k e)
  | 0, k, m, e, hk, hm => by
    obtain ⟨m, rfl⟩ : ∃ m', m = m' + 1 := ⟨m - 1, by omega⟩
    rw [topiaryref15_End.l0, if_neg (by omega), endFrom]
  | d + 1, k, m, e, hk, hm => by
    obtain ⟨m, rfl⟩ : ∃ m', m = m' + 1 := ⟨m - 1, by omega⟩
    have hw : topiaryref15_Within.f m l0 l1 i k = some (wit l1 i k) := within_from l0 l1 i (k + 1) m k (by omega) (by omega)
    have ez : ((k : Int) + 1) = ((k + 1 : Nat) : Int) := by omega
    rw [topiaryref15_End.l0, if_pos (by omega), hw, Option.bind_some, endFrom, wrap_id (by omega) (by omega), ez]
    by_cases c : wit l1 i k = true
    · rw [if_pos c, if_pos c]
      exact refEnd_from l0 l1 i hl d (k + 1) m _ (by omega) (by omega)
    · rw [if_neg c, if_neg c]
      exact refEnd_from l0 l1 i hl d (k + 1) m e (by omega) (by omega)
def endOf (l1 : List S52) (i : Int) : Int := if 0 ≤ i ∧ i < (l1.length : Int) then endFrom l1 i (l1.length - i.toNat - 1) (i + 1) (i + 1) else -1
theorem refEnd_tells (l0 : List ByteArray) (l1 : List S52) (i : Int) (m : Nat) (hl : l1.length < 17592186044416) (hm : l1.length + l1.length + 9 < m) : topiaryref15_End.f m l0 l1 i = some (endOf l1 i) := by
  unfold topiaryref15_End.f endOf
  obtain ⟨m, rfl⟩ : ∃ m', m = m' + 1 := ⟨m - 1, by omega⟩
  by_cases h0 : i < 0
  · rw [if_pos h0, if_neg (by omega), topiaryref15_End.j0, if_pos rfl]
  · rw [if_neg h0, topiaryref15_End.j0]
    by_cases h1 : i ≥ (l1.length : Int)
    · rw [if_pos (decide_eq_true h1), if_neg (by omega)]
    · rw [if_neg (by simpa using h1), if_pos (by omega)]
      obtain ⟨n, rfl⟩ := Int.eq_ofNat_of_zero_le (show 0 ≤ i by omega)
      have hn : n < l1.length := by omega
      have z := refEnd_from l0 l1 n hl (l1.length - n) n m ((n : Int) + 1) (by omega) (by omega)
      obtain ⟨d, hd⟩ : ∃ d, l1.length - n = d + 1 := ⟨l1.length - n - 1, by omega⟩
      rw [hd, endFrom] at z
      have hi : ((n : Nat) : Int).toNat = n := by omega
      rw [wrap_id (by omega) (by omega)]
      rw [z, hi, show l1.length - n - 1 = d by omega]
      by_cases c : wit l1 n n = true
      · rw [if_pos c]
      · rw [if_neg c]
theorem rdOf_set_self (x : List Bool) (k : Nat) (b : Bool) (hk : k < x.length) : rdOf false (x.set k b) (k : Int) = b := by
  simp [rdOf, List.getD, List.getElem?_set_self, hk]
theorem rdOf_set_ne (x : List Bool) (k t : Nat) (b : Bool) (hk : k ≠ t) : rdOf false (x.set k b) (t : Int) = rdOf false x (t : Int) := by
  simp [rdOf, List.getD, List.getElem?_set_ne hk]
theorem treeEnd_from (l0 : List ByteArray) (l1 : List S52) (i : Int) (hi : 0 ≤ i) (hl : l1.length < 17592186044416) : ∀ (d k m : Nat) (e : Int) (x : List Bool), k + d = l1.length → i < k → x.length = l1.length → (∀ t : Nat, t < k → rdOf false x (t : Int) = wit l1 i t) → d + 3 < m →
    tree_End.l0 m e x (k : Int) l0 l1 = some (endFrom l1 i d k e)
  | 0, k, m, e, x, hk, hik, hx, hv, hm => by
    obtain ⟨m, rfl⟩ : ∃ m', m = m' + 1 := ⟨m - 1, by omega⟩
    rw [tree_End.l0, if_neg (by omega), endFrom]
  | d + 1, k, m, e, x, hk, hik, hx, hv, hm => by
    obtain ⟨m, rfl⟩ : ∃ m', m = m' + 1 := ⟨m - 1, by omega⟩
    have hp : tree_Parent.f m l0 l1 k = some (parOf l1 k) := by
      obtain ⟨m, rfl⟩ : ∃ m', m = m' + 1 := ⟨m - 1, by omega⟩
      exact parent_tells m l0 l1 k
    have ez : ((k : Int) + 1) = ((k + 1 : Nat) : Int) := by omega
    have hkn : ((k : Nat) : Int).toNat = k := by omega
    have hpl := parOf_le l1 k
    -- the cell that is written holds whether k is within i
    have go : ∀ b, b = wit l1 i k → (if rdOf false (x.set k b) k = true then tree_End.l0 m (wrap64 ((k : Int) + 1)) (x.set k b) (wrap64 ((k : Int) + 1)) l0 l1 else tree_End.l0 m e (x.set k b) (wrap64 ((k : Int) + 1)) l0 l1) = some (endFrom l1 i (d + 1) k e) := by
      intro b hb
      rw [rdOf_set_self x k b (by omega), endFrom, ← hb, wrap_id (by omega) (by omega), ez]
      have hv' : ∀ t : Nat, t < k + 1 → rdOf false (x.set k b) (t : Int) = wit l1 i t := by
        intro t ht
        by_cases hkt : k = t
        · subst hkt
          rw [rdOf_set_self x k b (by omega), hb]
        · rw [rdOf_set_ne x k t b hkt, hv t (by omega)]
      by_cases c : b = true
      · rw [if_pos c, if_pos c]
        exact treeEnd_from l0 l1 i hi hl d (k + 1) m _ _ (by omega) (by omega) (by simpa using hx) hv' (by omega)
      · rw [if_neg c, if_neg c]
        exact treeEnd_from l0 l1 i hi hl d (k + 1) m e _ (by omega) (by omega) (by simpa using hx) hv' (by omega)
    have hst := wit_step l1 i k (by omega)
    rw [if_neg (by omega)] at hst
    rw [tree_End.l0, if_pos (by omega), hp, Option.bind_some]
    by_cases c : parOf l1 k ≥ 0
    · obtain ⟨p, hpe⟩ := Int.eq_ofNat_of_zero_le (show 0 ≤ parOf l1 k from c)
      have hb := go (rdOf false x (parOf l1 k)) (by rw [hst, hpe]; exact hv p (by omega))
      rw [if_pos c, if_pos (show 0 ≤ parOf l1 k from c), if_pos (by omega), if_pos (by omega), if_pos (by omega), Option.bind_some, hkn]
      exact hb
    · have hb := go false (by rw [hst, wit_neg l1 i _ (by omega)])
      rw [if_neg c, if_pos (by omega), if_pos (by omega), Option.bind_some, hkn]
      exact hb
theorem treeEnd_tells (l0 : List ByteArray) (l1 : List S52) (i : Int) (m : Nat) (hl : l1.length < 17592186044416) (hm : l1.length + 9 < m) : tree_End.f m l0 l1 i = some (endOf l1 i) := by
  unfold tree_End.f endOf
  obtain ⟨m, rfl⟩ : ∃ m', m = m' + 1 := ⟨m - 1, by omega⟩
  by_cases h0 : i < 0
  · rw [if_pos h0, if_neg (by omega), tree_End.j0, if_pos rfl]
  · rw [if_neg h0, tree_End.j0]
    by_cases h1 : i ≥ (l1.length : Int)
    · rw [if_pos (decide_eq_true h1), if_neg (by omega)]
    · obtain ⟨n, rfl⟩ := Int.eq_ofNat_of_zero_le (show 0 ≤ i by omega)
      have hn : n < l1.length := by omega
      have hi : ((n : Nat) : Int).toNat = n := by omega
      have hlz : ((l1.length : Nat) : Int).toNat = l1.length := by omega
      have ez : ((n : Int) + 1) = ((n + 1 : Nat) : Int) := by omega
      have hnl : (List.replicate l1.length false).length = l1.length := by simp
      rw [if_neg (by simpa using h1), if_pos (by omega), if_pos (by omega), hlz, hi, if_pos (by omega), Option.bind_some, hnl, if_pos (by omega), if_pos (by omega), wrap_id (by omega) (by omega), ez]
      refine treeEnd_from l0 l1 n (by omega) hl (l1.length - n - 1) (n + 1) m _ _ (by omega) (by omega) (by simp) (fun t ht => ?_) (by omega)
      by_cases htn : n = t
      · subst htn
        rw [rdOf_set_self _ n true (by simp; omega), wit_step l1 n n (by omega), if_pos rfl]
      · rw [rdOf_set_ne _ n t true htn, wit_below l1 n n t (by omega) (by omega)]
        simp [rdOf, List.getD, List.getElem?_replicate]
        split <;> rfl
theorem around_at (l0 : List ByteArray) (l1 : List S52) (i : Int) (m : Nat) (hm : m + 2 = 200) : topiarylaw15_TreeAround.f (m + 2) l0 l1 i = some true := by
  obtain ⟨s0, s1, hs, h0, h1⟩ := small_tells l0 l1
  have hl : s1.length < 17592186044416 := by omega
  have ha : topiarylaw15_awake.f (m + 2) = some true := by rw [hm]; exact awake_tells
  have hsm : topiarylaw15_small.f (m + 2) l0 l1 = some (s0, s1) := up_of' (F := fun k => topiarylaw15_small.f k l0 l1) (topiarylaw15_small.mono l0 l1) (by omega : 100 ≤ m + 2) hs
  have hu := refUp_tells s0 s1 i (m + 2) hl (by omega)
  have hal : ((aboves s1 i).map (symP s0 s1)).length ≤ 30 := by
    have := chain_len s1 s1.length (parOf s1 i)
    rw [List.length_map]; unfold aboves; omega
  generalize hU : (aboves s1 i).map (symP s0 s1) = U at hu hal
  have hsame : topiaryref02_Same.f m U U = some true := up_of' (F := fun k => topiaryref02_Same.f k U U) (topiaryref02_Same.mono _ _) (by omega : U.length + 1 ≤ m) (same_tells _ (by omega))
  have hd := depth_tells s0 s1 i hl
  have he := treeEnd_tells s0 s1 i m hl (by omega)
  have hr := refEnd_tells s0 s1 i m hl (by omega)
  have htu := up_tells s0 s1 i hl
  rw [hU] at htu
  have hlen : ((aboves s1 i).length : Int) = (U.length : Int) := by rw [← hU, List.length_map]
  rw [hlen] at hd
  have j1s : ∀ z, z = (if 0 ≤ i ∧ i < (s1.length : Int) then (U.length : Int) else -1) → topiarylaw15_TreeAround.j1 (m + 1) i true U z s0 s1 = some true := by
    intro z hz
    rw [topiarylaw15_TreeAround.j1, htu, Option.bind_some, hsame, Option.bind_some, if_pos rfl, if_pos rfl, hd, Option.bind_some, if_pos hz.symm, he, Option.bind_some, hr, Option.bind_some, beq_self_eq_true]
  unfold topiarylaw15_TreeAround.f
  rw [ha, Option.bind_some, hsm, Option.bind_some, hu, Option.bind_some]
  by_cases c1 : i ≥ 0
  · rw [if_pos c1, topiarylaw15_TreeAround.j0]
    by_cases c2 : i < (s1.length : Int)
    · rw [if_pos (decide_eq_true c2)]
      exact j1s _ (by rw [if_pos ⟨c1, c2⟩])
    · rw [if_neg (by simpa using c2)]
      exact j1s _ (by rw [if_neg (fun h => c2 h.2)])
  · rw [if_neg c1, topiarylaw15_TreeAround.j0, if_neg (by decide)]
    exact j1s _ (by rw [if_neg (fun h => c1 h.1)])
theorem around_tells (l0 : List ByteArray) (l1 : List S52) (i : Int) : topiarylaw15_TreeAround.f (198 + 2) l0 l1 i = some true := around_at l0 l1 i 198 rfl
end Go.Proofs.Ytoanmoddppmffaa.T
