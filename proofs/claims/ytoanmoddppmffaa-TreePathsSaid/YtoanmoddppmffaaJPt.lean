/- TreePaths' plain law. -/
import Derived.Test.YtoanmoddppmffaaJPq
import Derived.Test.YtoanmoddppmffaaJPx
namespace Go.Proofs.Ytoanmoddppmffaa.T
open Go.RowKit Go.Proofs.YtoanmoddppmffaaW.PrintWords Go.Proofs.YtoanmoddppmffaaW.PrintLast Go.Proofs.YtoanmoddppmffaaW.PrintMore
set_option linter.unusedVariables false
set_option linter.unusedSimpArgs false
theorem awake_paths : topiarylaw15_awake.f 700000 = some true := by kernel_rfl
theorem take_rd' (l : List Int) (k : Nat) (h : k < l.length) : l.take (k + 1) = l.take k ++ [rd l (k : Int)] := by
  rw [List.take_succ_eq_append_getElem h, rd_get]
  simp [List.getD_eq_getElem?_getD, List.getElem?_eq_getElem h]
theorem rd_rev (p : List Int) (k : Nat) (h : k < p.length) : rd p.reverse (k : Int) = rd p ((p.length : Int) - 1 - (k : Int)) := by
  have e : (p.length : Int) - 1 - (k : Int) = ((p.length - 1 - k : Nat) : Int) := by omega
  rw [e, rd_get, rd_get, List.getD_eq_getElem?_getD, List.getD_eq_getElem?_getD, List.getElem?_reverse h]
def ft (p S : List Int) (k : Nat) : Bool := decide (p.length ≤ S.length ∧ p.reverse.take k = S.take k)
theorem ft_zero (p S : List Int) : ft p S 0 = decide ((p.length : Int) ≤ (S.length : Int)) := by
  unfold ft
  simp
theorem ft_end (p S : List Int) : ft p S p.length = pre p S := by
  unfold ft pre
  rw [List.take_of_length_le (show p.reverse.length ≤ p.length by simp)]
  by_cases h : p.reverse <+: S
  · rw [List.isPrefixOf_iff_prefix.2 h, decide_eq_true]
    have hl := h.length_le
    rw [List.length_reverse] at hl
    refine ⟨hl, ?_⟩
    have := List.prefix_iff_eq_take.1 h
    rw [List.length_reverse] at this
    exact this
  · have hf : p.reverse.isPrefixOf S = false := Bool.eq_false_iff.2 (fun h2 => h (List.isPrefixOf_iff_prefix.1 h2))
    rw [hf, decide_eq_false]
    rintro ⟨_, e⟩
    exact h (by rw [e]; exact List.take_prefix _ _)
theorem ft_step (p S : List Int) (k : Nat) (h : ft p S k = true) (hk : k < p.length) : ft p S (k + 1) = (rd p ((p.length : Int) - 1 - (k : Int)) == rd S (k : Int)) := by
  unfold ft at h
  obtain ⟨h1, h2⟩ := of_decide_eq_true h
  unfold ft
  rw [take_rd' p.reverse k (by simpa using hk), take_rd' S k (by omega), rd_rev p k hk, h2]
  by_cases e : rd p ((p.length : Int) - 1 - (k : Int)) = rd S (k : Int)
  · rw [beq_iff_eq.2 e, e, decide_eq_true ⟨h1, rfl⟩]
  · rw [beq_eq_false_iff_ne.2 e, decide_eq_false]
    rintro ⟨_, h3⟩
    have := List.append_cancel_left h3
    exact e (List.cons.inj this).1
theorem ft_stop (p S : List Int) (k : Nat) (h : ft p S k = false) (hk : k ≤ p.length) : pre p S = false := by
  rw [← ft_end]
  unfold ft at h ⊢
  rw [decide_eq_false_iff_not] at h ⊢
  rintro ⟨h1, h2⟩
  refine h ⟨h1, ?_⟩
  have := congrArg (List.take k) h2
  rw [List.take_take, List.take_take, Nat.min_eq_left hk] at this
  exact this
theorem rpaths_inner (l0 : List ByteArray) (l1 : List S52) (p : List Int) (hp : p.length ≤ 1000) (out : List Int) (ho : out.length ≤ 100000) (i : Int) (S : List Int) (hS : S.length ≤ 100000) (G : List Int → List Int) :
    ∀ (d k m : Nat), k + d = p.length → d + 1 < m → (∀ (m' : Nat) (o : List Int), m ≤ m' + d + 1 → (o = out ∨ o = out ++ [i]) → topiaryref15_Paths.l0 m' p o (wrap64 (i + 1)) l0 l1 = some (G o)) →
      topiaryref15_Paths.l1 m p out i S (ft p S k) (k : Int) l0 l1 = some (G (if pre p S = true then out ++ [i] else out))
  | 0, k, m, hk, hm, hc => by
    obtain ⟨m, rfl⟩ : ∃ m', m = m' + 1 := ⟨m - 1, by omega⟩
    obtain rfl : k = p.length := by omega
    rw [topiaryref15_Paths.l1, if_neg (by omega), ft_end]
    by_cases h : pre p S = true
    · rw [if_pos h, if_pos h, if_pos (by omega)]
      exact hc m _ (by omega) (.inr rfl)
    · rw [if_neg h, if_neg h]
      exact hc m _ (by omega) (.inl rfl)
  | d + 1, k, m, hk, hm, hc => by
    obtain ⟨m, rfl⟩ : ∃ m', m = m' + 1 := ⟨m - 1, by omega⟩
    rw [topiaryref15_Paths.l1, if_pos (by omega)]
    by_cases h : ft p S k = true
    · have hlen : p.length ≤ S.length := by
        unfold ft at h
        exact (of_decide_eq_true h).1
      have ih := rpaths_inner l0 l1 p hp out ho i S hS G d (k + 1) m (by omega) (by omega) (fun m' o h1 h2 => hc m' o (by omega) h2)
      rw [if_pos h, wrap_id (x := (p.length : Int) - 1) (by omega) (by omega), wrap_id (x := (p.length : Int) - 1 - (k : Int)) (by omega) (by omega), if_pos (by omega), if_pos (by omega), if_pos (by omega), if_pos (by omega), ← ft_step p S k h (by omega), wrap_id (by omega) (by omega), show ((k : Int) + 1) = ((k + 1 : Nat) : Int) by omega]
      exact ih
    · rw [if_neg h, ft_stop p S k (Bool.eq_false_iff.2 h) (by omega), if_neg (by decide)]
      exact hc m _ (by omega) (.inl rfl)
theorem rpaths_from (l0 : List ByteArray) (l1 : List S52) (p : List Int) (hl : l1.length ≤ 1000) (hp : p.length ≤ 1000) : ∀ (d j m : Nat) (out : List Int), j + d = l1.length → out.length ≤ j → (p.length + 4) * d + l1.length + 20 < m →
    topiaryref15_Paths.l0 m p out (j : Int) l0 l1 = some (out ++ pathsFrom l0 l1 p d j)
  | 0, j, m, out, hj, ho, hm => by
    obtain ⟨m, rfl⟩ : ∃ m', m = m' + 1 := ⟨m - 1, by omega⟩
    rw [topiaryref15_Paths.l0, if_neg (by omega), pathsFrom, List.append_nil]
  | d + 1, j, m, out, hj, ho, hm => by
    have hul := ups_len l0 l1 (j : Int)
    have hmul : (p.length + 4) * (d + 1) = (p.length + 4) * d + (p.length + 4) := Nat.mul_succ _ _
    obtain ⟨m, rfl⟩ : ∃ m', m = m' + 1 := ⟨m - 1, by omega⟩
    have hr : topiaryref15_Symbol.f m l0 l1 (j : Int) = some (symP l0 l1 (j : Int)) := up_of' (F := fun k => topiaryref15_Symbol.f k l0 l1 (j : Int)) (topiaryref15_Symbol.mono l0 l1 (j : Int)) (show 3 ≤ m by omega) (refSymbol_tells l0 l1 (j : Int))
    have hu : topiaryref15_Up.f m l0 l1 (j : Int) = some (ups l0 l1 (j : Int)) := refUp_tells l0 l1 (j : Int) m (by omega) (by omega)
    have hsig : [symP l0 l1 (j : Int)] ++ ups l0 l1 (j : Int) = sig l0 l1 (j : Int) := rfl
    have hsl : (sig l0 l1 (j : Int)).length ≤ l1.length + 1 := by unfold sig; rw [List.length_cons]; omega
    have := rpaths_inner l0 l1 p hp out (by omega) (j : Int) (sig l0 l1 (j : Int)) (by omega) (fun o => o ++ pathsFrom l0 l1 p d (j + 1)) p.length 0 m (by omega) (by omega) (fun m' o h1 h2 => by
      rw [wrap_id (by omega) (by omega), show ((j : Int) + 1) = ((j + 1 : Nat) : Int) by omega]
      refine rpaths_from l0 l1 p hl hp d (j + 1) m' o (by omega) ?_ (by omega)
      rcases h2 with rfl | rfl
      · omega
      · rw [List.length_append, List.length_singleton]; omega)
    rw [topiaryref15_Paths.l0, if_pos (by omega), hr, Option.bind_some, Option.bind_some, hu, Option.bind_some, if_pos (by simp; omega), Option.bind_some, hsig, ← ft_zero]
    rw [show ((0 : Nat) : Int) = 0 from rfl] at this
    rw [this, pathsFrom]
    by_cases c : pre p (sig l0 l1 (j : Int)) = true
    · rw [if_pos c, if_pos c]; simp
    · rw [if_neg c, if_neg c]
theorem rpaths_tells (l0 : List ByteArray) (l1 : List S52) (p : List Int) (hl : l1.length ≤ 1000) (hp : p.length ≤ 1000) (m : Nat) (hm : (p.length + 4) * l1.length + l1.length + 20 < m) : topiaryref15_Paths.f m l0 l1 p = some (pathsOf l0 l1 p) := by
  have := rpaths_from l0 l1 p hl hp l1.length 0 m [] (by omega) (by simp) hm
  rw [List.nil_append] at this
  exact this
theorem both (l0 : List ByteArray) (l1 : List S52) (hl : l1.length ≤ 30) (p : List Int) (hp : p.length ≤ 100) (m : Nat) (hm : 10000 < m) :
    ((tree_Paths.f m l0 l1 p).bind fun a => (topiaryref15_Paths.f m l0 l1 p).bind fun b => (topiaryref02_Same.f m a b).bind fun c => (if true = true then some c else some false)) = some true := by
  have h1 : (l1.length + 4) * l1.length ≤ 34 * 30 := Nat.mul_le_mul (by omega) hl
  have h2 : (p.length + 4) * l1.length ≤ 104 * 30 := Nat.mul_le_mul (by omega) hl
  have hpl := pathsFrom_len l0 l1 p l1.length 0
  have hsame : topiaryref02_Same.f m (pathsOf l0 l1 p) (pathsOf l0 l1 p) = some true := up_of' (F := fun k => topiaryref02_Same.f k (pathsOf l0 l1 p) (pathsOf l0 l1 p)) (topiaryref02_Same.mono _ _) (show (pathsOf l0 l1 p).length + 1 ≤ m by unfold pathsOf; omega) (same_tells _ (by unfold pathsOf; omega))
  rw [tpaths_tells l0 l1 p (by omega) (by omega) m (by omega), Option.bind_some, rpaths_tells l0 l1 p (by omega) (by omega) m (by omega), Option.bind_some, hsame, Option.bind_some, if_pos rfl]
theorem paths_loop (l0 : List ByteArray) (l1 : List S52) (hl : l1.length ≤ 30) (S : List Int) (hS : S.length ≤ 31) (o : Bool) (n : Int) (long : List Bool) : ∀ (d k m : Nat) (p : List Int), k + d = 32 → k ≤ S.length → p.length ≤ k → d + 10010 < m → topiarylaw15_TreePaths.l0 m p true S (k : Int) l0 l1 o n long = some true
  | d, k, 0, p, hk, hkS, hp, hm => by omega
  | d, k, m + 1, p, hk, hkS, hp, hm => by
    have hb := both l0 l1 hl p (by omega) m (by omega)
    rw [topiarylaw15_TreePaths.l0]
    by_cases c : (k : Int) < (S.length : Int)
    · rw [if_pos c]
      by_cases c2 : (k : Int) < (long.length : Int)
      · rw [if_pos c2, if_pos (by omega), if_pos (by simp), Option.bind_some, if_pos (by simp; omega), wrap_id (by omega) (by omega), show ((k : Int) + 1) = ((k + 1 : Nat) : Int) by omega]
        match d, hk, hm with
        | 0, hk, hm => omega
        | d + 1, hk, hm => exact paths_loop l0 l1 hl S hS o n long d (k + 1) m _ (by omega) (by omega) (by simp; omega) (by omega)
      · rw [if_neg c2]; exact hb
    · rw [if_neg c]; exact hb
theorem paths_at (l0 : List ByteArray) (l1 : List S52) (p : List Int) (o : Bool) (n : Int) (long : List Bool) (m : Nat) (hm : m = 700000) : topiarylaw15_TreePaths.f m l0 l1 p o n long = some true := by
  obtain ⟨s0, s1, hs, h0, h1⟩ := small_tells l0 l1
  have ha : topiarylaw15_awake.f m = some true := by rw [hm]; exact awake_paths
  have hsm : topiarylaw15_small.f m l0 l1 = some (s0, s1) := up_of' (F := fun k => topiarylaw15_small.f k l0 l1) (topiarylaw15_small.mono l0 l1) (show 100 ≤ m by omega) hs
  have hboth : ∀ q : List Int, q.length ≤ 100 → ((tree_Paths.f m s0 s1 q).bind fun a => (topiaryref15_Paths.f m s0 s1 q).bind fun b => (topiaryref02_Same.f m a b).bind fun c => (if true = true then some c else some false)) = some true := fun q hq => both s0 s1 h1 q hq m (by omega)
  -- the path that is a node's own
  have hown : ∀ L : Int, L = (s1.length : Int) → L > 0 → ((topiaryref15_Symbol.f m s0 s1 (Int.tmod (wrap64 ((Int.tmod n L) + L)) L)).bind fun t => ((some (([t] : List Int) : List Int)).bind fun y => ((topiaryref15_Up.f m s0 s1 (Int.tmod (wrap64 ((Int.tmod n L) + L)) L)).bind fun u => (if y.length + u.length < 17592186044416 then (topiarylaw15_TreePaths.l0 m ([] : List Int) true (y ++ u) 0 s0 s1 o n long) else (none))))) = some true := by
    intro L hL hpos
    generalize Int.tmod (wrap64 (Int.tmod n L + L)) L = i
    have hr : topiaryref15_Symbol.f m s0 s1 i = some (symP s0 s1 i) := up_of' (F := fun k => topiaryref15_Symbol.f k s0 s1 i) (topiaryref15_Symbol.mono s0 s1 i) (show 3 ≤ m by omega) (refSymbol_tells s0 s1 i)
    have hu : topiaryref15_Up.f m s0 s1 i = some (ups s0 s1 i) := refUp_tells s0 s1 i m (by omega) (by omega)
    have hul := ups_len s0 s1 i
    rw [hr, Option.bind_some, Option.bind_some, hu, Option.bind_some, if_pos (by simp; omega)]
    exact paths_loop s0 s1 h1 _ (by simp; omega) o n long 32 0 m [] (by omega) (by omega) (by simp) (by omega)
  unfold topiarylaw15_TreePaths.f
  rw [ha, Option.bind_some, hsm, Option.bind_some]
  by_cases c6 : (p.length : Int) > 6
  · rw [if_pos c6, if_pos (by omega), Option.bind_some]
    have ht : (p.take 6).length ≤ 100 := by rw [List.length_take]; omega
    by_cases co : o = true
    · rw [if_pos co]
      by_cases cn : (s1.length : Int) > 0
      · rw [if_pos cn, if_neg (show ¬ ((s1.length : Int) = 0) by omega)]
        exact hown _ rfl cn
      · rw [if_neg cn]
        exact hboth _ ht
    · rw [if_neg co]
      exact hboth _ ht
  · rw [if_neg c6]
    by_cases co : o = true
    · rw [if_pos co]
      by_cases cn : (s1.length : Int) > 0
      · rw [if_pos cn, if_neg (show ¬ ((s1.length : Int) = 0) by omega)]
        exact hown _ rfl cn
      · rw [if_neg cn]
        exact hboth _ (by omega)
    · rw [if_neg co]
      exact hboth _ (by omega)
theorem paths_tells (l0 : List ByteArray) (l1 : List S52) (p : List Int) (o : Bool) (n : Int) (long : List Bool) : topiarylaw15_TreePaths.f 700000 l0 l1 p o n long = some true := paths_at l0 l1 p o n long 700000 rfl
end Go.Proofs.Ytoanmoddppmffaa.T
