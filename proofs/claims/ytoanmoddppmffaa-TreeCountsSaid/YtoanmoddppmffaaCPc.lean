/- TreeCounts' plain law: of the tree of any text. -/
import Derived.Test.YtoanmoddppmffaaCPg
import Derived.Test.YtoanmoddppmffaaCCx
namespace Go.Proofs.Ytoanmoddppmffaa.T
open Go.RowKit Go.Proofs.YtoanmoddppmffaaW.PrintWords Go.Proofs.YtoanmoddppmffaaW.PrintLast Go.Proofs.YtoanmoddppmffaaW.PrintMore
set_option linter.unusedVariables false
set_option linter.unusedSimpArgs false
theorem awake_big : topiarylaw15_awake.f 700000 = some true := by kernel_rfl
theorem drop_rd (l : List Int) (k : Nat) (x : Int) (r : List Int) (h : l.drop k = x :: r) : k < l.length ∧ rd l (k : Int) = x ∧ l.drop (k + 1) = r := by
  have hk : k < l.length := by
    have := congrArg List.length h
    simp only [List.length_drop, List.length_cons] at this
    omega
  rw [List.drop_eq_getElem_cons hk] at h
  obtain ⟨h1, h2⟩ := List.cons.inj h
  refine ⟨hk, ?_, h2⟩
  rw [rd_get, List.getD_eq_getElem?_getD, List.getElem?_eq_getElem hk, ← h1]
  rfl
theorem counts_all (names : List ByteArray) (l1 : List S52) (g : Good names l1) (m : Nat) :
    (∀ i : Nat, i ≤ l1.length → 203 * (l1.length - i) + 300 < m → topiarylaw15_TreeCounts.l0 m true (totTo l1 (i : Int) l1.length : Int) (i : Int) names l1 = some true) ∧
    (∀ (i k e d E : Nat), i < l1.length → endOf l1 (i : Int) = (E : Int) → Bd l1 i e → i < e → e ≤ E → e + d = l1.length → (kidsOf l1 (i : Int)).drop k = kfrom l1 (i : Int) d e → 203 * (l1.length - i - 1) + 301 + ((kidsOf l1 (i : Int)).length - k) < m →
      topiarylaw15_TreeCounts.l1 m true (totTo l1 ((i : Int) + 1) l1.length : Int) (i : Int) (kidsOf l1 (i : Int)) (e : Int) (k : Int) names l1 = some true) := by
  have hlong := g.long
  have hl : l1.length < 17592186044416 := by omega
  have hsome := g.some_
  induction m with
  | zero => exact ⟨fun i _ h => by omega, fun i k e d E _ _ _ _ _ _ _ h => by omega⟩
  | succ m ih =>
    refine ⟨fun i hi hm => ?_, fun i k e d E hi hE hb h1 h2 hd hk hm => ?_⟩
    · rw [topiarylaw15_TreeCounts.l0]
      by_cases c : i < l1.length
      · have hkl := kidsOf_length l1 (i : Int)
        obtain ⟨E, hE, s1, s2, _⟩ := end_spec g i c
        have htot : totTo l1 ((i : Int) + 1) l1.length = totTo l1 (i : Int) l1.length + (kidsOf l1 (i : Int)).length := by
          rw [totTo_kids]; unfold kidsOf; rw [if_pos (by omega)]
        have hle : ∀ (a : Int) k, totTo l1 a k ≤ k := by
          intro a k
          induction k with
          | zero => exact Nat.le_refl _
          | succ k ih2 => rw [totTo]; split <;> omega
        have hle1 := hle (i : Int) l1.length
        have := ih.2 i 0 (i + 1) (l1.length - (i + 1)) E c hE (.inl rfl) (by omega) (by omega) (by omega) (by rw [List.drop_zero]; exact kids_start g i c) (by omega)
        rw [if_pos (by omega), children_tells names l1 i hl, Option.bind_some, wr_id (by omega) (by omega), wr_id (by omega) (by omega), show ((totTo l1 (i : Int) l1.length : Nat) : Int) + ((kidsOf l1 (i : Int)).length : Int) = ((totTo l1 ((i : Int) + 1) l1.length : Nat) : Int) by omega, show ((i : Int) + 1) = ((i + 1 : Nat) : Int) by omega]
        exact this
      · obtain rfl : i = l1.length := by omega
        have ht : totTo l1 (l1.length : Int) l1.length = l1.length - 1 := by
          have := totTo_all g (l1.length - 1) (by omega)
          rw [show l1.length - 1 + 1 = l1.length by omega] at this
          exact this
        obtain ⟨E, hE, s1, s2, s3⟩ := end_spec g 0 (by omega)
        have hEn : E = l1.length := by
          -- the last node is within the first
          have all : ∀ (d j : Nat), j < d → j < l1.length → wit l1 ((0 : Nat) : Int) (j : Int) = true := by
            intro d
            induction d with
            | zero => intro j hj; omega
            | succ d ih3 =>
              intro j hj hjl
              by_cases hj0 : j = 0
              · subst hj0; exact wit_self _ (by omega)
              · obtain ⟨q, e1, e2, _⟩ := good_par g j (by omega) hjl
                exact wit_up (by omega) (by rw [e1]; exact ih3 q (by omega) (by omega))
          have := (s3 (l1.length - 1) (by omega) (by omega)).1 (all l1.length (l1.length - 1) (by omega) (by omega))
          omega
        rw [if_neg (by omega), if_pos rfl, ht, wr_id (by omega) (by omega), if_pos (by omega), treeEnd_tells names l1 0 m hl (by omega), Option.bind_some]
        have hE0 : endOf l1 0 = (E : Int) := hE
        rw [hE0, hEn, beq_self_eq_true]
    · rw [topiarylaw15_TreeCounts.l1]
      have hkl := kidsOf_length l1 (i : Int)
      rcases kfrom_next g i e E d hi hE hb h1 h2 hd with ⟨he, hz⟩ | ⟨he, hp, F, d', hF, f1, f2, f3, hz⟩
      · rw [hz] at hk
        have hkge : (kidsOf l1 (i : Int)).length ≤ k := by
          have := congrArg List.length hk
          simp only [List.length_drop, List.length_nil] at this
          omega
        have := ih.1 (i + 1) (by omega) (by omega)
        have hlf : leafOf l1 (i : Int) = (((kidsOf l1 (i : Int)).length : Int) == 0) := by
          unfold leafOf; rw [if_pos (by omega), if_pos (by omega)]
        rw [if_neg (by omega), treeEnd_tells names l1 i m hl (by omega), Option.bind_some, hE, if_pos (by omega), leaf_tells names l1 i hl, Option.bind_some, hlf]
        rw [if_neg (by simp), wr_id (by omega) (by omega), show ((i : Int) + 1) = ((i + 1 : Nat) : Int) by omega]
        exact this
      · rw [hz] at hk
        obtain ⟨k1, k2, k3⟩ := drop_rd _ _ _ _ hk
        have hpar : tree_Parent.f m names l1 (e : Int) = some (parOf l1 (e : Int)) := by
          obtain ⟨m, rfl⟩ : ∃ m', m = m' + 1 := ⟨m - 1, by omega⟩
          exact parent_tells m names l1 e
        have hab := aboves_kid (l1 := l1) (e : Int) (i : Int) hp (by omega)
        have hcl : (aboves l1 (i : Int)).length ≤ l1.length := chain_len l1 _ _
        have := ih.2 i (k + 1) F d' E hi hE (.inr ⟨e, by omega, hp, hF⟩) (by omega) f2 f3 k3 (by omega)
        have hde := depth_tells names l1 (e : Int) hl
        rw [if_pos (by omega), hab, List.length_cons] at hde
        have hdi := depth_tells names l1 (i : Int) hl
        rw [if_pos (by omega)] at hdi
        rw [if_pos (by omega), if_pos (by omega), k2, hpar, Option.bind_some, if_pos hp, if_pos rfl, hde, Option.bind_some, hdi, Option.bind_some, wr_id (x := ((aboves l1 (i : Int)).length : Int) + 1) (by omega) (by omega), if_pos (by omega),
          treeEnd_tells names l1 e m hl (by omega), Option.bind_some, hF, wr_id (by omega) (by omega), show ((k : Int) + 1) = ((k + 1 : Nat) : Int) by omega]
        exact this
theorem counts_at (s : ByteArray) (m : Nat) (hm : m = 700000) : topiarylaw15_TreeCounts.f m s = some true := by
  have ha : topiarylaw15_awake.f m = some true := by rw [hm]; exact awake_big
  obtain ⟨t, et, ht⟩ := short_tl s
  obtain ⟨r, er, hr⟩ := parse_tl t ht m (by omega)
  unfold topiarylaw15_TreeCounts.f
  rw [ha, Option.bind_some, et, Option.bind_some, er, Option.bind_some]
  by_cases c : r.2.2 = 0
  · rw [if_pos c]
    have g := hr c
    have hlong := g.long
    have := (counts_all r.1 r.2.1 g m).1 0 (by omega) (by omega)
    rw [show ((0 : Nat) : Int) = 0 from rfl, totTo_zero] at this
    exact this
  · rw [if_neg c]
theorem counts_tells (s : ByteArray) : topiarylaw15_TreeCounts.f 700000 s = some true := counts_at s 700000 rfl
end Go.Proofs.Ytoanmoddppmffaa.T
