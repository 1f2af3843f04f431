/- Read trees, in order: what is in a node stands side by side. -/
import Derived.Test.YtoanmoddppmffaaCPm
import Derived.Test.YtoanmoddppmffaaCPd
namespace Go.Proofs.Ytoanmoddppmffaa.T
open Go.RowKit Go.Proofs.YtoanmoddppmffaaW.PrintWords Go.Proofs.YtoanmoddppmffaaW.PrintLast Go.Proofs.YtoanmoddppmffaaW.PrintMore
set_option linter.unusedVariables false
set_option linter.unusedSimpArgs false
section
variable {names : List ByteArray} {l1 : List S52}
theorem wit_self (a : Int) (h : 0 ≤ a) : wit l1 a a = true := by rw [wit_step l1 a a h, if_pos rfl]
theorem wit_pos {a j : Int} (h : wit l1 a j = true) : 0 ≤ j := by
  by_cases h0 : 0 ≤ j
  · exact h0
  · rw [wit_neg l1 a j (by omega)] at h; cases h
theorem wit_le {a j : Int} (h : wit l1 a j = true) : a ≤ j := by
  have h0 := wit_pos h
  by_cases h1 : a ≤ j
  · exact h1
  · rw [wit_below l1 a (j.toNat + 1) j (by omega) (by omega)] at h; cases h
theorem wit_par {a j : Int} (h : wit l1 a j = true) (hne : j ≠ a) : wit l1 a (parOf l1 j) = true := by
  rw [wit_step l1 a j (wit_pos h), if_neg hne] at h; exact h
theorem wit_up {a j : Int} (h0 : 0 ≤ j) (h : wit l1 a (parOf l1 j) = true) : wit l1 a j = true := by
  rw [wit_step l1 a j h0]
  by_cases e : j = a
  · rw [if_pos e]
  · rw [if_neg e]; exact h
theorem wit_trans {a b : Int} : ∀ (d : Nat) (c : Int), c < d → wit l1 a b = true → wit l1 b c = true → wit l1 a c = true
  | 0, c, hc, hab, hbc => absurd (wit_pos hbc) (by omega)
  | d + 1, c, hc, hab, hbc => by
    by_cases e : c = b
    · rw [e]; exact hab
    · have h0 := wit_pos hbc
      have := parOf_le l1 c
      exact wit_up h0 (wit_trans d (parOf l1 c) (by omega) hab (wit_par hbc e))
theorem wit_tr {a b c : Int} (hab : wit l1 a b = true) (hbc : wit l1 b c = true) : wit l1 a c = true := wit_trans (c.toNat + 1) c (by have := wit_pos hbc; omega) hab hbc
theorem wit_lin {a b : Int} (hab : a ≤ b) : ∀ (d : Nat) (j : Int), j < d → wit l1 a j = true → wit l1 b j = true → wit l1 a b = true
  | 0, j, hj, ha, hb => absurd (wit_pos hb) (by omega)
  | d + 1, j, hj, ha, hb => by
    by_cases e : j = b
    · rw [← e]; exact ha
    · have h1 := wit_le hb
      have := parOf_le l1 j
      have h0 := wit_pos hb
      exact wit_lin hab d (parOf l1 j) (by omega) (wit_par ha (by omega)) (wit_par hb e)
theorem wit_line {a b j : Int} (hab : a ≤ b) (ha : wit l1 a j = true) (hb : wit l1 b j = true) : wit l1 a b = true := wit_lin hab (j.toNat + 1) j (by have := wit_pos hb; omega) ha hb
theorem par52_parOf (j q : Nat) (hj : j < l1.length) (h : par52 l1 j = (q : Int)) (hq : q < j) : parOf l1 (j : Int) = (q : Int) := by
  have h' : (rd_T52 l1 (j : Int)).f2 = (q : Int) := h
  unfold parOf
  rw [if_pos (by omega), h', if_pos (by omega)]
theorem up_wit {a j : Nat} (h : Up (par52 l1) a j) (hj : j < l1.length) : wit l1 (a : Int) (j : Int) = true := by
  induction h with
  | self => exact wit_self _ (by omega)
  | step e hq _ ih =>
    refine wit_up (by omega) ?_
    rw [par52_parOf _ _ hj e hq]
    exact ih (by omega)
theorem good_par (g : Good names l1) (j : Nat) (h0 : 0 < j) (hj : j < l1.length) : ∃ q : Nat, parOf l1 (j : Int) = (q : Int) ∧ q < j ∧ wit l1 (q : Int) ((j - 1 : Nat) : Int) = true := by
  obtain ⟨q, e, hq, hu⟩ := g.up j h0 hj
  exact ⟨q, par52_parOf j q hj e hq, hq, up_wit hu (by omega)⟩
theorem good_zero (g : Good names l1) : parOf l1 0 = -1 := by
  have := parOf_le l1 0
  have := parOf_ge l1 0
  omega
theorem convex (g : Good names l1) (i j : Nat) : ∀ k : Nat, k < l1.length → i ≤ j → j ≤ k → wit l1 (i : Int) (k : Int) = true → wit l1 (i : Int) (j : Int) = true
  | 0, hk, hij, hjk, h => by
    obtain rfl : j = 0 := by omega
    exact h
  | k + 1, hk, hij, hjk, h => by
    by_cases e : j = k + 1
    · rw [e]; exact h
    · obtain ⟨q, e1, e2, e3⟩ := good_par g (k + 1) (by omega) hk
      have h1 := wit_par h (by omega)
      rw [e1] at h1
      rw [Nat.add_sub_cancel] at e3
      exact convex g i j k (by omega) hij (by omega) (wit_tr h1 e3)
theorem endFrom_spec (g : Good names l1) (i : Nat) : ∀ (d k e : Nat), k + d = l1.length → i < e → e ≤ k → (∀ j : Nat, i ≤ j → j < k → (wit l1 (i : Int) (j : Int) = true ↔ j < e)) →
    ∃ E : Nat, endFrom l1 (i : Int) d (k : Int) (e : Int) = (E : Int) ∧ i < E ∧ E ≤ l1.length ∧ ∀ j : Nat, i ≤ j → j < l1.length → (wit l1 (i : Int) (j : Int) = true ↔ j < E)
  | 0, k, e, hk, hi, he, hw => ⟨e, rfl, hi, by omega, fun j h1 h2 => hw j h1 (by omega)⟩
  | d + 1, k, e, hk, hi, he, hw => by
    have ez : ((k : Int) + 1) = ((k + 1 : Nat) : Int) := by omega
    rw [endFrom]
    by_cases c : wit l1 (i : Int) (k : Int) = true
    · rw [if_pos c, ez]
      refine endFrom_spec g i d (k + 1) (k + 1) (by omega) (by omega) (Nat.le_refl _) (fun j h1 h2 => ⟨fun _ => h2, fun _ => ?_⟩)
      exact convex g i j k (by omega) h1 (by omega) c
    · rw [if_neg c, ez]
      refine endFrom_spec g i d (k + 1) e (by omega) hi (by omega) (fun j h1 h2 => ?_)
      by_cases hj : j < k
      · exact hw j h1 hj
      · obtain rfl : j = k := by omega
        exact ⟨fun h => absurd h c, fun h => by omega⟩
theorem end_spec (g : Good names l1) (i : Nat) (hi : i < l1.length) : ∃ E : Nat, endOf l1 (i : Int) = (E : Int) ∧ i < E ∧ E ≤ l1.length ∧ ∀ j : Nat, i ≤ j → j < l1.length → (wit l1 (i : Int) (j : Int) = true ↔ j < E) := by
  unfold endOf
  have ez : ((i : Int) + 1) = ((i + 1 : Nat) : Int) := by omega
  rw [if_pos (by omega), ez, show ((i : Nat) : Int).toNat = i by omega]
  refine endFrom_spec g i _ (i + 1) (i + 1) (by omega) (by omega) (Nat.le_refl _) (fun j h1 h2 => ?_)
  obtain rfl : j = i := by omega
  exact ⟨fun _ => h2, fun _ => wit_self _ (by omega)⟩
def kfrom (l1 : List S52) (i : Int) : Nat → Nat → List Int
  | 0, _ => []
  | d + 1, k => if parOf l1 (k : Int) = i then (k : Int) :: kfrom l1 i d (k + 1) else kfrom l1 i d (k + 1)
theorem kidsTo_kfrom (i : Int) : ∀ d k : Nat, kidsTo l1 i (k + d) = kidsTo l1 i k ++ kfrom l1 i d k
  | 0, k => by simp [kfrom]
  | d + 1, k => by
    rw [show k + (d + 1) = (k + 1) + d by omega, kidsTo_kfrom i d (k + 1), kidsTo_succ, kfrom]
    by_cases h : parOf l1 (k : Int) = i
    · rw [if_pos h, if_pos h]; simp
    · rw [if_neg h, if_neg h]
theorem kfrom_skip (i : Int) : ∀ d d' k : Nat, (∀ j : Nat, k ≤ j → j < k + d' → parOf l1 (j : Int) ≠ i) → kfrom l1 i (d' + d) k = kfrom l1 i d (k + d')
  | d, 0, k, _ => by simp
  | d, d' + 1, k, h => by
    rw [show d' + 1 + d = (d' + d) + 1 by omega, kfrom, if_neg (h k (Nat.le_refl _) (by omega)), kfrom_skip i d d' (k + 1) (fun j h1 h2 => h j (by omega) (by omega)), show k + 1 + d' = k + (d' + 1) by omega]
def Bd (l1 : List S52) (i e : Nat) : Prop := e = i + 1 ∨ ∃ c : Nat, c < l1.length ∧ parOf l1 (c : Int) = (i : Int) ∧ endOf l1 (c : Int) = (e : Int)
theorem kid_at (g : Good names l1) (i e E : Nat) (hi : i < l1.length) (hE : endOf l1 (i : Int) = (E : Int)) (hb : Bd l1 i e) (h1 : i < e) (h2 : e < E) : parOf l1 (e : Int) = (i : Int) := by
  obtain ⟨E', hE', s1, s2, s3⟩ := end_spec g i hi
  obtain rfl : E' = E := by omega
  have hw := (s3 e (by omega) (by omega)).2 h2
  obtain ⟨q, e1, e2, e3⟩ := good_par g e (by omega) (by omega)
  have hiq := wit_par hw (by omega)
  rw [e1] at hiq
  have hle := wit_le hiq
  rw [e1]
  rcases hb with rfl | ⟨c, hc, hpc, hec⟩
  · omega
  · obtain ⟨F, hF, t1, t2, t3⟩ := end_spec g c hc
    obtain rfl : F = e := by omega
    have hci := parOf_lt hpc (by omega)
    have w1 : wit l1 (c : Int) ((F - 1 : Nat) : Int) = true := (t3 (F - 1) (by omega) (by omega)).2 (by omega)
    have w2 : ¬ wit l1 (c : Int) (F : Int) = true := fun h => by have := (t3 F (by omega) (by omega)).1 h; omega
    have w3 : ¬ wit l1 (c : Int) (q : Int) = true := fun h => w2 (wit_up (by omega) (by rw [e1]; exact h))
    by_cases hqc : (q : Int) ≤ c
    · have w4 := wit_line hqc e3 w1
      by_cases heq : (c : Int) = q
      · exact absurd (by rw [heq]; exact wit_self _ (by omega)) w3
      · have w5 := wit_par w4 heq
        rw [hpc] at w5
        have := wit_le w5
        omega
    · exact absurd (wit_line (by omega) w1 e3) w3
theorem no_kid_in (g : Good names l1) (i c F j : Nat) (hc : c < l1.length) (hpc : parOf l1 (c : Int) = (i : Int)) (hF : endOf l1 (c : Int) = (F : Int)) (h1 : c < j) (h2 : j < F) : parOf l1 (j : Int) ≠ (i : Int) := by
  intro h
  obtain ⟨F', hF', t1, t2, t3⟩ := end_spec g c hc
  obtain rfl : F' = F := by omega
  have w := wit_par ((t3 j (by omega) (by omega)).2 h2) (by omega)
  rw [h] at w
  have := wit_le w
  have := parOf_lt hpc (by omega)
  omega
theorem no_kid_behind (g : Good names l1) (i E j : Nat) (hi : i < l1.length) (hE : endOf l1 (i : Int) = (E : Int)) (h1 : E ≤ j) (hj : j < l1.length) : parOf l1 (j : Int) ≠ (i : Int) := by
  intro h
  obtain ⟨E', hE', s1, s2, s3⟩ := end_spec g i hi
  obtain rfl : E' = E := by omega
  have := (s3 j (by omega) hj).1 (wit_up (by omega) (by rw [h]; exact wit_self _ (by omega)))
  omega
theorem kfrom_next (g : Good names l1) (i e E d : Nat) (hi : i < l1.length) (hE : endOf l1 (i : Int) = (E : Int)) (hb : Bd l1 i e) (h1 : i < e) (h2 : e ≤ E) (hd : e + d = l1.length) :
    (e = E ∧ kfrom l1 (i : Int) d e = []) ∨ (e < E ∧ parOf l1 (e : Int) = (i : Int) ∧ ∃ F d' : Nat, endOf l1 (e : Int) = (F : Int) ∧ e < F ∧ F ≤ E ∧ F + d' = l1.length ∧ kfrom l1 (i : Int) d e = (e : Int) :: kfrom l1 (i : Int) d' F) := by
  obtain ⟨E', hE', s1, s2, s3⟩ := end_spec g i hi
  obtain rfl : E' = E := by omega
  by_cases he : e = E'
  · refine .inl ⟨he, ?_⟩
    have := kfrom_skip (l1 := l1) (i : Int) 0 d e (fun j h3 h4 => no_kid_behind g i E' j hi hE (by omega) (by omega))
    rw [Nat.add_zero] at this
    rw [this, kfrom]
  · refine .inr ⟨by omega, ?_⟩
    have hp := kid_at g i e E' hi hE hb h1 (by omega)
    obtain ⟨F, hF, t1, t2, t3⟩ := end_spec g e (by omega)
    have hFE : F ≤ E' := by
      have w := (t3 (F - 1) (by omega) (by omega)).2 (by omega)
      have w2 : wit l1 (i : Int) (e : Int) = true := wit_up (by omega) (by rw [hp]; exact wit_self _ (by omega))
      have := (s3 (F - 1) (by omega) (by omega)).1 (wit_tr w2 w)
      omega
    refine ⟨hp, F, l1.length - F, hF, t1, hFE, by omega, ?_⟩
    obtain ⟨d1, rfl⟩ : ∃ d1, d = d1 + 1 := ⟨d - 1, by omega⟩
    rw [kfrom, if_pos hp]
    have := kfrom_skip (l1 := l1) (i : Int) (l1.length - F) (F - (e + 1)) (e + 1) (fun j h3 h4 => no_kid_in g i e F j (by omega) hp hF (by omega) (by omega))
    rw [show F - (e + 1) + (l1.length - F) = d1 by omega, show e + 1 + (F - (e + 1)) = F by omega] at this
    rw [this]
theorem kids_start (g : Good names l1) (i : Nat) (hi : i < l1.length) : kidsOf l1 (i : Int) = kfrom l1 (i : Int) (l1.length - (i + 1)) (i + 1) := by
  unfold kidsOf
  rw [if_pos (by omega)]
  have h := kidsTo_kfrom (l1 := l1) (i : Int) (l1.length - (i + 1)) (i + 1)
  rw [show i + 1 + (l1.length - (i + 1)) = l1.length by omega] at h
  rw [h, kidsTo_succ, if_neg, kidsTo_none l1 i (by omega) i (by omega)]
  · rfl
  · have := parOf_le l1 (i : Int); omega
theorem chain_any (l1 : List S52) : ∀ (d d' : Nat) (p : Int), p < d → p < d' → chain l1 d p = chain l1 d' p
  | 0, 0, p, _, _ => rfl
  | 0, d' + 1, p, h, _ => by rw [chain, chain, if_neg (by omega)]
  | d + 1, 0, p, _, h => by rw [chain, chain, if_neg (by omega)]
  | d + 1, d' + 1, p, h, h' => by
    rw [chain, chain]
    by_cases h0 : 0 ≤ p
    · have := parOf_le l1 p
      rw [chain_any l1 d d' (parOf l1 p) (by omega) (by omega)]
    · rw [if_neg h0, if_neg h0]
theorem aboves_kid (c i : Int) (hp : parOf l1 c = i) (h0 : 0 ≤ i) : aboves l1 c = i :: aboves l1 i := by
  have hb := parOf_bound l1 c
  have hle := parOf_le l1 i
  unfold aboves
  rw [hp] at hb ⊢
  obtain ⟨n, hn⟩ : ∃ n, l1.length = n + 1 := ⟨l1.length - 1, by omega⟩
  rw [hn, chain, if_pos h0, chain_any l1 n (n + 1) (parOf l1 i) (by omega) (by omega)]
def totTo (l1 : List S52) (i : Int) : Nat → Nat
  | 0 => 0
  | k + 1 => totTo l1 i k + if 0 ≤ parOf l1 (k : Int) ∧ parOf l1 (k : Int) < i then 1 else 0
theorem totTo_zero : ∀ k, totTo l1 0 k = 0
  | 0 => rfl
  | k + 1 => by rw [totTo, totTo_zero k, if_neg (by omega)]
theorem totTo_kids (i : Nat) : ∀ k, totTo l1 ((i : Int) + 1) k = totTo l1 (i : Int) k + (kidsTo l1 (i : Int) k).length
  | 0 => by simp [totTo, kidsTo]
  | k + 1 => by
    rw [totTo, totTo, totTo_kids i k, kidsTo_succ]
    by_cases h : parOf l1 (k : Int) = (i : Int)
    · rw [if_pos (by omega), if_neg (by omega), if_pos h]; simp; omega
    · rw [if_neg h]
      by_cases h2 : 0 ≤ parOf l1 (k : Int) ∧ parOf l1 (k : Int) < (i : Int)
      · rw [if_pos (by omega), if_pos h2]; omega
      · rw [if_neg (by omega), if_neg h2]; omega
theorem totTo_all (g : Good names l1) : ∀ k, k < l1.length → totTo l1 (l1.length : Int) (k + 1) = k
  | 0, h => by rw [totTo, totTo]; simp [good_zero g]
  | k + 1, h => by
    obtain ⟨q, e1, e2, _⟩ := good_par g (k + 1) (by omega) h
    rw [totTo, totTo_all g k (by omega), e1, if_pos (by omega)]
end
end Go.Proofs.Ytoanmoddppmffaa.T
