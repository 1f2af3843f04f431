/- The reference's pieces of a text of 200 bytes at most: each of its functions answers, and how far it comes. -/
import Derived.Test.YtoanmoddppmffaaGTx14
namespace Go.Proofs.Ytoanmoddppmffaa.T
open Go.RowKit Go.Proofs.YtoanmoddppmffaaW.PrintWords Go.Proofs.YtoanmoddppmffaaW.PrintLast Go.Proofs.YtoanmoddppmffaaW.PrintMore
set_option linter.unusedVariables false
set_option linter.unusedSimpArgs false
def Tl {α : Type} (o : Option α) (P : α → Prop) : Prop := ∃ r, o = some r ∧ P r
section
variable {α β : Type} {P : α → Prop}
theorem Tl.ret {r : α} (h : P r) : Tl (some r) P := ⟨r, rfl, h⟩
theorem Tl.ite {c : Prop} [Decidable c] {A B : Option α} (ha : c → Tl A P) (hb : ¬c → Tl B P) : Tl (if c then A else B) P := by
  by_cases h : c
  · rw [if_pos h]; exact ha h
  · rw [if_neg h]; exact hb h
theorem Tl.yes {c : Prop} [Decidable c] {A B : Option α} (h : c) (ha : Tl A P) : Tl (if c then A else B) P := by rw [if_pos h]; exact ha
theorem Tl.no {c : Prop} [Decidable c] {A B : Option α} (h : ¬c) (ha : Tl B P) : Tl (if c then A else B) P := by rw [if_neg h]; exact ha
theorem Tl.bind {A : Option β} {Q : β → Prop} {F : β → Option α} (ha : Tl A Q) (hf : ∀ a, Q a → Tl (F a) P) : Tl (A.bind F) P := by
  obtain ⟨a, rfl, hq⟩ := ha
  exact hf a hq
theorem Tl.mono {A : Option α} {Q : α → Prop} (ha : Tl A Q) (h : ∀ a, Q a → P a) : Tl A P := by
  obtain ⟨a, e, hq⟩ := ha
  exact ⟨a, e, h a hq⟩
end
theorem wr_id {x : Int} (h0 : -9223372036854775808 ≤ x) (h1 : x ≤ 9223372036854775807) : wrap64 x = x := by unfold wrap64; omega
theorem space_tl (c : Int) : Tl (topiaryref11_Space.f c) fun _ => True := by
  unfold topiaryref11_Space.f
  repeat' (first | exact Tl.ret trivial | refine Tl.ite (fun _ => ?_) (fun _ => ?_))
theorem skip_from (s : ByteArray) (hs : s.size ≤ 200) : ∀ (d m : Nat) (i : Int), 0 ≤ i → i + d = s.size → 2 * d + 4 < m → Tl (topiaryref11_Skip.l0 m s i) fun r => i ≤ r ∧ r ≤ s.size
  | 0, m, i, h0, hd, hm => by
    obtain ⟨m, rfl⟩ : ∃ m', m = m' + 2 := ⟨m - 2, by omega⟩
    rw [topiaryref11_Skip.l0]
    refine Tl.yes h0 ?_
    rw [topiaryref11_Skip.j1]
    exact Tl.no (by rw [decide_eq_false (by omega)]; decide) (Tl.ret ⟨Int.le_refl _, by omega⟩)
  | d + 1, m, i, h0, hd, hm => by
    obtain ⟨m, rfl⟩ : ∃ m', m = m' + 2 := ⟨m - 2, by omega⟩
    rw [topiaryref11_Skip.l0]
    refine Tl.yes h0 ?_
    rw [topiaryref11_Skip.j1]
    refine Tl.yes (decide_eq_true (by omega)) (Tl.yes h0 (Tl.yes (by omega) (Tl.bind (space_tl _) fun b _ => Tl.ite (fun _ => ?_) (fun _ => Tl.ret ⟨Int.le_refl _, by omega⟩))))
    rw [wr_id (by omega) (by omega)]
    exact (skip_from s hs d m (i + 1) (by omega) (by omega) (by omega)).mono fun r h => ⟨by omega, h.2⟩
theorem skip_tl (s : ByteArray) (hs : s.size ≤ 200) (m : Nat) (i : Int) (h0 : 0 ≤ i) (h1 : i ≤ s.size) (hm : 500 ≤ m) : Tl (topiaryref11_Skip.f m s i) fun r => i ≤ r ∧ r ≤ s.size := by
  obtain ⟨n, rfl⟩ := Int.eq_ofNat_of_zero_le h0
  exact skip_from s hs (s.size - n) m n h0 (by omega) (by omega)
theorem nameEnd_from (s : ByteArray) (hs : s.size ≤ 200) (a : Int) : ∀ (d m : Nat) (i : Int), 0 ≤ i → i + d = s.size → 2 * d + 4 < m → Tl (topiaryref11_NameEnd.l0 m s a i) fun r => i ≤ r ∧ r ≤ s.size
  | 0, m, i, h0, hd, hm => by
    obtain ⟨m, rfl⟩ : ∃ m', m = m' + 2 := ⟨m - 2, by omega⟩
    rw [topiaryref11_NameEnd.l0]
    refine Tl.yes h0 ?_
    rw [topiaryref11_NameEnd.j1]
    exact Tl.no (by rw [decide_eq_false (by omega)]; decide) (Tl.ret ⟨Int.le_refl _, by omega⟩)
  | d + 1, m, i, h0, hd, hm => by
    obtain ⟨m, rfl⟩ : ∃ m', m = m' + 2 := ⟨m - 2, by omega⟩
    rw [topiaryref11_NameEnd.l0]
    refine Tl.yes h0 ?_
    rw [topiaryref11_NameEnd.j1]
    refine Tl.yes (decide_eq_true (by omega)) (Tl.yes h0 (Tl.yes (by omega) ?_))
    rw [wr_id (by omega) (by omega)]
    have ih : Tl (topiaryref11_NameEnd.l0 m s a (i + 1)) fun r => i ≤ r ∧ r ≤ s.size := (nameEnd_from s hs a d m (i + 1) (by omega) (by omega) (by omega)).mono fun r h => ⟨by omega, h.2⟩
    have here : Tl (some i) fun r => i ≤ r ∧ r ≤ s.size := Tl.ret ⟨Int.le_refl _, by omega⟩
    repeat' (first | exact ih | exact here | refine Tl.ite (fun _ => ?_) (fun _ => ?_))
theorem nameEnd_tl (s : ByteArray) (hs : s.size ≤ 200) (m : Nat) (i : Int) (h0 : 0 ≤ i) (h1 : i ≤ s.size) (hm : 500 ≤ m) : Tl (topiaryref11_NameEnd.f m s i) fun r => i ≤ r ∧ r ≤ s.size := by
  obtain ⟨n, rfl⟩ := Int.eq_ofNat_of_zero_le h0
  exact nameEnd_from s hs n (s.size - n) m n h0 (by omega) (by omega)
theorem begins_tl (s t : ByteArray) (i : Int) (hs : s.size ≤ 200) (ht : t.size ≤ 200) (h0 : 0 ≤ i) (h1 : i ≤ 1000) :
    Tl (topiaryref12_begins.f s i t) fun b => (b = true → i + t.size ≤ s.size) ∧ (b = false → i + t.size ≤ s.size → (s.extract i.toNat (i + t.size).toNat).toList ≠ t.toList) := by
  unfold topiaryref12_begins.f
  rw [wr_id (by omega) (by omega)]
  refine Tl.ite (fun h => Tl.yes h0 (Tl.yes (by omega) (Tl.ret ⟨fun _ => h, fun hb _ => ?_⟩))) (fun h => Tl.ret ⟨fun hb => (by cases hb), fun _ h2 => absurd h2 h⟩)
  exact beq_eq_false_iff_ne.1 hb
theorem find_from (s t : ByteArray) (hs : s.size ≤ 200) (ht : t.size ≤ 200) : ∀ (d m : Nat) (i : Int), 0 ≤ i → i ≤ 300 → i + d = 300 → d + 3 < m →
    Tl (topiaryref12_find.l0 m s t i) fun r => r = -1 ∨ (i ≤ r ∧ r + t.size ≤ s.size ∧ (s.extract r.toNat (r + t.size).toNat).toList = t.toList)
  | 0, m, i, h0, h1, hd, hm => by
    obtain ⟨m, rfl⟩ : ∃ m', m = m' + 1 := ⟨m - 1, by omega⟩
    rw [topiaryref12_find.l0, wr_id (by omega) (by omega)]
    exact Tl.no (by omega) (Tl.ret (.inl rfl))
  | d + 1, m, i, h0, h1, hd, hm => by
    obtain ⟨m, rfl⟩ : ∃ m', m = m' + 1 := ⟨m - 1, by omega⟩
    rw [topiaryref12_find.l0, wr_id (x := i + t.size) (by omega) (by omega), wr_id (x := i + 1) (by omega) (by omega)]
    refine Tl.ite (fun h => Tl.yes h0 (Tl.yes (by omega) (Tl.ite (fun e => Tl.ret (.inr ⟨Int.le_refl _, h, e⟩)) (fun _ => ?_)))) (fun _ => Tl.ret (.inl rfl))
    exact (find_from s t hs ht d m (i + 1) (by omega) (by omega) (by omega) (by omega)).mono fun r h => h.imp id fun h => ⟨by omega, h.2⟩
theorem find_tl (s t : ByteArray) (hs : s.size ≤ 200) (ht : t.size ≤ 200) (m : Nat) (i : Int) (h0 : 0 ≤ i) (h1 : i ≤ s.size) (hm : 500 ≤ m) :
    Tl (topiaryref12_find.f m s i t) fun r => r = -1 ∨ (i ≤ r ∧ r + t.size ≤ s.size ∧ (s.extract r.toNat (r + t.size).toNat).toList = t.toList) := by
  obtain ⟨n, rfl⟩ := Int.eq_ofNat_of_zero_le h0
  exact find_from s t hs ht (300 - n) m n h0 (by omega) (by omega) (by omega)
theorem point_tl (c : Int) : Tl (topiaryref11_point.f c) fun _ => True := by
  unfold topiaryref11_point.f
  repeat' (first | exact Tl.ret trivial | refine Tl.ite (fun _ => ?_) (fun _ => ?_))
theorem allowed_tl (c : Int) : Tl (topiaryref11_Allowed.f c) fun _ => True := by
  unfold topiaryref11_Allowed.f
  repeat' (first | exact Tl.ret trivial | refine Tl.ite (fun _ => ?_) (fun _ => ?_))
theorem nums_size (l : List Int) : (strOfNums l).size = l.length := by
  simp [strOfNums, ByteArray.size]
theorem encode_tl (c : Int) : Tl (topiaryref11_Encode.f c) fun t => t.size ≤ 4 := by
  unfold topiaryref11_Encode.f
  refine Tl.bind (point_tl c) fun b _ => ?_
  repeat' (first | exact Tl.ret (by simp [nums_size]) | exact Tl.ret (by decide) | refine Tl.ite (fun _ => ?_) (fun _ => ?_))
theorem rune_tl (s : ByteArray) (hs : s.size ≤ 200) (m : Nat) (i : Int) (h0 : 0 ≤ i) (h1 : i < s.size) (hm : 500 ≤ m) : Tl (topiaryref11_Rune.f m s i) fun r => 0 ≤ r.2 ∧ i + r.2 ≤ s.size := by
  -- the number of one code: so many bytes are left
  have l1s : ∀ (d m n : Nat) (c : Int) (j : Nat), j + d = n → 1 ≤ n → n ≤ 4 → i + n ≤ s.size → 2 * d < m → (∀ m' : Nat, m ≤ m' + 2 * d + 1 → Tl (topiaryref11_Rune.l0 m' s i ((n + 1 : Nat) : Int)) fun r => 0 ≤ r.2 ∧ i + r.2 ≤ s.size) →
      Tl (topiaryref11_Rune.l1 m s i (n : Int) c (j : Int)) fun r => 0 ≤ r.2 ∧ i + r.2 ≤ s.size := by
    intro d
    induction d with
    | zero =>
      intro m n c j hj hn hn4 hin hm hk
      obtain ⟨m, rfl⟩ : ∃ m', m = m' + 1 := ⟨m - 1, by omega⟩
      rw [topiaryref11_Rune.l1]
      have ez : ((n : Int) + 1) = ((n + 1 : Nat) : Int) := by omega
      refine Tl.no (by omega) (Tl.bind (encode_tl c) fun t _ => ?_)
      rw [wr_id (x := (n : Int) + 1) (by omega) (by omega), wr_id (x := i + (n : Int)) (by omega) (by omega), ez]
      refine Tl.ite (fun _ => hk m (by omega)) (fun _ => Tl.yes h0 (Tl.yes (by omega) (Tl.yes hin (Tl.ite (fun _ => Tl.ret ⟨by show 0 ≤ (n : Int); omega, hin⟩) (fun _ => hk m (by omega))))))
    | succ d ih =>
      intro m n c j hj hn hn4 hin hm hk
      obtain ⟨m, rfl⟩ : ∃ m', m = m' + 2 := ⟨m - 2, by omega⟩
      have ez : ((j : Int) + 1) = ((j + 1 : Nat) : Int) := by omega
      have go : ∀ m1 : Nat, m ≤ m1 → m1 ≤ m + 1 → ∀ c1 : Int, Tl (topiaryref11_Rune.l1 m1 s i (n : Int) c1 (wrap64 ((j : Int) + 1))) fun r => 0 ≤ r.2 ∧ i + r.2 ≤ s.size := by
        intro m1 hm1 hm2 c1
        rw [wr_id (x := (j : Int) + 1) (by omega) (by omega), ez]
        exact ih m1 n c1 (j + 1) (by omega) hn hn4 hin (by omega) (fun m' h => hk m' (by omega))
      have j4s : ∀ c1 c2 : Int, Tl (topiaryref11_Rune.j4 (m + 1) s i (n : Int) (j : Int) c1 c2) fun r => 0 ≤ r.2 ∧ i + r.2 ≤ s.size := by
        intro c1 c2
        rw [topiaryref11_Rune.j4]
        repeat' (first | exact go m (Nat.le_refl _) (by omega) _ | refine Tl.ite (fun _ => ?_) (fun _ => ?_))
      rw [topiaryref11_Rune.l1]
      refine Tl.yes (by omega) ?_
      rw [wr_id (x := i + (j : Int)) (by omega) (by omega)]
      refine Tl.yes (by omega) (Tl.yes (by omega) ?_)
      repeat' (first | exact go (m + 1) (by omega) (by omega) _ | exact j4s _ _ | refine Tl.ite (fun _ => ?_) (fun _ => ?_))
  have l0s : ∀ (d m n : Nat), n + d = 5 → 1 ≤ n → 20 * d + 10 < m → Tl (topiaryref11_Rune.l0 m s i (n : Int)) fun r => 0 ≤ r.2 ∧ i + r.2 ≤ s.size := by
    intro d
    induction d with
    | zero =>
      intro m n hn h1n hm
      obtain ⟨m, rfl⟩ : ∃ m', m = m' + 2 := ⟨m - 2, by omega⟩
      rw [topiaryref11_Rune.l0]
      refine Tl.no (by omega) ?_
      rw [topiaryref11_Rune.j2]
      exact Tl.no (by decide) (Tl.ret ⟨Int.le_refl _, by show i + 0 ≤ _; omega⟩)
    | succ d ih =>
      intro m n hn h1n hm
      obtain ⟨m, rfl⟩ : ∃ m', m = m' + 2 := ⟨m - 2, by omega⟩
      rw [topiaryref11_Rune.l0]
      refine Tl.yes (by omega) ?_
      rw [wr_id (x := (s.size : Int) - i) (by omega) (by omega), topiaryref11_Rune.j2]
      refine Tl.ite (fun h => ?_) (fun _ => Tl.ret ⟨Int.le_refl _, by show i + 0 ≤ _; omega⟩)
      have h2 := of_decide_eq_true h
      exact l1s n m n 0 0 (by omega) h1n (by omega) (by omega) (by omega) (fun m' hm' => ih m' (n + 1) (by omega) (by omega) (by omega))
  unfold topiaryref11_Rune.f
  refine Tl.no (by omega) ?_
  obtain ⟨m, rfl⟩ : ∃ m', m = m' + 1 := ⟨m - 1, by omega⟩
  rw [topiaryref11_Rune.j0]
  exact Tl.no (by rw [decide_eq_false (by omega)]; decide) (l0s 4 m 1 rfl (by omega) (by omega))
theorem valid_from (s : ByteArray) (hs : s.size ≤ 200) : ∀ (d m : Nat) (i : Int), 0 ≤ i → i ≤ s.size → s.size - i ≤ d → d + 500 < m → Tl (topiaryref11_Valid.l0 m s i) fun _ => True
  | 0, m, i, h0, h1, hd, hm => by
    obtain ⟨m, rfl⟩ : ∃ m', m = m' + 1 := ⟨m - 1, by omega⟩
    rw [topiaryref11_Valid.l0]
    exact Tl.no (by omega) (Tl.ret trivial)
  | d + 1, m, i, h0, h1, hd, hm => by
    obtain ⟨m, rfl⟩ : ∃ m', m = m' + 1 := ⟨m - 1, by omega⟩
    rw [topiaryref11_Valid.l0]
    refine Tl.ite (fun h => Tl.bind (rune_tl s hs m i h0 h (by omega)) fun r hr => Tl.bind (allowed_tl _) fun b _ => Tl.ite (fun _ => Tl.ret trivial) (fun hz => Tl.ite (fun _ => ?_) (fun _ => Tl.ret trivial))) (fun _ => Tl.ret trivial)
    obtain ⟨hr0, hr1⟩ := hr
    rw [wr_id (by omega) (by omega)]
    exact valid_from s hs d m _ (by omega) hr1 (by omega) (by omega)
theorem valid_tl (s : ByteArray) (hs : s.size ≤ 200) (m : Nat) (hm : 800 ≤ m) : Tl (topiaryref11_Valid.f m s) fun _ => True :=
  valid_from s hs s.size m 0 (by omega) (by omega) (by omega) (by omega)
theorem number_tl (s : ByteArray) (hs : s.size ≤ 200) (a b : Int) (ha : 0 ≤ a) (ha2 : a ≤ 300) (m : Nat) (hm : 500 ≤ m) : Tl (topiaryref11_number.f m s a b) fun r => 0 ≤ r.2 ∧ r.2 ≤ 8 := by
  have loop : ∀ (d m k : Nat) (n : Int), k + d = 9 → 7 * d + 3 < m → Tl (topiaryref11_number.l0 m s a b n (k : Int)) fun r => 0 ≤ r.2 ∧ r.2 ≤ 8 := by
    intro d
    induction d with
    | zero =>
      intro m k n hk hm
      obtain ⟨m, rfl⟩ : ∃ m', m = m' + 1 := ⟨m - 1, by omega⟩
      rw [topiaryref11_number.l0]
      exact Tl.no (by omega) (Tl.ret ⟨by decide, by decide⟩)
    | succ d ih =>
      intro m k n hk hm
      obtain ⟨m, rfl⟩ : ∃ m', m = m' + 7 := ⟨m - 7, by omega⟩
      have ez : ((k : Int) + 1) = ((k + 1 : Nat) : Int) := by omega
      have zz : Tl (some ((0 : Int), (0 : Int))) fun r => 0 ≤ r.2 ∧ r.2 ≤ 8 := Tl.ret ⟨by decide, by decide⟩
      have go : ∀ n1 : Int, Tl (topiaryref11_number.l0 m s a b n1 (wrap64 ((k : Int) + 1))) fun r => 0 ≤ r.2 ∧ r.2 ≤ 8 := by
        intro n1
        rw [wr_id (by omega) (by omega), ez]
        exact ih m (k + 1) n1 (by omega) (by omega)
      have j6s : ∀ c e x, Tl (topiaryref11_number.j6 (m + 1) s a b n (k : Int) c e x) fun r => 0 ≤ r.2 ∧ r.2 ≤ 8 := by
        intro c e x
        rw [topiaryref11_number.j6]
        repeat' (first | exact zz | exact go _ | refine Tl.ite (fun _ => ?_) (fun _ => ?_))
      have j5s : ∀ c e, Tl (topiaryref11_number.j5 (m + 2) s a b n (k : Int) c e) fun r => 0 ≤ r.2 ∧ r.2 ≤ 8 := by
        intro c e
        rw [topiaryref11_number.j5]
        exact Tl.ite (fun _ => j6s _ _ _) (fun _ => j6s _ _ _)
      have j4s : ∀ c e x, Tl (topiaryref11_number.j4 (m + 3) s a b n (k : Int) c e x) fun r => 0 ≤ r.2 ∧ r.2 ≤ 8 := by
        intro c e x
        rw [topiaryref11_number.j4]
        exact Tl.ite (fun _ => j5s _ _) (fun _ => j5s _ _)
      have j3s : ∀ c e, Tl (topiaryref11_number.j3 (m + 4) s a b n (k : Int) c e) fun r => 0 ≤ r.2 ∧ r.2 ≤ 8 := by
        intro c e
        rw [topiaryref11_number.j3]
        exact Tl.ite (fun _ => j4s _ _ _) (fun _ => j4s _ _ _)
      have j2s : ∀ c e x, Tl (topiaryref11_number.j2 (m + 5) s a b n (k : Int) c e x) fun r => 0 ≤ r.2 ∧ r.2 ≤ 8 := by
        intro c e x
        rw [topiaryref11_number.j2]
        exact Tl.ite (fun _ => j3s _ _) (fun _ => j3s _ _)
      have j1s : ∀ c x, Tl (topiaryref11_number.j1 (m + 6) s a b n (k : Int) c x) fun r => 0 ≤ r.2 ∧ r.2 ≤ 8 := by
        intro c x
        rw [topiaryref11_number.j1]
        exact Tl.ite (fun _ => Tl.ret ⟨by show 0 ≤ (k : Int); omega, by show (k : Int) ≤ 8; omega⟩) (fun _ => Tl.ite (fun _ => j2s _ _ _) (fun _ => j2s _ _ _))
      rw [topiaryref11_number.l0, wr_id (x := a + (k : Int)) (by omega) (by omega)]
      refine Tl.ite (fun _ => Tl.ite (fun _ => zz) (fun h => Tl.yes (by omega) (Tl.yes (by omega) (Tl.ite (fun _ => j1s _ _) (fun _ => j1s _ _))))) (fun _ => zz)
  exact loop 9 m 0 0 rfl (by omega)
theorem begins11_tl (s t : ByteArray) (i : Int) (hs : s.size ≤ 200) (ht : t.size ≤ 200) (h0 : 0 ≤ i) (h1 : i ≤ s.size) : Tl (topiaryref11_begins.f s i t) fun _ => True := by
  unfold topiaryref11_begins.f
  rw [wr_id (x := (s.size : Int) - i) (by omega) (by omega), wr_id (x := i + (t.size : Int)) (by omega) (by omega)]
  exact Tl.yes h0 (Tl.yes h1 (Tl.ite (fun h => Tl.yes h0 (Tl.yes (by omega) (Tl.yes (by omega) (Tl.ret trivial)))) (fun _ => Tl.ret trivial)))
theorem entName_tl (s : ByteArray) (hs : s.size ≤ 200) (i : Int) (h0 : 0 ≤ i) (h1 : i ≤ s.size) (rest : Option (ByteArray × Int)) (hr : Tl rest fun r => r.1.size ≤ 4 ∧ 0 ≤ r.2 ∧ r.2 ≤ 20) :
    ∀ l : List (ByteArray × ByteArray), (∀ p ∈ l, p.1.size ≤ 10 ∧ p.2.size ≤ 4) → Tl (entByName s i rest l) fun r => r.1.size ≤ 4 ∧ 0 ≤ r.2 ∧ r.2 ≤ 20
  | [], _ => hr
  | (n, c) :: l, hl => by
    obtain ⟨hn, hc⟩ := hl (n, c) (by simp)
    rw [entByName]
    refine Tl.bind (begins11_tl s n i hs (by simp only at hn; omega) h0 h1) fun b _ => Tl.ite (fun _ => Tl.ret ⟨hc, by show 0 ≤ (n.size : Int); omega, by show (n.size : Int) ≤ 20; simp only at hn; omega⟩) (fun _ => ?_)
    exact entName_tl s hs i h0 h1 rest hr l (fun p hp => hl p (by simp [hp]))
theorem entNumber_tl (s : ByteArray) (hs : s.size ≤ 200) (i : Int) (h0 : 0 ≤ i) (h1 : i ≤ s.size) (m : Nat) (hm : 500 ≤ m) :
    ∀ l : List (ByteArray × Int), (∀ p ∈ l, p.1.size ≤ 10) → Tl (entByNumber m s i l) fun r => r.1.size ≤ 4 ∧ 0 ≤ r.2 ∧ r.2 ≤ 20
  | [], _ => Tl.ret ⟨by decide, by decide, by decide⟩
  | (n, b) :: l, hl => by
    have hn : n.size ≤ 10 := hl (n, b) (by simp)
    have ih := entNumber_tl s hs i h0 h1 m hm l (fun p hp => hl p (by simp [hp]))
    rw [entByNumber]
    rw [wr_id (x := i + (n.size : Int)) (by omega) (by omega)]
    refine Tl.bind (begins11_tl s n i hs (by omega) h0 h1) fun b _ => Tl.ite (fun _ => Tl.bind (number_tl s hs _ _ (by omega) (by omega) m hm) fun nk hk => Tl.bind (allowed_tl _) fun may _ => Tl.ite (fun hp => Tl.ite (fun _ => Tl.bind (encode_tl _) fun t ht => ?_) (fun _ => ih)) (fun _ => ih)) (fun _ => ih)
    obtain ⟨hk0, hk1⟩ := hk
    rw [wr_id (x := (n.size : Int) + nk.2) (by omega) (by omega), wr_id (by omega) (by omega)]
    exact Tl.ret ⟨ht, by show 0 ≤ (n.size : Int) + nk.2 + 1; omega, by show (n.size : Int) + nk.2 + 1 ≤ 20; omega⟩
theorem entity_tl (s : ByteArray) (hs : s.size ≤ 200) (i : Int) (h0 : 0 ≤ i) (h1 : i ≤ s.size) (m : Nat) (hm : 500 ≤ m) : Tl (topiaryref11_Entity.f m s i) fun r => r.1.size ≤ 4 ∧ 0 ≤ r.2 ∧ r.2 ≤ 20 :=
  entName_tl s hs i h0 h1 _ (entNumber_tl s hs i h0 h1 m hm entMarks (by decide)) entNames (by decide)
theorem extract_size (s : ByteArray) (i j : Nat) (h : i ≤ j) (hj : j ≤ s.size) : (s.extract i j).size = j - i := by
  rw [ByteArray.size_extract]; omega
theorem decoded_from (s : ByteArray) (hs : s.size ≤ 200) : ∀ (d m : Nat) (t : ByteArray) (i : Int), 0 ≤ i → (s.size : Int) - i ≤ d → (t.size : Int) ≤ 4 * i → i ≤ 300 → d + 510 < m → Tl (topiaryref12_decoded.l0 m s t i) fun r => r.1.size ≤ 1200
  | 0, m, t, i, h0, hd, ht, hi, hm => by
    obtain ⟨m, rfl⟩ : ∃ m', m = m' + 1 := ⟨m - 1, by omega⟩
    rw [topiaryref12_decoded.l0]
    exact Tl.no (by omega) (Tl.ret (by show t.size ≤ 1200; omega))
  | d + 1, m, t, i, h0, hd, ht, hi, hm => by
    obtain ⟨m, rfl⟩ : ∃ m', m = m' + 1 := ⟨m - 1, by omega⟩
    rw [topiaryref12_decoded.l0]
    refine Tl.ite (fun h => Tl.yes h0 (Tl.ite (fun _ => Tl.bind (entity_tl s hs i h0 (by omega) m (by omega)) fun r hr => Tl.ite (fun _ => Tl.ret (by decide)) (fun hz => ?_)) (fun _ => ?_))) (fun _ => Tl.ret (by show t.size ≤ 1200; omega))
    · obtain ⟨hr1, hr2, hr3⟩ := hr
      refine Tl.yes (by omega) ?_
      rw [wr_id (by omega) (by omega)]
      exact decoded_from s hs d m _ _ (by omega) (by omega) (by rw [ByteArray.size_append]; omega) (by omega) (by omega)
    · rw [wr_id (by omega) (by omega)]
      have he : (s.extract i.toNat (i + 1).toNat).size = 1 := by rw [extract_size s _ _ (by omega) (by omega)]; omega
      refine Tl.yes (by omega) (Tl.yes (by omega) (Tl.yes (by omega) ?_))
      exact decoded_from s hs d m _ _ (by omega) (by omega) (by rw [ByteArray.size_append, he]; omega) (by omega) (by omega)
theorem decoded_tl (s : ByteArray) (hs : s.size ≤ 200) (m : Nat) (hm : 800 ≤ m) : Tl (topiaryref12_decoded.f m s) fun r => r.1.size ≤ 1200 :=
  decoded_from s hs s.size m _ 0 (by omega) (by omega) (by decide) (by omega) (by omega)
theorem attr_tl (s : ByteArray) (hs : s.size ≤ 200) (m : Nat) (i : Int) (h0 : 0 ≤ i) (h1 : i ≤ s.size) (hm : 900 ≤ m) :
    Tl (topiaryref12_attr.f m s i) fun r => r.2.2.2.2.2 = true → i < r.2.2.1 ∧ r.2.2.1 ≤ s.size ∧ r.2.2.2.2.1.size ≤ 1200 := by
  have nope : Tl (some ((0 : Int), (0 : Int), (0 : Int), (⟨#[]⟩ : ByteArray), (⟨#[]⟩ : ByteArray), false)) fun r => r.2.2.2.2.2 = true → i < r.2.2.1 ∧ r.2.2.1 ≤ s.size ∧ r.2.2.2.2.1.size ≤ 1200 := Tl.ret (fun h => by cases h)
  obtain ⟨m, rfl⟩ : ∃ m', m = m' + 2 := ⟨m - 2, by omega⟩
  unfold topiaryref12_attr.f
  refine Tl.bind (skip_tl s hs _ i h0 h1 (by omega)) fun fr hf => Tl.bind (nameEnd_tl s hs _ fr (by omega) hf.2 (by omega)) fun en hen => ?_
  have j1s : ∀ q : Int, i < q → q ≤ s.size → ∀ b, (b = false → q + 1 ≤ s.size) → Tl (topiaryref12_attr.j1 (m + 1) s fr en q b) fun r => r.2.2.2.2.2 = true → i < r.2.2.1 ∧ r.2.2.1 ≤ s.size ∧ r.2.2.2.2.1.size ≤ 1200 := by
    intro q hq hq2 b hb
    rw [topiaryref12_attr.j1, wr_id (x := q + 1) (by omega) (by omega)]
    refine Tl.ite (fun _ => nope) (fun hx => Tl.yes (by omega) (Tl.yes (by omega) (Tl.yes (hb (by simpa using hx)) ?_)))
    have hq3 := hb (by simpa using hx)
    have he : (s.extract q.toNat (q + 1).toNat).size = 1 := by rw [extract_size s _ _ (by omega) (by omega)]; omega
    refine Tl.bind (find_tl s _ hs (by omega) m (q + 1) (by omega) hq3 (by omega)) fun zt hto => Tl.ite (fun _ => nope) (fun hneg => ?_)
    rcases hto with hto | ⟨ht1, ht2, _⟩
    · exact absurd (show zt < 0 by omega) hneg
    · rw [he] at ht2
      have hes : (s.extract (q + 1).toNat zt.toNat).size ≤ 200 := by rw [extract_size s _ _ (by omega) (by omega)]; omega
      refine Tl.yes (by omega) (Tl.yes ht1 (Tl.yes (by omega) (Tl.bind (find_tl _ _ hes (by decide) m 0 (by omega) (by omega) (by omega)) fun z _ => Tl.ite (fun _ => nope) (fun _ => Tl.bind (decoded_tl _ hes m (by omega)) fun dv hdv => Tl.yes (by omega) (Tl.yes hen.1 (Tl.yes hen.2 ?_))))))
      rw [wr_id (x := zt + 1) (by omega) (by omega)]
      exact Tl.ret fun _ => ⟨by show i < zt + 1; omega, by show zt + 1 ≤ (s.size : Int); omega, hdv⟩
  have j0s : ∀ b, Tl (topiaryref12_attr.j0 (m + 2) s fr en b) fun r => r.2.2.2.2.2 = true → i < r.2.2.1 ∧ r.2.2.1 ≤ s.size ∧ r.2.2.2.2.1.size ≤ 1200 := by
    intro b
    rw [topiaryref12_attr.j0]
    refine Tl.ite (fun _ => nope) (fun hx => Tl.bind (skip_tl s hs _ en (by omega) hen.2 (by omega)) fun eq heq => Tl.bind (begins_tl s _ eq hs (by decide) (by omega) (by omega)) fun b1 hb1 => Tl.ite (fun c1 => ?_) (fun _ => nope))
    have he1 := hb1.1 c1
    have e61 : ((⟨#[61]⟩ : ByteArray).size : Int) = 1 := rfl
    have e34 : ((⟨#[34]⟩ : ByteArray).size : Int) = 1 := rfl
    have e39 : ((⟨#[39]⟩ : ByteArray).size : Int) = 1 := rfl
    rw [e61] at he1
    rw [wr_id (x := eq + 1) (by omega) (by omega)]
    refine Tl.bind (skip_tl s hs _ (eq + 1) (by omega) he1 (by omega)) fun q hq => Tl.bind (begins_tl s _ q hs (by decide) (by omega) (by omega)) fun b2 hb2 => Tl.ite (fun c2 => ?_) (fun _ => Tl.bind (begins_tl s _ q hs (by decide) (by omega) (by omega)) fun b3 hb3 => ?_)
    · have h2 := hb2.1 c2
      rw [e34] at h2
      exact j1s q (by omega) hq.2 false (fun _ => h2)
    · refine j1s q (by omega) hq.2 (!b3) (fun hn => ?_)
      have h3 := hb3.1 (by simpa using hn)
      rw [e39] at h3
      exact h3
  exact Tl.ite (fun _ => j0s _) (fun _ => j0s _)
theorem rd71_last (l : List S71) (x : S71) (k : Int) (hk : k = (l.length : Int)) : rd_T71 (l ++ [x]) k = x := by
  subst hk
  simp [rd_T71]
def TokOk (a e : Int) (l : List S71) : Prop := 0 < l.length ∧ (l.length : Int) ≤ e - a ∧ (rd_T71 l ((l.length : Int) - 1)).f2 = e ∧ ∀ x ∈ l, x.f4.size ≤ 1200
theorem TokOk.more {a e e' : Int} {l : List S71} (h : TokOk a e l) (x : S71) (hx : x.f2 = e') (he : e < e') (hs : x.f4.size ≤ 1200) : TokOk a e' (l ++ [x]) := by
  obtain ⟨h1, h2, h3, h4⟩ := h
  refine ⟨by simp, by rw [List.length_append, List.length_singleton]; omega, ?_, ?_⟩
  · rw [rd71_last l x _ (by rw [List.length_append, List.length_singleton]; omega)]
    exact hx
  · intro y hy
    rcases List.mem_append.1 hy with hy | hy
    · exact h4 y hy
    · rw [List.mem_singleton.1 hy]; exact hs
theorem TokOk.one {a e : Int} (x : S71) (hx : x.f2 = e) (he : a < e) (hs : x.f4.size ≤ 1200) : TokOk a e [x] :=
  ⟨by simp, by show (1 : Int) ≤ e - a; omega, hx, fun y hy => by rw [List.mem_singleton.1 hy]; exact hs⟩
theorem tag_from (s : ByteArray) (hs : s.size ≤ 200) (a : Int) (ha : 0 ≤ a) : ∀ (d m : Nat) (l : List S71) (e : Int), TokOk a e l → a < e → e ≤ s.size → s.size - e ≤ d → d + 910 < m →
    Tl (topiaryref12_tag.l0 m s l) fun r => r.2 = true → ∃ e, TokOk a e r.1 ∧ a < e ∧ e ≤ s.size
  | d, 0, l, e, hl, hae, hes, hd, hm => by omega
  | d, m + 1, l, e, hl, hae, hes, hd, hm => by
    obtain ⟨h1, h2, h3, h4⟩ := hl
    have hl : TokOk a e l := ⟨h1, h2, h3, h4⟩
    have e62 : ((⟨#[62]⟩ : ByteArray).size : Int) = 1 := rfl
    have e47 : ((⟨#[47, 62]⟩ : ByteArray).size : Int) = 2 := rfl
    rw [topiaryref12_tag.l0, wr_id (x := (l.length : Int) - 1) (by omega) (by omega), h3]
    refine Tl.yes (by omega) (Tl.yes (by omega) (Tl.bind (skip_tl s hs _ e (by omega) hes (by omega)) fun i hi => Tl.bind (begins_tl s _ i hs (by decide) (by omega) (by omega)) fun b1 hb1 => Tl.ite (fun c1 => Tl.yes (by omega) (Tl.ret fun _ => ?_))
      (fun _ => Tl.bind (begins_tl s _ i hs (by decide) (by omega) (by omega)) fun b2 hb2 => Tl.ite (fun c2 => Tl.yes (by omega) (Tl.ret fun _ => ?_)) (fun _ => Tl.bind (attr_tl s hs m e (by omega) hes (by omega)) fun r hr => Tl.ite (fun c3 => Tl.yes (by omega) ?_) (fun _ => Tl.ret (fun h => by cases h))))))
    · have h := hb1.1 c1
      rw [e62] at h
      exact ⟨i + 1, hl.more _ (by show wrap64 (i + 1) = i + 1; exact wr_id (by omega) (by omega)) (by omega) (by show (⟨#[]⟩ : ByteArray).size ≤ 1200; decide), by omega, h⟩
    · have h := hb2.1 c2
      rw [e47] at h
      exact ⟨i + 2, hl.more _ (by show wrap64 (i + 2) = i + 2; exact wr_id (by omega) (by omega)) (by omega) (by show (⟨#[]⟩ : ByteArray).size ≤ 1200; decide), by omega, h⟩
    · obtain ⟨ha1, ha2, ha3⟩ := hr c3
      match d, hd, hm with
      | 0, hd, hm => omega
      | d + 1, hd, hm => exact tag_from s hs a ha d m _ r.2.2.1 (hl.more _ rfl ha1 ha3) (by omega) ha2 (by omega) (by omega)
theorem tag_tl (s : ByteArray) (hs : s.size ≤ 200) (m : Nat) (a : Int) (ha : 0 ≤ a) (ha1 : a < s.size) (hm : 1200 ≤ m) : Tl (topiaryref12_tag.f m s a) fun r => r.2 = true → ∃ e, TokOk a e r.1 ∧ a < e ∧ e ≤ s.size := by
  unfold topiaryref12_tag.f
  rw [wr_id (x := a + 1) (by omega) (by omega)]
  refine Tl.bind (nameEnd_tl s hs m (a + 1) (by omega) (by omega) (by omega)) fun en hen => Tl.ite (fun _ => Tl.ret (fun h => by cases h)) (fun hne => Tl.yes (by omega) (Tl.yes hen.1 (Tl.yes hen.2 ?_)))
  exact tag_from s hs a ha 200 m _ en (TokOk.one _ rfl (by omega) (by show (⟨#[]⟩ : ByteArray).size ≤ 1200; decide)) (by omega) hen.2 (by omega) (by omega)
theorem piece_tl (s : ByteArray) (hs : s.size ≤ 200) (m : Nat) (a : Int) (ha : 0 ≤ a) (ha1 : a < s.size) (hm : 1200 ≤ m) : Tl (topiaryref12_piece.f m s a) fun r => r.2 = true → ∃ e, TokOk a e r.1 ∧ a < e ∧ e ≤ s.size := by
  have z4 : ((⟨#[60, 33, 45, 45]⟩ : ByteArray).size : Int) = 4 := rfl
  have z2 : ((⟨#[45, 45]⟩ : ByteArray).size : Int) = 2 := rfl
  have z3 : ((⟨#[45, 45, 62]⟩ : ByteArray).size : Int) = 3 := rfl
  have z9 : ((⟨#[60, 33, 91, 67, 68, 65, 84, 65, 91]⟩ : ByteArray).size : Int) = 9 := rfl
  have z93 : ((⟨#[93, 93, 62]⟩ : ByteArray).size : Int) = 3 := rfl
  have z47 : ((⟨#[60, 47]⟩ : ByteArray).size : Int) = 2 := rfl
  have z62 : ((⟨#[62]⟩ : ByteArray).size : Int) = 1 := rfl
  have z60 : ((⟨#[60]⟩ : ByteArray).size : Int) = 1 := rfl
  have nope : Tl (some (([] : List S71), false)) fun r => r.2 = true → ∃ e, TokOk a e r.1 ∧ a < e ∧ e ≤ s.size := Tl.ret (fun h => by cases h)
  have exs : ∀ i j : Int, 0 ≤ i → i ≤ j → j ≤ s.size → (s.extract i.toNat j.toNat).size ≤ 200 := by
    intro i j h0 h1 h2
    rw [extract_size s _ _ (by omega) (by omega)]; omega
  unfold topiaryref12_piece.f
  refine Tl.bind (begins_tl s _ a hs (by decide) ha (by omega)) fun b1 hb1 => Tl.ite (fun c1 => ?_) (fun _ => Tl.bind (begins_tl s _ a hs (by decide) ha (by omega)) fun b2 hb2 => Tl.ite (fun c2 => ?_) (fun _ => Tl.bind (begins_tl s _ a hs (by decide) ha (by omega)) fun b3 hb3 => Tl.ite (fun c3 => ?_) (fun _ => Tl.bind (begins_tl s _ a hs (by decide) ha (by omega)) fun b4 hb4 => Tl.ite (fun c4 => ?_) (fun c4 => ?_))))
  · have h := hb1.1 c1
    rw [z4] at h
    rw [wr_id (x := a + 4) (by omega) (by omega)]
    refine Tl.bind (find_tl s _ hs (by decide) m (a + 4) (by omega) h (by omega)) fun i hi => Tl.ite (fun _ => nope) (fun hneg => ?_)
    rcases hi with hi | ⟨hi1, hi2, _⟩
    · exact absurd (show i < 0 by omega) hneg
    · rw [z2] at hi2
      refine Tl.bind (begins_tl s _ i hs (by decide) (by omega) (by omega)) fun b5 hb5 => Tl.ite (fun c5 => ?_) (fun _ => nope)
      have h5 := hb5.1 c5
      rw [z3] at h5
      have hx := exs (a + 4) i (by omega) hi1 (by omega)
      refine Tl.yes (by omega) (Tl.yes hi1 (Tl.yes (by omega) (Tl.ret fun _ => ⟨i + 3, TokOk.one _ (by show wrap64 (i + 3) = i + 3; exact wr_id (by omega) (by omega)) (by omega) (by show (s.extract (a + 4).toNat i.toNat).size ≤ 1200; omega), by omega, h5⟩)))
  · have h := hb2.1 c2
    rw [z9] at h
    rw [wr_id (x := a + 9) (by omega) (by omega)]
    refine Tl.bind (find_tl s _ hs (by decide) m (a + 9) (by omega) h (by omega)) fun i hi => Tl.ite (fun _ => nope) (fun hneg => ?_)
    rcases hi with hi | ⟨hi1, hi2, _⟩
    · exact absurd (show i < 0 by omega) hneg
    · rw [z93] at hi2
      have hx := exs (a + 9) i (by omega) hi1 (by omega)
      refine Tl.yes (by omega) (Tl.yes hi1 (Tl.yes (by omega) (Tl.ret fun _ => ⟨i + 3, TokOk.one _ (by show wrap64 (i + 3) = i + 3; exact wr_id (by omega) (by omega)) (by omega) (by show (s.extract (a + 9).toNat i.toNat).size ≤ 1200; omega), by omega, by omega⟩)))
  · have h := hb3.1 c3
    rw [z47] at h
    rw [wr_id (x := a + 2) (by omega) (by omega)]
    refine Tl.bind (nameEnd_tl s hs m (a + 2) (by omega) h (by omega)) fun en hen => Tl.bind (skip_tl s hs m en (by omega) hen.2 (by omega)) fun i hi => Tl.ite (fun _ => nope) (fun _ => Tl.bind (begins_tl s _ i hs (by decide) (by omega) (by omega)) fun b5 hb5 => Tl.ite (fun c5 => ?_) (fun _ => nope))
    have h5 := hb5.1 c5
    rw [z62] at h5
    refine Tl.yes (by omega) (Tl.yes hen.1 (Tl.yes hen.2 (Tl.ret fun _ => ⟨i + 1, TokOk.one _ (by show wrap64 (i + 1) = i + 1; exact wr_id (by omega) (by omega)) (by omega) (by show (⟨#[]⟩ : ByteArray).size ≤ 1200; decide), by omega, h5⟩)))
  · exact Tl.bind (tag_tl s hs m a ha ha1 hm) fun r hr => Tl.ret hr
  · have hno := hb4.2 (by simpa using c4)
    rw [z60] at hno
    refine Tl.bind (find_tl s _ hs (by decide) m a ha (by omega) (by omega)) fun i hi => ?_
    rcases hi with rfl | ⟨hi1, hi2, hi3⟩
    · have hx := exs a s.size ha (by omega) (Int.le_refl _)
      refine Tl.yes (by decide) (Tl.yes ha (Tl.yes (by omega) (Tl.yes (Int.le_refl _) (Tl.bind (decoded_tl _ hx m (by omega)) fun dv hdv => Tl.ret fun _ => ⟨s.size, TokOk.one _ rfl ha1 hdv, ha1, Int.le_refl _⟩))))
    · rw [z60] at hi2 hi3
      have hai : a ≠ i := by
        rintro rfl
        exact hno hi2 hi3
      have hx := exs a i ha hi1 (by omega)
      refine Tl.no (by omega) (Tl.yes ha (Tl.yes hi1 (Tl.yes (by omega) (Tl.bind (decoded_tl _ hx m (by omega)) fun dv hdv => Tl.ret fun _ => ⟨i, TokOk.one _ rfl (by omega) hdv, by omega, by omega⟩))))
def ToksOk (l : List S71) : Prop := l.length ≤ 200 ∧ ∀ x ∈ l, x.f4.size ≤ 1200
theorem lex_from (s : ByteArray) (hs : s.size ≤ 200) : ∀ (d m : Nat) (l : List S71) (a : Int), 0 ≤ a → a ≤ s.size → s.size - a ≤ d → (l.length : Int) ≤ a → (∀ x ∈ l, x.f4.size ≤ 1200) → d + 1210 < m → Tl (topiaryref12_Lex.l0 m s l a) fun r => ToksOk r.1
  | d, 0, l, a, h0, h1, hd, hl, hv, hm => by omega
  | d, m + 1, l, a, h0, h1, hd, hl, hv, hm => by
    rw [topiaryref12_Lex.l0]
    have zz : Tl (some (([] : List S71), (15 : Int))) fun r => ToksOk r.1 := Tl.ret ⟨by simp, fun x hx => by simp at hx⟩
    refine Tl.ite (fun h => Tl.bind (piece_tl s hs m a h0 h (by omega)) fun r hr => Tl.ite (fun c => ?_) (fun _ => zz)) (fun _ => Tl.ret ⟨by show l.length ≤ 200; omega, hv⟩)
    obtain ⟨e, ⟨t1, t2, t3, t4⟩, he1, he2⟩ := hr c
    refine Tl.no (by omega) (Tl.yes (by omega) ?_)
    rw [wr_id (x := (r.1.length : Int) - 1) (by omega) (by omega), t3]
    refine Tl.yes (by omega) (Tl.yes (by omega) ?_)
    match d, hd, hm with
    | 0, hd, hm => omega
    | d + 1, hd, hm =>
      refine lex_from s hs d m _ e (by omega) he2 (by omega) (by rw [List.length_append]; omega) (fun x hx => ?_) (by omega)
      rcases List.mem_append.1 hx with hx | hx
      · exact hv x hx
      · exact t4 x hx
theorem lex_tl (s : ByteArray) (hs : s.size ≤ 200) (m : Nat) (hm : 1500 ≤ m) : Tl (topiaryref12_Lex.f m s) fun r => ToksOk r.1 := by
  unfold topiaryref12_Lex.f
  have zz : Tl (some (([] : List S71), (15 : Int))) fun r => ToksOk r.1 := Tl.ret ⟨by simp, fun x hx => by simp at hx⟩
  exact Tl.no (by omega) (Tl.bind (valid_tl s hs m (by omega)) fun b _ => Tl.ite (fun _ => lex_from s hs s.size m [] 0 (by omega) (by omega) (by omega) (by simp) (fun x hx => by simp at hx) (by omega)) (fun _ => zz))
end Go.Proofs.Ytoanmoddppmffaa.T
