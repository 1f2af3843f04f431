/- The reference's tree of a text of 200 bytes at most: it answers, and of what form the tree is. -/
import Derived.Test.YtoanmoddppmffaaGPl
import Derived.KernelRfl
namespace Go.Proofs.Ytoanmoddppmffaa.T
open Go.RowKit Go.Proofs.YtoanmoddppmffaaW.PrintWords Go.Proofs.YtoanmoddppmffaaW.PrintLast Go.Proofs.YtoanmoddppmffaaW.PrintMore
set_option linter.unusedVariables false
set_option linter.unusedSimpArgs false
theorem empty_list : (⟨#[]⟩ : ByteArray).toList = [] := by kernel_rfl
theorem texts_from (l : List S71) (hl : ToksOk l) (i0 : Int) : ∀ (d m : Nat) (i : Int) (s : ByteArray), 0 ≤ i → i ≤ l.length → (l.length : Int) - i ≤ d → i0 ≤ i → (s.size : Int) ≤ 1200 * i → (i = i0 → s.toList = []) → 2 * d + 4 < m →
    Tl (topiaryref13_texts.l0 m l i s) fun r => i ≤ r.2 ∧ r.2 ≤ l.length ∧ r.1.size ≤ 1200 * 200 ∧ (r.2 = i0 → r.1.toList = [])
  | d, m, i, s, h0, h1, hd, hi, hs, he, hm => by
    obtain ⟨hl1, hl2⟩ := hl
    obtain ⟨m, rfl⟩ : ∃ m', m = m' + 2 := ⟨m - 2, by omega⟩
    have fin : ∀ b, b = false → Tl (topiaryref13_texts.j1 (m + 1) l i s b) fun r => i ≤ r.2 ∧ r.2 ≤ l.length ∧ r.1.size ≤ 1200 * 200 ∧ (r.2 = i0 → r.1.toList = []) := by
      intro b hb
      rw [topiaryref13_texts.j1]
      exact Tl.no (by rw [hb]; decide) (Tl.ret ⟨Int.le_refl _, h1, by show s.size ≤ _; omega, he⟩)
    rw [topiaryref13_texts.l0]
    refine Tl.ite (fun h => Tl.yes h0 ?_) (fun _ => fin false rfl)
    have hmem : rd_T71 l i ∈ l := by
      unfold rd_T71
      rw [List.getD_eq_getElem?_getD, List.getElem?_eq_getElem (by omega)]
      exact List.getElem_mem _
    have hv := hl2 _ hmem
    match d, hd, hm with
    | 0, hd, hm => omega
    | d + 1, hd, hm =>
      have more : ∀ s' : ByteArray, (s'.size : Int) ≤ 1200 * (i + 1) → Tl (topiaryref13_texts.l0 m l (i + 1) s') fun r => i ≤ r.2 ∧ r.2 ≤ l.length ∧ r.1.size ≤ 1200 * 200 ∧ (r.2 = i0 → r.1.toList = []) := fun s' hs' =>
        (texts_from l ⟨hl1, hl2⟩ i0 d m (i + 1) s' (by omega) (by omega) (by omega) (by omega) hs' (fun h => by omega) (by omega)).mono fun r hr => ⟨by omega, hr.2⟩
      have any : ∀ b, Tl (topiaryref13_texts.j1 (m + 1) l i s b) fun r => i ≤ r.2 ∧ r.2 ≤ l.length ∧ r.1.size ≤ 1200 * 200 ∧ (r.2 = i0 → r.1.toList = []) := by
        intro b
        cases hb : b with
        | false => exact fin false rfl
        | true =>
          rw [topiaryref13_texts.j1, wr_id (by omega) (by omega)]
          refine Tl.yes rfl (Tl.yes h0 (Tl.yes h (Tl.ite (fun _ => Tl.yes (by omega) (more _ (by rw [ByteArray.size_append]; omega))) (fun _ => more _ (by omega)))))
      exact Tl.ite (fun _ => any _) (fun _ => any _)
theorem texts_tl (l : List S71) (hl : ToksOk l) (m : Nat) (i : Int) (h0 : 0 ≤ i) (h1 : i ≤ l.length) (hm : 500 ≤ m) :
    Tl (topiaryref13_texts.f m l i) fun r => i ≤ r.2 ∧ r.2 ≤ l.length ∧ r.1.size ≤ 1200 * 200 ∧ (r.2 = i → r.1.toList = []) := by
  have := hl.1
  exact texts_from l hl i 200 m i _ h0 h1 (by omega) (Int.le_refl _) (by show ((0 : Nat) : Int) ≤ _; omega) (fun _ => empty_list) (by omega)
inductive Up (p : Nat → Int) (a : Nat) : Nat → Prop
  | self : Up p a a
  | step {j q : Nat} : p j = (q : Int) → q < j → Up p a q → Up p a j
theorem Up.trans {p : Nat → Int} {a b c : Nat} (h : Up p a b) (h' : Up p b c) : Up p a c := by
  induction h' with
  | self => exact h
  | step e l _ ih => exact .step e l ih
theorem Up.le {p : Nat → Int} {a j : Nat} (h : Up p a j) : a ≤ j := by
  induction h with
  | self => exact Nat.le_refl _
  | step e l _ ih => omega
theorem Up.congr {p p' : Nat → Int} {a j : Nat} (h : Up p a j) (hp : ∀ i, i ≤ j → p' i = p i) : Up p' a j := by
  induction h with
  | self => exact .self
  | step e l _ ih => exact .step ((hp _ (Nat.le_refl _)).trans e) l (ih (fun i hi => hp i (by omega)))
def par74 (l : List S74) (j : Nat) : Int := (l.getD j z74).f0.f2
theorem par74_old (l more : List S74) (j : Nat) (h : j < l.length) : par74 (l ++ more) j = par74 l j := by
  unfold par74
  rw [List.getD_eq_getElem?_getD, List.getD_eq_getElem?_getD, List.getElem?_append_left h]
theorem par74_new (l : List S74) (n : S74) : par74 (l ++ [n]) l.length = n.f0.f2 := by
  unfold par74
  rw [List.getD_eq_getElem?_getD, List.getElem?_append_right (Nat.le_refl _)]
  simp
def NodesOk (l : List S74) : Prop := (0 < l.length → par74 l 0 = -1) ∧ (∀ j, 0 < j → j < l.length → ∃ q : Nat, par74 l j = (q : Int) ∧ q < j ∧ Up (par74 l) q (j - 1)) ∧ ∀ x ∈ l, x.f0.f0 = 1 ∨ x.f0.f0 = 2 ∨ x.f0.f0 = 3
theorem NodesOk.add {l : List S74} (h : NodesOk l) (n : S74) (me : Nat) (hm : me < l.length) (hu : Up (par74 l) me (l.length - 1)) (hp : n.f0.f2 = (me : Int)) (hk : n.f0.f0 = 1 ∨ n.f0.f0 = 2 ∨ n.f0.f0 = 3) :
    NodesOk (l ++ [n]) ∧ Up (par74 (l ++ [n])) me l.length := by
  obtain ⟨h1, h2, h3⟩ := h
  have old : ∀ i, i ≤ l.length - 1 → par74 (l ++ [n]) i = par74 l i := fun i hi => par74_old l [n] i (by omega)
  refine ⟨⟨fun _ => ?_, fun j hj hjl => ?_, fun x hx => ?_⟩, .step ((par74_new l n).trans hp) hm .self⟩
  · rw [old 0 (by omega)]; exact h1 (by omega)
  · rw [List.length_append, List.length_singleton] at hjl
    by_cases hlt : j < l.length
    · obtain ⟨q, e, hq, hu'⟩ := h2 j hj hlt
      exact ⟨q, (old j (by omega)).trans e, hq, hu'.congr (fun i hi => old i (by omega))⟩
    · obtain rfl : j = l.length := by omega
      exact ⟨me, (par74_new l n).trans hp, hm, hu.congr old⟩
  · rcases List.mem_append.1 hx with hx | hx
    · exact h3 x hx
    · rw [List.mem_singleton.1 hx]; exact hk
theorem NodesOk.first (n : S74) (hp : n.f0.f2 = -1) (hk : n.f0.f0 = 1 ∨ n.f0.f0 = 2 ∨ n.f0.f0 = 3) : NodesOk [n] :=
  ⟨fun _ => hp, fun j hj hjl => by simp only [List.length_singleton] at hjl; omega, fun x hx => by rw [List.mem_singleton.1 hx]; exact hk⟩
def ElOk (L : Nat) (l3 : List S74) (me : Nat) (i : Int) (r : List S74 × Int × Bool) : Prop :=
  r.2.2 = true → NodesOk r.1 ∧ (∃ more, r.1 = l3 ++ more) ∧ me < r.1.length ∧ Up (par74 r.1) me (r.1.length - 1) ∧ i < r.2.1 ∧ r.2.1 ≤ L ∧ (r.1.length : Int) ≤ r.2.1
def InOk (L : Nat) (x3 : List S74) (me : Nat) (i : Int) : Prop := NodesOk x3 ∧ me < x3.length ∧ Up (par74 x3) me (x3.length - 1) ∧ (x3.length : Int) ≤ i ∧ i ≤ L
theorem InOk.more {L : Nat} {x3 : List S74} {me : Nat} {i : Int} (h : InOk L x3 me i) (n : S74) (i' : Int) (hi : i + 1 ≤ i') (hi' : i' ≤ L) (hp : n.f0.f2 = (me : Int)) (hk : n.f0.f0 = 1 ∨ n.f0.f0 = 2 ∨ n.f0.f0 = 3) : InOk L (x3 ++ [n]) me i' := by
  obtain ⟨h1, h2, h3, h4, h5⟩ := h
  obtain ⟨g1, g2⟩ := h1.add n me h2 h3 hp hk
  exact ⟨g1, by rw [List.length_append]; omega, by rw [List.length_append, List.length_singleton, Nat.add_sub_cancel]; exact g2, by rw [List.length_append, List.length_singleton]; omega, hi'⟩
theorem ElOk.of_more {L : Nat} {x3 : List S74} {n : List S74} {me : Nat} {i i' : Int} {r : List S74 × Int × Bool} (h : ElOk L (x3 ++ n) me i' r) (hi : i ≤ i') : ElOk L x3 me i r := fun hr => by
  obtain ⟨h1, ⟨more, h2⟩, h3, h4, h5, h6, h7⟩ := h hr
  exact ⟨h1, ⟨n ++ more, by rw [h2, List.append_assoc]⟩, h3, h4, by omega, h6, h7⟩
def ElSpec (l : List S71) (m : Nat) : Prop :=
  (∀ (i par deep : Int) (l3 : List S74), 0 ≤ i → i ≤ l.length → 300 * ((l.length : Int) - i) + 600 < m → (l3 = [] ∧ par = -1 ∨ ∃ q : Nat, par = (q : Int) ∧ InOk l.length l3 q i) → 
    Tl (topiaryref13_element.f m l i par l3 deep) fun r => ElOk l.length l3 l3.length i r ∧ (r.2.2 = true → par74 r.1 l3.length = par)) ∧
  (∀ (i deep : Int) (x3 : List S74) (me : Nat) (name : ByteArray), 0 ≤ i → InOk l.length x3 me i → 300 * ((l.length : Int) - i) + 800 < m → Tl (topiaryref13_element.l0 m l i x3 deep (me : Int) name) (ElOk l.length x3 me i)) ∧
  (∀ (d : Nat) (i deep k : Int) (x3 : List S74) (me : Nat) (name : ByteArray), 0 ≤ i → i < l.length → InOk l.length x3 me i → 0 ≤ k → (x3.length : Int) - k ≤ d → k ≤ 1000 → 300 * ((l.length : Int) - i) + 510 + d < m → Tl (topiaryref13_element.l1 m l i x3 deep (me : Int) name k) (ElOk l.length x3 me i)) ∧
  (∀ (i deep : Int) (x3 : List S74) (me : Nat) (name : ByteArray), 0 ≤ i → InOk l.length x3 me i → 300 * ((l.length : Int) - i) + 610 < m → Tl (topiaryref13_element.l2 m l i x3 deep (me : Int) name) (ElOk l.length x3 me i))
theorem element_all (l : List S71) (hl : ToksOk l) (m : Nat) : ElSpec l m := by
  induction m using Nat.strongRecOn with
  | ind m ih =>
  obtain ⟨hl1, hl2⟩ := hl
  refine ⟨?_, ?_, ?_, ?_⟩
  · intro i par deep l3 h0 h1 hm hpre
    obtain ⟨m, rfl⟩ : ∃ m', m = m' + 2 := ⟨m - 2, by omega⟩
    have j0s : ∀ b, (b = false → i < l.length) → Tl (topiaryref13_element.j0 (m + 1) l i par l3 deep b) fun r => ElOk l.length l3 l3.length i r ∧ (r.2.2 = true → par74 r.1 l3.length = par) := by
      intro b hb
      rw [topiaryref13_element.j0]
      refine Tl.ite (fun _ => Tl.ret ⟨fun h => (by cases h), fun h => (by cases h)⟩) (fun hx => ?_)
      have hi := hb (by simpa using hx)
      have hlen : (l3.length : Int) ≤ i := by
        rcases hpre with ⟨rfl, _⟩ | ⟨q, _, _, _, _, h, _⟩
        · simpa using h0
        · exact h
      refine Tl.yes h0 (Tl.yes hi (Tl.yes (by omega) ?_))
      rw [wr_id (by omega) (by omega)]
      generalize hn : (⟨(⟨1, 0, par, (⟨#[]⟩ : ByteArray)⟩ : S52), (rd_T71 l i).f3⟩ : S74) = n
      have hnp : n.f0.f2 = par := by rw [← hn]
      have hnk : n.f0.f0 = 1 ∨ n.f0.f0 = 2 ∨ n.f0.f0 = 3 := by rw [← hn]; exact .inl rfl
      have hin : InOk l.length (l3 ++ [n]) l3.length (i + 1) := by
        have hok : NodesOk (l3 ++ [n]) := by
          rcases hpre with ⟨rfl, hp⟩ | ⟨q, hp, h⟩
          · exact NodesOk.first n (hnp.trans hp) hnk
          · exact (h.1.add n q h.2.1 h.2.2.1 (hnp.trans hp) hnk).1
        refine ⟨hok, by simp, by rw [List.length_append, List.length_singleton, Nat.add_sub_cancel]; exact .self, by rw [List.length_append, List.length_singleton]; omega, by omega⟩
      refine ((ih m (by omega)).2.1 (i + 1) deep (l3 ++ [n]) l3.length _ (by omega) hin (by omega)).mono fun r hr => ⟨hr.of_more (by omega), fun ht => ?_⟩
      obtain ⟨_, ⟨more, e⟩, _⟩ := hr ht
      rw [e, par74_old _ more _ (by simp), par74_new, hnp]
    rw [topiaryref13_element.f]
    refine Tl.ite (fun _ => j0s true (fun h => by cases h)) (fun h => Tl.yes h0 (Tl.yes (by omega) (Tl.ite (fun _ => j0s _ (fun _ => by omega)) (fun _ => j0s true (fun h => by cases h)))))
  · intro i deep x3 me name h0 hin hm
    obtain ⟨g1, g2, g3, g4, g5⟩ := hin
    have hin : InOk l.length x3 me i := ⟨g1, g2, g3, g4, g5⟩
    obtain ⟨m, rfl⟩ : ∃ m', m = m' + 2 := ⟨m - 2, by omega⟩
    have j2s : ∀ b, (b = true → i < l.length) → Tl (topiaryref13_element.j2 (m + 1) l i x3 deep (me : Int) name b) (ElOk l.length x3 me i) := by
      intro b hb
      rw [topiaryref13_element.j2]
      refine Tl.ite (fun hx => ?_) (fun _ => Tl.ite (fun _ => Tl.ret (fun h => by cases h)) (fun h => Tl.yes h0 (Tl.yes (by omega) (Tl.ite (fun _ => ?_) (fun _ => ?_)))))
      · rw [wr_id (by omega) (by omega)]
        exact (ih m (by omega)).2.2.1 200 i deep _ x3 me name h0 (hb hx) hin (by omega) (by omega) (by omega) (by omega)
      · rw [wr_id (by omega) (by omega)]
        exact Tl.ret fun _ => ⟨g1, ⟨[], by simp⟩, g2, g3, by show i < i + 1; omega, by show i + 1 ≤ _; omega, by show (x3.length : Int) ≤ i + 1; omega⟩
      · rw [wr_id (by omega) (by omega)]
        exact ((ih m (by omega)).2.2.2 (i + 1) deep x3 me name (by omega) ⟨g1, g2, g3, by omega, by omega⟩ (by omega)).mono fun r hr => ElOk.of_more (n := []) (by simpa using hr) (by omega)
    rw [topiaryref13_element.l0]
    exact Tl.ite (fun h => Tl.yes h0 (j2s _ (fun _ => h))) (fun _ => j2s _ (fun h => by cases h))
  · intro d i deep k x3 me name h0 h1 hin hk hd hk2 hm
    obtain ⟨g1, g2, g3, g4, g5⟩ := hin
    have hin : InOk l.length x3 me i := ⟨g1, g2, g3, g4, g5⟩
    obtain ⟨m, rfl⟩ : ∃ m', m = m' + 1 := ⟨m - 1, by omega⟩
    rw [topiaryref13_element.l1]
    refine Tl.ite (fun h => Tl.yes hk (Tl.yes h0 (Tl.yes h1 (Tl.ite (fun _ => Tl.ret (fun h => by cases h)) (fun _ => ?_))))) (fun _ => Tl.yes h0 (Tl.yes h1 (Tl.yes (by omega) ?_)))
    · rw [wr_id (by omega) (by omega)]
      exact (ih m (by omega)).2.2.1 (d - 1) i deep (k + 1) x3 me name h0 h1 hin (by omega) (by omega) (by omega) (by omega)
    · rw [wr_id (by omega) (by omega)]
      exact ((ih m (by omega)).2.1 (i + 1) deep _ me name (by omega) (hin.more _ (i + 1) (by omega) (by omega) rfl (.inr (.inl rfl))) (by omega)).mono fun r hr => hr.of_more (by omega)
  · intro i deep x3 me name h0 hin hm
    obtain ⟨g1, g2, g3, g4, g5⟩ := hin
    have hin : InOk l.length x3 me i := ⟨g1, g2, g3, g4, g5⟩
    obtain ⟨m, rfl⟩ : ∃ m', m = m' + 2 := ⟨m - 2, by omega⟩
    have j5s : ∀ (x3 : List S74) (i : Int), 0 ≤ i → InOk l.length x3 me i → 300 * ((l.length : Int) - i) + 608 < m → Tl (topiaryref13_element.j5 (m + 1) l x3 deep (me : Int) name i) (ElOk l.length x3 me i) := by
      intro x3 i h0 hin hm
      obtain ⟨g1, g2, g3, g4, g5⟩ := hin
      have hin : InOk l.length x3 me i := ⟨g1, g2, g3, g4, g5⟩
      rw [topiaryref13_element.j5]
      refine Tl.ite (fun _ => Tl.ret (fun h => by cases h)) (fun h => Tl.yes h0 (Tl.yes (by omega) (Tl.ite (fun _ => ?_) (fun _ => ?_))))
      · rw [wr_id (by omega) (by omega)]
        exact Tl.ret fun _ => ⟨g1, ⟨[], by simp⟩, g2, g3, by show i < i + 1; omega, by show i + 1 ≤ _; omega, by show (x3.length : Int) ≤ i + 1; omega⟩
      · refine Tl.bind ((ih m (by omega)).1 i (me : Int) _ x3 h0 g5 (by omega) (.inr ⟨me, rfl, hin⟩)) fun r hr => Tl.ite (fun c => ?_) (fun _ => Tl.ret (fun h => by cases h))
        obtain ⟨e1, ⟨more, e2⟩, e3, e4, e5, e6, e7⟩ := hr.1 c
        have hpar := hr.2 c
        have hup : Up (par74 r.1) me (r.1.length - 1) := Up.trans (.step hpar g2 .self) e4
        refine ((ih m (by omega)).2.2.2 r.2.1 deep r.1 me name (by omega) ⟨e1, by omega, hup, e7, e6⟩ (by omega)).mono fun z hz => ?_
        rw [e2] at hz
        exact hz.of_more (by omega)
    rw [topiaryref13_element.l2]
    refine Tl.bind (texts_tl l ⟨hl1, hl2⟩ (m + 1) i h0 g5 (by omega)) fun r hr => ?_
    obtain ⟨r1, r2, r3, r4⟩ := hr
    refine Tl.ite (fun _ => ?_) (fun hne => Tl.yes (by omega) ?_)
    · exact (j5s x3 r.2 (by omega) ⟨g1, g2, g3, by omega, r2⟩ (by omega)).mono fun z hz => ElOk.of_more (n := []) (by simpa using hz) r1
    · have hlt : i + 1 ≤ r.2 := by
        have : r.2 ≠ i := fun h => hne (r4 h)
        omega
      exact (j5s _ r.2 (by omega) (hin.more _ r.2 hlt r2 rfl (.inr (.inr rfl))) (by omega)).mono fun z hz => hz.of_more r1
def Has (l : List ByteArray) (s : ByteArray) : Prop := ∃ x ∈ l, x.toList = s.toList
theorem rdOf_mem (l : List ByteArray) (i : Int) (h0 : 0 ≤ i) (h1 : i < l.length) : rdOf ByteArray.empty l i ∈ l := by
  unfold rdOf
  rw [List.getD_eq_getElem?_getD, List.getElem?_eq_getElem (by omega)]
  exact List.getElem_mem _
theorem rdOf_take (l : List ByteArray) (i : Nat) (h1 : i < l.length) : l.take (i + 1) = l.take i ++ [rdOf ByteArray.empty l (i : Int)] := by
  rw [List.take_succ_eq_append_getElem h1]
  simp [rdOf, List.getD_eq_getElem?_getD, List.getElem?_eq_getElem h1]
theorem with_from (l : List ByteArray) (s : ByteArray) (hl : l.length ≤ 10000) : ∀ (d m i : Nat) (out : List ByteArray) (put : Bool), i + d = l.length → (∀ x ∈ l.take i, x ∈ out) → out.length = i + (if put = true then 1 else 0) → (put = true → s ∈ out) → d + 2 < m →
    Tl (topiaryref13_with.l0 m l s out put (i : Int)) fun r => r.length ≤ l.length + 1 ∧ (∀ x ∈ l, x ∈ r) ∧ Has r s
  | 0, m, i, out, put, hi, ho, hn, hp, hm => by
    obtain ⟨m, rfl⟩ : ∃ m', m = m' + 1 := ⟨m - 1, by omega⟩
    rw [topiaryref13_with.l0]
    have ht : l.take i = l := List.take_of_length_le (by omega)
    rw [ht] at ho
    refine Tl.no (by omega) (Tl.ite (fun h => Tl.ret ⟨by rw [hn, if_pos h]; omega, ho, s, hp h, rfl⟩) (fun h => Tl.yes (by rw [hn, if_neg h]; omega) (Tl.ret ⟨?_, fun x hx => List.mem_append.2 (.inl (ho x hx)), s, by simp, rfl⟩)))
    rw [List.length_append, hn, if_neg h]; simp; omega
  | d + 1, m, i, out, put, hi, ho, hn, hp, hm => by
    obtain ⟨m, rfl⟩ : ∃ m', m = m' + 1 := ⟨m - 1, by omega⟩
    have hlt : i < l.length := by omega
    have hol : out.length ≤ i + 1 := by rw [hn]; split <;> omega
    have ez : ((i : Int) + 1) = ((i + 1 : Nat) : Int) := by omega
    have hput : ∀ o : List ByteArray, (∀ x ∈ out, x ∈ o) → rdOf ByteArray.empty l (i : Int) ∈ o → ∀ x ∈ l.take (i + 1), x ∈ o := by
      intro o h1 h2 x hx
      rw [rdOf_take l i hlt] at hx
      rcases List.mem_append.1 hx with hx | hx
      · exact h1 x (ho x hx)
      · rw [List.mem_singleton.1 hx]; exact h2
    rw [topiaryref13_with.l0, wr_id (by omega) (by omega), ez]
    refine Tl.yes (by omega) (Tl.yes (by omega) (Tl.ite (fun e => Tl.ret ⟨by omega, fun x hx => hx, _, rdOf_mem l i (by omega) (by omega), e⟩) (fun _ => Tl.ite (fun hpt => Tl.yes (by omega) ?_) (fun hpt => Tl.ite (fun _ => Tl.yes (by omega) (Tl.bind (Q := fun y => y = out ++ [s]) (Tl.ret rfl) fun y hy => ?_)) (fun _ => Tl.yes (by omega) ?_)))))
    · refine with_from l s hl d m (i + 1) _ put (by omega) (hput _ (fun x hx => by simp [hx]) (by simp)) (by rw [List.length_append, hn, if_pos hpt]; simp <;> omega) (fun h => by simp [hp h]) (by omega)
    · subst hy
      have hout : out.length = i := by rw [hn, if_neg hpt]; rfl
      refine Tl.yes (by rw [List.length_append, hout, List.length_singleton]; omega) ?_
      refine with_from l s hl d m (i + 1) _ true (by omega) (hput _ (fun x hx => by simp [hx]) (by simp)) (by rw [List.length_append, List.length_append, hout]; simp) (fun _ => by simp) (by omega)
    · have hout : out.length = i := by rw [hn, if_neg hpt]; rfl
      refine with_from l s hl d m (i + 1) _ put (by omega) (hput _ (fun x hx => by simp [hx]) (by simp)) (by rw [List.length_append, hout, if_neg hpt]; simp) (fun h => absurd h hpt) (by omega)
theorem with_tl (l : List ByteArray) (s : ByteArray) (hl : l.length ≤ 10000) (m : Nat) (hm : l.length + 2 < m) : Tl (topiaryref13_with.f m l s) fun r => r.length ≤ l.length + 1 ∧ (∀ x ∈ l, x ∈ r) ∧ Has r s :=
  with_from l s hl l.length m 0 [] false (by omega) (fun x hx => by simp at hx) (by simp) (fun h => by cases h) hm
theorem number13_from (l : List ByteArray) (s : ByteArray) (hl : l.length ≤ 10000) : ∀ (d m i : Nat), i + d = l.length → (∃ j, i ≤ j ∧ j < l.length ∧ (rdOf ByteArray.empty l (j : Int)).toList = s.toList) → d + 2 < m → Tl (topiaryref13_Number.l0 m l s (i : Int)) fun r => 0 ≤ r ∧ r < l.length
  | 0, m, i, hi, hj, hm => by obtain ⟨j, h1, h2, _⟩ := hj; omega
  | d + 1, m, i, hi, hj, hm => by
    obtain ⟨m, rfl⟩ : ∃ m', m = m' + 1 := ⟨m - 1, by omega⟩
    have ez : ((i : Int) + 1) = ((i + 1 : Nat) : Int) := by omega
    rw [topiaryref13_Number.l0, wr_id (by omega) (by omega), ez]
    refine Tl.yes (by omega) (Tl.yes (by omega) (Tl.ite (fun _ => Tl.ret ⟨by omega, by omega⟩) (fun hne => ?_)))
    obtain ⟨j, h1, h2, h3⟩ := hj
    refine number13_from l s hl d m (i + 1) (by omega) ⟨j, ?_, h2, h3⟩ (by omega)
    by_cases hij : i = j
    · subst hij; exact absurd h3 hne
    · omega
theorem number13_tl (l : List ByteArray) (s : ByteArray) (hl : l.length ≤ 10000) (hs : Has l s) (m : Nat) (hm : l.length + 2 < m) : Tl (topiaryref13_Number.f m l s) fun r => 0 ≤ r ∧ r < l.length := by
  obtain ⟨x, hx, e⟩ := hs
  obtain ⟨j, hj, rfl⟩ := List.mem_iff_getElem.1 hx
  refine number13_from l s hl l.length m 0 (by omega) ⟨j, by omega, hj, ?_⟩ hm
  rw [← e]
  simp [rdOf, List.getD_eq_getElem?_getD, List.getElem?_eq_getElem hj]
def par52 (l : List S52) (j : Nat) : Int := (rd_T52 l (j : Int)).f2
structure Good (names : List ByteArray) (l : List S52) : Prop where
  some_ : 0 < l.length
  long : l.length ≤ 200
  nlong : names.length ≤ 200
  root : par52 l 0 = -1
  up : ∀ j, 0 < j → j < l.length → ∃ q : Nat, par52 l j = (q : Int) ∧ q < j ∧ Up (par52 l) q (j - 1)
  kind : ∀ j : Nat, j < l.length → (rd_T52 l (j : Int)).f0 = 1 ∨ (rd_T52 l (j : Int)).f0 = 2 ∨ (rd_T52 l (j : Int)).f0 = 3
  name : ∀ j : Nat, j < l.length → (rd_T52 l (j : Int)).f0 ≠ 3 → 0 ≤ (rd_T52 l (j : Int)).f1 ∧ (rd_T52 l (j : Int)).f1 < names.length
theorem rd74_mem (l : List S74) (i : Nat) (h1 : i < l.length) : rd_T74 l (i : Int) ∈ l := by
  unfold rd_T74
  rw [List.getD_eq_getElem?_getD, show ((i : Nat) : Int).toNat = i by omega, List.getElem?_eq_getElem h1]
  exact List.getElem_mem _
theorem rd74_par (l : List S74) (i : Nat) : (rd_T74 l (i : Int)).f0.f2 = par74 l i := rfl
theorem rd52_old (l : List S52) (x : S52) (j : Nat) (h : j < l.length) : rd_T52 (l ++ [x]) (j : Int) = rd_T52 l (j : Int) := by
  unfold rd_T52
  rw [show ((j : Nat) : Int).toNat = j by omega, List.getD_eq_getElem?_getD, List.getD_eq_getElem?_getD, List.getElem?_append_left h]
theorem rd52_new (l : List S52) (x : S52) : rd_T52 (l ++ [x]) (l.length : Int) = x := by
  unfold rd_T52
  rw [show ((l.length : Nat) : Int).toNat = l.length by omega, List.getD_eq_getElem?_getD, List.getElem?_append_right (Nat.le_refl _)]
  simp
def Made (nodes : List S74) (names : List ByteArray) (l : List S52) (i : Nat) : Prop :=
  l.length = i ∧ ∀ j : Nat, j < i → (rd_T52 l (j : Int)).f0 = (rd_T74 nodes (j : Int)).f0.f0 ∧ (rd_T52 l (j : Int)).f2 = (rd_T74 nodes (j : Int)).f0.f2 ∧ ((rd_T52 l (j : Int)).f0 ≠ 3 → 0 ≤ (rd_T52 l (j : Int)).f1 ∧ (rd_T52 l (j : Int)).f1 < names.length)
theorem Made.more {nodes : List S74} {names : List ByteArray} {l : List S52} {i : Nat} (h : Made nodes names l i) (x : S52) (h0 : x.f0 = (rd_T74 nodes (i : Int)).f0.f0) (h2 : x.f2 = (rd_T74 nodes (i : Int)).f0.f2) (h1 : x.f0 ≠ 3 → 0 ≤ x.f1 ∧ x.f1 < names.length) : Made nodes names (l ++ [x]) (i + 1) := by
  obtain ⟨hl, hj⟩ := h
  refine ⟨by rw [List.length_append, hl]; rfl, fun j hji => ?_⟩
  by_cases hlt : j < i
  · rw [rd52_old l x j (by omega)]; exact hj j hlt
  · obtain rfl : j = i := by omega
    have := rd52_new l x
    rw [hl] at this
    rw [this]; exact ⟨h0, h2, h1⟩
theorem limited1_from (nodes : List S74) (names : List ByteArray) (hn : nodes.length ≤ 200) (hnl : names.length ≤ 1000) (hh : ∀ j : Nat, j < nodes.length → (rd_T74 nodes (j : Int)).f0.f0 ≠ 3 → Has names (rd_T74 nodes (j : Int)).f1) :
    ∀ (d m i : Nat) (l : List S52), i + d = nodes.length → Made nodes names l i → d + 1100 < m → Tl (topiaryref13_limited.l1 m nodes (i : Int) names l) fun r => r.1 = names ∧ Made nodes names r.2.1 nodes.length
  | 0, m, i, l, hi, hl, hm => by
    obtain ⟨m, rfl⟩ : ∃ m', m = m' + 1 := ⟨m - 1, by omega⟩
    rw [topiaryref13_limited.l1]
    obtain rfl : i = nodes.length := by omega
    exact Tl.no (by omega) (Tl.ret ⟨rfl, hl⟩)
  | d + 1, m, i, l, hi, hl, hm => by
    obtain ⟨m, rfl⟩ : ∃ m', m = m' + 1 := ⟨m - 1, by omega⟩
    have ez : ((i : Int) + 1) = ((i + 1 : Nat) : Int) := by omega
    have hll := hl.1
    rw [topiaryref13_limited.l1, wr_id (by omega) (by omega), ez]
    refine Tl.yes (by omega) (Tl.yes (by omega) (Tl.ite (fun h3 => Tl.yes (by omega) ?_) (fun h3 => Tl.bind (number13_tl names _ (by omega) (hh i (by omega) h3) m (by omega)) fun t ht => Tl.yes (by omega) ?_)))
    · exact limited1_from nodes names hn hnl hh d m (i + 1) _ (by omega) (hl.more _ rfl rfl (fun h => absurd h3 h)) (by omega)
    · exact limited1_from nodes names hn hnl hh d m (i + 1) _ (by omega) (hl.more _ rfl rfl (fun _ => ht)) (by omega)
theorem limited0_from (nodes : List S74) (hok : NodesOk nodes) (hn : nodes.length ≤ 200) (h0 : 0 < nodes.length) : ∀ (d m i : Nat) (ds : List Int) (names : List ByteArray), i + d = nodes.length → ds.length = i → names.length ≤ i → (∀ j : Nat, j < i → (rd_T74 nodes (j : Int)).f0.f0 ≠ 3 → Has names (rd_T74 nodes (j : Int)).f1) → 3 * d + 1500 < m →
    Tl (topiaryref13_limited.l0 m nodes ds (i : Int) names) fun r => r.2.2 = 0 → r.1.length ≤ 200 ∧ Made nodes r.1 r.2.1 nodes.length
  | 0, m, i, ds, names, hi, hds, hnm, hh, hm => by
    obtain ⟨m, rfl⟩ : ∃ m', m = m' + 1 := ⟨m - 1, by omega⟩
    rw [topiaryref13_limited.l0]
    obtain rfl : i = nodes.length := by omega
    refine Tl.no (by omega) (Tl.no (by omega) ?_)
    exact (limited1_from nodes names hn (by omega) hh nodes.length m 0 [] (by omega) ⟨rfl, fun j hj => by omega⟩ (by omega)).mono fun r hr _ => ⟨by rw [hr.1]; omega, by rw [hr.1]; exact hr.2⟩
  | d + 1, m, i, ds, names, hi, hds, hnm, hh, hm => by
    obtain ⟨m, rfl⟩ : ∃ m', m = m' + 3 := ⟨m - 3, by omega⟩
    have ez : ((i : Int) + 1) = ((i + 1 : Nat) : Int) := by omega
    have nope : Tl (some (([] : List ByteArray), ([] : List S52), (18 : Int))) fun r => r.2.2 = 0 → r.1.length ≤ 200 ∧ Made nodes r.1 r.2.1 nodes.length := Tl.ret (fun h => absurd h (by decide))
    have step : ∀ (ds' : List Int) (names' : List ByteArray), ds'.length = i + 1 → names'.length ≤ i + 1 → (∀ x ∈ names, x ∈ names') → ((rd_T74 nodes (i : Int)).f0.f0 ≠ 3 → Has names' (rd_T74 nodes (i : Int)).f1) →
        Tl (topiaryref13_limited.l0 m nodes ds' (wrap64 ((i : Int) + 1)) names') fun r => r.2.2 = 0 → r.1.length ≤ 200 ∧ Made nodes r.1 r.2.1 nodes.length := by
      intro ds' names' h1 h2 h3 h4
      rw [wr_id (by omega) (by omega), ez]
      refine limited0_from nodes hok hn h0 d m (i + 1) ds' names' (by omega) h1 h2 (fun j hj hk => ?_) (by omega)
      by_cases hji : j < i
      · obtain ⟨x, hx, e⟩ := hh j hji hk
        exact ⟨x, h3 x hx, e⟩
      · obtain rfl : j = i := by omega
        exact h4 hk
    have j2s : ∀ (ds' : List Int) (b : Bool), ds'.length = i + 1 → Tl (topiaryref13_limited.j2 (m + 1) nodes ds' (i : Int) b names (rd_T74 nodes (i : Int)).f0.f0 (rd_T74 nodes (i : Int)).f0.f1 (rd_T74 nodes (i : Int)).f0.f2 (rd_T74 nodes (i : Int)).f0.f3 (rd_T74 nodes (i : Int)).f1) fun r => r.2.2 = 0 → r.1.length ≤ 200 ∧ Made nodes r.1 r.2.1 nodes.length := by
      intro ds' b hds'
      rw [topiaryref13_limited.j2]
      refine Tl.ite (fun _ => nope) (fun _ => Tl.ite (fun h3 => step ds' names hds' (by omega) (fun x hx => hx) (fun h => absurd h3 h)) (fun h3 => Tl.bind (with_tl names _ (by omega) m (by omega)) fun nm hnm' => ?_))
      obtain ⟨w1, w2, w3⟩ := hnm'
      exact step ds' nm hds' (by omega) w2 (fun _ => w3)
    have j1s : ∀ x8 : Int, Tl (topiaryref13_limited.j1 (m + 2) nodes ds (i : Int) x8 names (rd_T74 nodes (i : Int)).f0.f0 (rd_T74 nodes (i : Int)).f0.f1 (rd_T74 nodes (i : Int)).f0.f2 (rd_T74 nodes (i : Int)).f0.f3 (rd_T74 nodes (i : Int)).f1) fun r => r.2.2 = 0 → r.1.length ≤ 200 ∧ Made nodes r.1 r.2.1 nodes.length := by
      intro x8
      rw [topiaryref13_limited.j1]
      refine Tl.yes (by omega) (Tl.bind (Q := fun y => y = ds ++ [x8]) (Tl.ret rfl) fun y hy => ?_)
      subst hy
      have hl : (ds ++ [x8]).length = i + 1 := by rw [List.length_append, hds]; rfl
      exact Tl.ite (fun _ => j2s _ _ hl) (fun _ => j2s _ _ hl)
    rw [topiaryref13_limited.l0]
    refine Tl.yes (by omega) (Tl.yes (by omega) (Tl.ite (fun hp => Tl.yes (by omega) (Tl.yes ?_ (j1s _))) (fun _ => j1s _)))
    rw [rd74_par] at hp ⊢
    by_cases hi0 : i = 0
    · subst hi0
      have := hok.1 h0
      omega
    · obtain ⟨q, e, hq, _⟩ := hok.2.1 i (by omega) (by omega)
      omega
theorem limited_tl (nodes : List S74) (hok : NodesOk nodes) (hn : nodes.length ≤ 200) (h0 : 0 < nodes.length) (m : Nat) (hm : 2200 ≤ m) : Tl (topiaryref13_limited.f m nodes) fun r => r.2.2 = 0 → Good r.1 r.2.1 := by
  unfold topiaryref13_limited.f
  refine Tl.no (by omega) ((limited0_from nodes hok hn h0 nodes.length m 0 [] [] (by omega) rfl (by simp) (fun j hj => by omega) (by omega)).mono fun r hr hz => ?_)
  obtain ⟨hnl, hl, hj⟩ := hr hz
  have hpar : ∀ j, j < nodes.length → par52 r.2.1 j = par74 nodes j := fun j hjl => ((hj j hjl).2.1).trans (rd74_par nodes j)
  refine ⟨by omega, by omega, hnl, (hpar 0 h0).trans (hok.1 h0), fun j h1 h2 => ?_, fun j h1 => ?_, fun j h1 => (hj j (by omega)).2.2⟩
  · obtain ⟨q, e, hq, hu⟩ := hok.2.1 j h1 (by omega)
    exact ⟨q, (hpar j (by omega)).trans e, hq, hu.congr (fun i hi => hpar i (by omega))⟩
  · rw [(hj j (by omega)).1]
    exact hok.2.2 _ (rd74_mem nodes j (by omega))
theorem spaces_tl (s : ByteArray) (m : Nat) (hs : s.size ≤ 240000) (hm : 500000 ≤ m) : Tl (topiaryref13_spaces.f m s) fun _ => True := by
  have sk : ∀ (d m : Nat) (i : Int), 0 ≤ i → i + d = s.size → 2 * d + 4 < m → Tl (topiaryref11_Skip.l0 m s i) fun _ => True := by
    intro d
    induction d with
    | zero =>
      intro m i h0 hd hm
      obtain ⟨m, rfl⟩ : ∃ m', m = m' + 2 := ⟨m - 2, by omega⟩
      rw [topiaryref11_Skip.l0]
      refine Tl.yes h0 ?_
      rw [topiaryref11_Skip.j1]
      exact Tl.no (by rw [decide_eq_false (by omega)]; decide) (Tl.ret trivial)
    | succ d ih =>
      intro m i h0 hd hm
      obtain ⟨m, rfl⟩ : ∃ m', m = m' + 2 := ⟨m - 2, by omega⟩
      rw [topiaryref11_Skip.l0]
      refine Tl.yes h0 ?_
      rw [topiaryref11_Skip.j1]
      refine Tl.yes (decide_eq_true (by omega)) (Tl.yes h0 (Tl.yes (by omega) (Tl.bind (space_tl _) fun b _ => Tl.ite (fun _ => ?_) (fun _ => Tl.ret trivial))))
      rw [wr_id (by omega) (by omega)]
      exact ih m (i + 1) (by omega) (by omega) (by omega)
  unfold topiaryref13_spaces.f topiaryref11_Skip.f
  exact Tl.bind (sk s.size m 0 (by omega) (by omega) (by omega)) fun t _ => Tl.ret trivial
theorem parse_tl (s : ByteArray) (hs : s.size ≤ 200) (m : Nat) (hm : 600000 ≤ m) : Tl (topiaryref13_Parse.f m s) fun r => r.2.2 = 0 → Good r.1 r.2.1 := by
  unfold topiaryref13_Parse.f
  refine Tl.bind (lex_tl s hs m (by omega)) fun l hl => Tl.ite (fun _ => ?_) (fun h => Tl.ret (fun h2 => absurd h2 h))
  have hl1 := hl.1
  refine Tl.bind (texts_tl l.1 hl m 0 (by omega) (by omega) (by omega)) fun t ht => Tl.bind (spaces_tl t.1 m (by omega) (by omega)) fun b _ => Tl.bind ((element_all l.1 hl m).1 t.2 (-1) 0 [] (by omega) ht.2.1 (by omega) (.inl ⟨rfl, rfl⟩)) fun r hr => ?_
  obtain ⟨m, rfl⟩ : ∃ m', m = m' + 1 := ⟨m - 1, by omega⟩
  have nope : Tl (some (([] : List ByteArray), ([] : List S52), (15 : Int))) fun r => r.2.2 = 0 → Good r.1 r.2.1 := Tl.ret (fun h => absurd h (by decide))
  have j0s : ∀ b, (b = false → r.2.2 = true) → Tl (topiaryref13_Parse.j0 (m + 1) l.1 r.1 r.2.1 b) fun r => r.2.2 = 0 → Good r.1 r.2.1 := by
    intro b hb
    rw [topiaryref13_Parse.j0]
    refine Tl.ite (fun _ => nope) (fun hx => ?_)
    obtain ⟨e1, ⟨more, e2⟩, e3, e4, e5, e6, e7⟩ := hr.1 (hb (by simpa using hx))
    refine Tl.bind (texts_tl l.1 hl m r.2.1 (by omega) e6 (by omega)) fun t ht => Tl.bind (spaces_tl t.1 m (by omega) (by omega)) fun b _ => Tl.ite (fun _ => Tl.ite (fun _ => nope) (fun _ => ?_)) (fun _ => nope)
    exact Tl.bind (limited_tl r.1 e1 (by omega) (by simpa using Nat.lt_of_le_of_lt (Nat.zero_le _) e3) m (by omega)) fun z hz => Tl.ret hz
  exact Tl.ite (fun _ => j0s _ (fun h => by simpa using h)) (fun _ => j0s true (fun h => by cases h))
theorem short_tl (s : ByteArray) : Tl (topiarylaw15_short.f s 200) fun r => r.size ≤ 200 := by
  unfold topiarylaw15_short.f
  refine Tl.ite (fun h => Tl.yes (by decide) (Tl.yes (by omega) (Tl.ret ?_))) (fun h => Tl.ret (by omega))
  show (s.extract 0 200).size ≤ 200
  rw [ByteArray.size_extract]; omega
end Go.Proofs.Ytoanmoddppmffaa.T
