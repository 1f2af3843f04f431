/- A row behind a row: what an append of all of a row leaves. -/
import Derived.Test.YtoanmoddppmffaaDoorMQn
import Derived.Test.YtoanmoddppmffaaDoorMJb
import Derived.Maps.AppendAt
namespace Go.Proofs.YtoanmoddppmffaaDoor.T
open Go.RowKit Go.Shelf Go.Proofs.YtoanmoddppmffaaDoorW.PrintWords
set_option linter.unusedVariables false
set_option linter.unusedSimpArgs false
theorem row_cells {α : Type} {K : α → List Value → Prop} {ok : Nat → Prop} {w : World} {ad : Addr} {xs : List α} (h : RowAt K ok w (some ad) xs) (h1 : ∀ x cs, K x cs → ∀ u ∈ cs, u.oneCell' = true) :
    ∃ news : List Value, news.length = xs.length * 4 ∧ (∀ j u, news[j]? = some u → w.cell? (ad.add j) = some u) ∧ (∀ u ∈ news, u.oneCell' = true) ∧ ∀ j x, xs[j]? = some x → K x ((news.drop (j * 4)).take 4) := by
  have hex : ∀ i, i < xs.length * 4 → ∃ u, w.cell? (ad.add i) = some u ∧ u.oneCell' = true := by
    intro i hi
    have hj : i / 4 < xs.length := by omega
    obtain ⟨ad', cs, e, _, hl, hc, hk⟩ := h (i / 4) _ (List.getElem?_eq_getElem hj)
    obtain rfl := Option.some.inj e
    have hm : i % 4 < cs.length := by omega
    refine ⟨cs[i % 4], ?_, h1 _ _ hk _ (List.getElem_mem hm)⟩
    have := hc (i % 4) _ (List.getElem?_eq_getElem hm)
    rwa [show i / 4 * 4 + i % 4 = i by omega] at this
  refine ⟨(List.range (xs.length * 4)).map (fun i => (w.cell? (ad.add i)).getD undef), by simp, ?_, ?_, ?_⟩
  · intro j u hu
    rw [List.getElem?_map, Option.map_eq_some_iff] at hu
    obtain ⟨i, hi, rfl⟩ := hu
    rw [List.getElem?_eq_some_iff] at hi
    obtain ⟨hlt, hi⟩ := hi
    rw [List.getElem_range] at hi
    subst hi
    rw [List.length_range] at hlt
    obtain ⟨u, hu, _⟩ := hex j hlt
    rw [hu]; rfl
  · intro u hu
    rw [List.mem_map] at hu
    obtain ⟨i, hi, rfl⟩ := hu
    obtain ⟨u, hu, ho⟩ := hex i (List.mem_range.1 hi)
    rw [hu]; exact ho
  · intro j x hj
    have hjl := (List.getElem?_eq_some_iff.1 hj).1
    obtain ⟨ad', cs, e, _, hl, hc, hk⟩ := h j x hj
    obtain rfl := Option.some.inj e
    have : (((List.range (xs.length * 4)).map (fun i => (w.cell? (ad.add i)).getD undef)).drop (j * 4)).take 4 = cs := by
      apply List.ext_getElem?
      intro t
      rw [List.getElem?_take]
      split
      · rename_i ht
        rw [List.getElem?_drop, List.getElem?_map, List.getElem?_range (by omega), Option.map_some, hc t _ (List.getElem?_eq_getElem (by omega)), List.getElem?_eq_getElem (by omega)]
        rfl
      · rw [List.getElem?_eq_none (by omega)]
    rw [this]
    exact hk
theorem own_sl {α : Type} {K : α → List Value → Prop} {e : TypeId} {base n : Nat} {w : World} {v : Value} {xs : List α} {inner : List Value} (ho : w.ownsRow base e 4 v n inner) (hn : n = xs.length) (hk : ∀ j x, xs[j]? = some x → K x ((inner.drop (j * 4)).take 4)) :
    SlAt K (fun _ => True) w v xs := by
  subst hn
  have hcap : ∃ A c, v = .slice A xs.length c ∧ xs.length ≤ c ∧ c ≤ maxLen := by
    rcases ho.2 with ⟨rfl, h0⟩ | ⟨g, cap, cur, rfl, _, _, h1, h2, _⟩
    · exact ⟨none, 0, by rw [h0], by omega, by decide⟩
    · exact ⟨_, _, rfl, h1, h2⟩
  obtain ⟨A, c, rfl, hl, hc⟩ := hcap
  refine ⟨A, c, rfl, hl, hc, fun j x hj => ?_⟩
  have hjl := (List.getElem?_eq_some_iff.1 hj).1
  obtain ⟨g, cap, he, hb, _⟩ := ho.form (by omega)
  injection he with he1 he2 he3
  subst he1
  have hil : inner.length = xs.length * 4 := ho.1
  have hlen : ((inner.drop (j * 4)).take 4).length = 4 := by rw [List.length_take, List.length_drop]; omega
  refine ⟨⟨g, 0, none⟩, _, rfl, trivial, hlen, fun i u hi => ?_, hk j x hj⟩
  refine ho.cells (g := g) rfl _ u ?_
  rw [List.getElem?_take] at hi
  split at hi
  · rw [List.getElem?_drop] at hi
    exact hi
  · cases hi
theorem drop_both {α : Type} {K : α → List Value → Prop} {xs ys : List α} {a b : List Value} (hl : a.length = xs.length * 4) (ha : ∀ j x, xs[j]? = some x → K x ((a.drop (j * 4)).take 4)) (hb : ∀ j x, ys[j]? = some x → K x ((b.drop (j * 4)).take 4)) :
    ∀ j x, (xs ++ ys)[j]? = some x → K x (((a ++ b).drop (j * 4)).take 4) := by
  intro j x hj
  by_cases h : j < xs.length
  · rw [List.getElem?_append_left h] at hj
    rw [List.drop_append_of_le_length (by omega), List.take_append_of_le_length (by rw [List.length_drop]; omega)]
    exact ha j x hj
  · rw [List.getElem?_append_right (by omega)] at hj
    rw [List.drop_append, List.drop_eq_nil_of_le (by omega), List.nil_append, show j * 4 - a.length = (j - xs.length) * 4 by omega]
    exact hb _ x hj
theorem path_ne {b : Bool} {k : Nat} {i : Int} {d : Bool} {ts t : List Tok} {l : List Step} (h : pathG b k i d ts = some (some (l, t))) : l ≠ [] := by
  cases k with
  | zero => rw [pathG] at h; cases h
  | succ k =>
    rw [pathG] at h
    cases hs : stepG b k i ts with
    | none => rw [hs] at h; cases h
    | some o =>
      match o, hs with
      | none, hs => rw [hs] at h; cases h
      | some (s, t1), hs =>
        rw [hs] at h
        simp only [Out.then_] at h
        have go : ∀ (d' : Bool) (o : Option (List Tok)), (Opt o fun t2 => (pathG b k i d' t2).then_ fun l t3 => some (some ({ s with deep := d } :: l, t3))) = some (some (l, t)) → l ≠ [] := by
          intro d' o h
          cases o with
          | none => cases h
          | some t2 =>
            simp only [Opt] at h
            cases hp : pathG b k i d' t2 with
            | none => rw [hp] at h; cases h
            | some o =>
              match o, hp with
              | none, hp => rw [hp] at h; cases h
              | some (l', t4), hp =>
                rw [hp] at h
                obtain ⟨rfl, _⟩ := Prod.mk.inj (Option.some.inj (Option.some.inj h))
                simp
        split at h
        · exact go false _ h
        · split at h
          · exact go true _ h
          · obtain ⟨rfl, _⟩ := Prod.mk.inj (Option.some.inj (Option.some.inj h))
            simp
theorem path_count {b : Bool} {i : Int} : ∀ {k : Nat} {d : Bool} {ts t : List Tok} {l : List Step}, pathG b k i d ts = some (some (l, t)) → l.length ≤ ts.length + 1 := by
  intro k
  induction k with
  | zero => intro d ts t l h; rw [pathG] at h; cases h
  | succ k ih =>
    intro d ts t l h
    rw [pathG] at h
    cases hs : stepG b k i ts with
    | none => rw [hs] at h; cases h
    | some o =>
      match o, hs with
      | none, hs => rw [hs] at h; cases h
      | some (s, t1), hs =>
        have h1 := step_len hs
        rw [hs] at h
        simp only [Out.then_] at h
        have go : ∀ (d' : Bool) (o : Option (List Tok)), (∀ t2, o = some t2 → t2.length + 1 ≤ t1.length) → (Opt o fun t2 => (pathG b k i d' t2).then_ fun l t3 => some (some ({ s with deep := d } :: l, t3))) = some (some (l, t)) → l.length ≤ ts.length + 1 := by
          intro d' o ho h
          cases o with
          | none => cases h
          | some t2 =>
            have h2 := ho t2 rfl
            simp only [Opt] at h
            cases hp : pathG b k i d' t2 with
            | none => rw [hp] at h; cases h
            | some o =>
              match o, hp with
              | none, hp => rw [hp] at h; cases h
              | some (l', t4), hp =>
                have h3 := ih hp
                rw [hp] at h
                obtain ⟨rfl, _⟩ := Prod.mk.inj (Option.some.inj (Option.some.inj h))
                simp only [List.length_cons]
                omega
        split at h
        · rename_i c
          exact go false _ (fun t2 e => by have := adv_len e; have := head_len c; omega) h
        · split at h
          · rename_i c
            exact go true _ (fun t2 e => by have := adv_len e; have := head_len c; omega) h
          · obtain ⟨rfl, _⟩ := Prod.mk.inj (Option.some.inj (Option.some.inj h))
            simp
theorem parse_count {q : ByteArray} {l : List Step} (h : parseQ q = some l) : l ≠ [] ∧ l.length ≤ q.size + 1 := by
  obtain ⟨_, _, _, t, ha, hp⟩ := parseG_some (parseQ_some h)
  have h1 := path_count hp
  have h2 := adv_len ha
  have h3 := lexQ_len _ q.data.toList (Nat.le_refl _)
  have h4 : q.data.toList.length = q.size := by rw [Array.length_toList]; rfl
  exact ⟨path_ne hp, by omega⟩
section
variable {P : Program} {ops : Array Oper} {rest : List Oper} {o : Oper} {a : Act} {Q : Exit → Act → World → Prop}
theorem append_all (w : World) (hgd : o.guard = none) (s x : Operand) (t e : TypeId) (z : Value) (size bytes : Nat)
    (ho : o.op = .call { callee := .builtin .append, args := #[s, x], argTypes := #[t, t] })
    (ht : P.underlying t = some (.slice e)) (hinfo : (P.info? e).map (fun i => (i.zero, i.size, i.bytes)) = some (some z, size, bytes)) (hz : z.cells.size = size) (hs0 : 0 < size) (hb0 : 0 < bytes)
    (base : Nat) (v : Value) (n : Nat) (xs : List Value) (hs : a.eval s = v) (HO : w.ownsRow base e size v n xs)
    (ad : Addr) (m c : Nat) (news : List Value) (hx : a.eval x = .slice (some ad) m c) (hl : news.length = m * size) (hnews : ∀ j u, news[j]? = some u → w.cell? (ad.add j) = some u) (h1 : ∀ u ∈ news, u.oneCell' = true)
    (hm : (n + m) * bytes ≤ 140737488355328) (hbase : base ≤ w.heap.size)
    (h : ∀ v1 w1, w1.ownsRow base e size v1 (n + m) (xs ++ news) → w.grownBy w1 v.ownBlock → wpList P ops Q rest (a.put o.dst v1) w1) : wpList P ops Q (o :: rest) a w := by
  obtain ⟨i0, hi, hzz⟩ := Option.map_eq_some_iff.1 hinfo
  simp only [Prod.mk.injEq] at hzz
  obtain ⟨hz0, hz1, hz2⟩ := hzz
  have hlen : n + m ≤ 140737488355328 := Nat.le_trans (Nat.le_mul_of_pos_right _ hb0) hm
  exact wpList_append_own_at w hgd s x t ho base e i0 z size bytes ht hi hz0 hz1 hz2 hz hs0 v n xs hs HO ad m c news hx hl hnews h1 (by simp only [maxLen]; omega) hm hbase (fun v1 w1 hown hg _ _ => h v1 w1 hown hg)
end
end Go.Proofs.YtoanmoddppmffaaDoor.T
