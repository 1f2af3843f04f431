/- A tree, and three numbers, taken apart as arguments of a row. -/
import Derived.Test.YtoanmoddppmffaaJTx0
import Derived.Lib.SmallJoins
import Derived.Laws.IdiomArrays
import Derived.Deep.Slices
import Derived.Deep.Fields
import Derived.ChangeSame
import Derived.Carry
import Derived.KernelRfl
namespace Go.Proofs.Ytoanmoddppmffaa.T
open Go.RowKit Go.ChangeShapes Go.WideShapes Go.Deep Go.Joins Go.Proofs.YtoanmoddppmffaaW.PrintWords Go.Proofs.YtoanmoddppmffaaW.PrintLast Go.Proofs.YtoanmoddppmffaaW.PrintMore
set_option linter.unusedVariables false
section
variable {H : Type} {enc : TypeId × Value → H} {W : World} {spare : Nat → Bool} {base : Nat}
theorem laidOut : laidOutB Try.prog = true := by kernel_rfl
theorem open_names {n : Nat} {v : Value} {y : DataW H × List MemPlace} (h : DataW.trod enc Try.prog W base (fun _ => true) true n 22 [v] = some y) :
    ∃ (A : Option Addr) (c : Nat) (l : List ByteArray), v = .slice A l.length c ∧ Kd.C Kd.string W A l.length l ∧ l.length ≤ c := by
  rcases open_strings Try.underlying22 Try.underlying9 (by kernel_rfl) h with ⟨h0, _⟩ | ⟨a, len, cap, ss, h0, _, hl, hm, hlen, _, hc, _⟩
  · obtain rfl := List.cons.inj h0 |>.1
    exact ⟨none, 0, [], rfl, ⟨rfl, by decide, fun h => absurd h (by decide)⟩, Nat.le_refl _⟩
  · obtain rfl := List.cons.inj h0 |>.1
    simp only [if_true] at hlen
    have hk : (ss.take len).length = len := by rw [List.length_take]; omega
    refine ⟨some a, cap, ss.take len, by rw [hk], ⟨rfl, by rw [hk]; unfold maxLen at hm; omega, fun _ => ⟨a, rfl, fun j p hj => ⟨[.string p], rfl, rfl, fun i u hi => ?_⟩⟩⟩, by rw [hk]; exact hl⟩
    match i, hi with
    | 0, hi =>
      simp only [List.getElem?_cons_zero, Option.some.injEq] at hi
      subst hi
      have hj2 : j < len := by
        have := (List.getElem?_eq_some_iff.1 hj).1
        omega
      have e : a.add (j * Kd.string.sz + 0) = a.add j := by show a.add (j * 1 + 0) = _; rw [Nat.mul_one, Nat.add_zero]
      rw [e, hc j (by omega)]
      rw [List.getElem?_take_of_lt hj2] at hj
      rw [List.getD_eq_getElem?_getD, hj]; rfl
theorem open_slice_fields {P : Program} {w : World} {held : Bool} {t e : TypeId} {fs : Array Field} {fuel : Nat} {cs : List Value} {x : DataW H × List MemPlace} (ht : P.underlying t = some (.slice e)) (he : P.underlying e = some (.struct fs))
    (hone : oneCellFields P fs = true) (hC : P.cellsOf e = fs.size) (h : DataW.trod enc P w base spare held fuel t cs = some x) :
    (cs = [.slice none 0 0] ∧ x = (.nil, [])) ∨
    ∃ (a : Addr) (len cap m : Nat), cs = [.slice (some a) len cap] ∧ base ≤ a.block ∧ len ≤ cap ∧ cap ≤ maxLen ∧ m = (if spare a.block then cap else len) ∧
      ∀ i, i < m → ∃ (n : Nat),
        ∀ (j : Nat) (f : Field), fs[j]? = some f → ∃ (v : Value) (y : DataW H × List MemPlace), w.cell? (a.add (i * fs.size + j)) = some v ∧ DataW.trod enc P w base spare held n f.type [v] = some y := by
  rcases open_slice ht h with h0 | ⟨a, len, cap, m, n, D, Pl, hcs, hb, hl, hm, hmm, hx, hi⟩
  · exact .inl h0
  · refine .inr ⟨a, len, cap, m, hcs, hb, hl, hm, hmm, fun i him => ?_⟩
    obtain ⟨cs', hc, ht'⟩ := hi i him
    rw [hC] at hc
    obtain ⟨ys, n', hn', hy, hlen, hyl, hf⟩ := DataW.trod_struct he ht'
    obtain ⟨_, hcl, hat⟩ := World.cells?_some hc
    refine ⟨n', fun j f hj => ?_⟩
    obtain ⟨ho, hk⟩ := hone_of hone j f hj
    have hjl : j < fs.size := (Array.getElem?_eq_some_iff.1 hj).1
    have hcell := hat j hjl
    have hv : cs'[j]? = some (cs'[j]'(by omega)) := List.getElem?_eq_getElem (by omega)
    have h1 := hf j f hj
    rw [ho, hk] at h1
    have hone' : (cs'.drop j).take 1 = [cs'[j]'(by omega)] := by
      rw [List.drop_eq_getElem_cons (by omega)]
      rfl
    rw [hone'] at h1
    have hys : ys[j]? = some (ys[j]'(by omega)) := List.getElem?_eq_getElem (by omega)
    refine ⟨_, _, ?_, h1.trans hys⟩
    rw [← Go.Deep.add_add, hcell, hv]
theorem pick_list {α : Type} {Q : Nat → α → Prop} : ∀ n, (∀ i, i < n → ∃ x, Q i x) → ∃ l : List α, l.length = n ∧ ∀ i x, l[i]? = some x → Q i x
  | 0, _ => ⟨[], rfl, fun i x h => by simp at h⟩
  | n + 1, h => by
    obtain ⟨l, hl, hq⟩ := pick_list (Q := Q) n (fun i hi => h i (by omega))
    obtain ⟨x, hx⟩ := h n (by omega)
    refine ⟨l ++ [x], by simp [hl], fun i y hy => ?_⟩
    by_cases hi : i < n
    · rw [List.getElem?_append_left (by omega)] at hy
      exact hq i y hy
    · rw [List.getElem?_append_right (by omega)] at hy
      have h1 := (List.getElem?_eq_some_iff.1 hy).1
      simp only [List.length_singleton] at h1
      have hin : i = n := by omega
      subst hin
      rw [show i - l.length = 0 by omega] at hy
      simp only [List.getElem?_cons_zero, Option.some.injEq] at hy
      exact hy ▸ hx
theorem open_nodes {n : Nat} {v : Value} {y : DataW H × List MemPlace} (h : DataW.trod enc Try.prog W base (fun _ => true) true n 23 [v] = some y) :
    ∃ (A : Option Addr) (c : Nat) (l : List S52), v = .slice A l.length c ∧ Kd.C k52 W A l.length l ∧ l.length ≤ c := by
  rcases open_slice_fields Try.underlying23 Try.underlying52 (by kernel_rfl) (by kernel_rfl) h with ⟨h0, _⟩ | ⟨a, len, cap, m, h0, _, hl, hm, hlen, hi⟩
  · obtain rfl := List.cons.inj h0 |>.1
    exact ⟨none, 0, [], rfl, ⟨rfl, by decide, fun h => absurd h (by decide)⟩, Nat.le_refl _⟩
  · obtain rfl := List.cons.inj h0 |>.1
    simp only [if_true] at hlen
    subst hlen
    obtain ⟨l, hk, hq⟩ := pick_list (Q := fun i (x : S52) => W.cell? (a.add (i * 4 + 0)) = some (.int .i64 x.f0) ∧ W.cell? (a.add (i * 4 + 1)) = some (.int .i64 x.f1) ∧ W.cell? (a.add (i * 4 + 2)) = some (.int .i64 x.f2) ∧ W.cell? (a.add (i * 4 + 3)) = some (.string x.f3)) len (fun i him => by
      obtain ⟨n, hf⟩ := hi i (by omega)
      obtain ⟨v0, y0, c0, t0⟩ := hf 0 _ rfl
      obtain ⟨v1, y1, c1, t1⟩ := hf 1 _ rfl
      obtain ⟨v2, y2, c2, t2⟩ := hf 2 _ rfl
      obtain ⟨v3, y3, c3, t3⟩ := hf 3 _ rfl
      obtain ⟨n0, e0, _⟩ := DataW.trod_int Try.underlying3 t0
      obtain ⟨n1, e1, _⟩ := DataW.trod_int Try.underlying3 t1
      obtain ⟨n2, e2, _⟩ := DataW.trod_int Try.underlying3 t2
      obtain ⟨s3, e3, _⟩ := DataW.trod_string Try.underlying9 t3
      obtain rfl := (List.cons.inj e0).1
      obtain rfl := (List.cons.inj e1).1
      obtain rfl := (List.cons.inj e2).1
      obtain rfl := (List.cons.inj e3).1
      exact ⟨⟨n0, n1, n2, s3⟩, c0, c1, c2, c3⟩)
    refine ⟨some a, m, l, by rw [hk], ⟨rfl, by rw [hk]; unfold maxLen at hm; omega, fun _ => ⟨a, rfl, fun j p hj => ?_⟩⟩, by rw [hk]; exact hl⟩
    obtain ⟨c0, c1, c2, c3⟩ := hq j p hj
    refine ⟨[.int .i64 p.f0, .int .i64 p.f1, .int .i64 p.f2, .string p.f3], rfl, k52_mk W p, fun i u hu => ?_⟩
    match i, hu with
    | 0, hu => simp only [List.getElem?_cons_zero, Option.some.injEq] at hu; subst hu; exact c0
    | 1, hu => simp only [List.getElem?_cons_succ, List.getElem?_cons_zero, Option.some.injEq] at hu; subst hu; exact c1
    | 2, hu => simp only [List.getElem?_cons_succ, List.getElem?_cons_zero, Option.some.injEq] at hu; subst hu; exact c2
    | 3, hu => simp only [List.getElem?_cons_succ, List.getElem?_cons_zero, Option.some.injEq] at hu; subst hu; exact c3
theorem open_tree {r : Reach} {b0 : Nat} {v : Value} {d : DataW H} {p : List MemPlace} (hv : Value.okWide Try.prog W r b0 25 v) (h : DataW.Trod enc Try.prog W base (fun _ => true) true 25 v d p) :
    ∃ (A0 : Option Addr) (c0 : Nat) (l0 : List ByteArray) (A1 : Option Addr) (c1 : Nat) (l1 : List S52), v = .agg #[.slice A0 l0.length c0, .slice A1 l1.length c1] ∧
      Kd.C Kd.string W A0 l0.length l0 ∧ l0.length ≤ c0 ∧ Kd.C k52 W A1 l1.length l1 ∧ l1.length ≤ c1 := by
  obtain ⟨v0, v1, y0, y1, n, rfl, _, _, h0, h1⟩ := open_agg2 Try.underlying25 (by kernel_rfl) (by kernel_rfl) hv h
  obtain ⟨A0, c0, l0, rfl, hr0, hc0⟩ := open_names h0
  obtain ⟨A1, c1, l1, rfl, hr1, hc1⟩ := open_nodes h1
  exact ⟨A0, c0, l0, A1, c1, l1, rfl, hr0, hc0, hr1, hc1⟩
end
end Go.Proofs.Ytoanmoddppmffaa.T
