/- Slices of numbers and of flags, and a struct with one, taken apart as arguments of a row. -/
import Derived.Test.YtoanmoddppmffaaJTx0
import Derived.Lib.SmallJoins
import Derived.Deep.Grids
import Derived.ChangeSlices
import Derived.KernelRfl
namespace Go.Proofs.Ytoanmoddppmffaa.T
open Go.RowKit Go.ChangeShapes Go.WideShapes Go.Proofs.YtoanmoddppmffaaW.PrintWords Go.Proofs.YtoanmoddppmffaaW.PrintLast Go.Proofs.YtoanmoddppmffaaW.PrintMore
theorem cell_same {W W' : World} {a : Addr} {v : Value} (h : W.cell? a = some v) (hs : a.block < W.heap.size → W'.heap[a.block]? = W.heap[a.block]?) : W'.cell? a = some v := by
  have hb : a.block < W.heap.size := by
    unfold World.cell? at h
    by_cases c : a.block < W.heap.size
    · exact c
    · rw [Array.getElem?_eq_none (by omega)] at h; cases h
  unfold World.cell? at h ⊢
  rw [hs hb]; exact h
theorem open_numbers {H : Type} {enc : TypeId × Value → H} {W : World} {base : Nat} {n : Nat} {v : Value} {y : DataW H × List MemPlace} (h : DataW.trod enc Try.prog W base (fun _ => true) true n 29 [v] = some y) :
    ∃ (A : Option Addr) (c : Nat) (l : List Int), v = .slice A l.length c ∧ Kd.V (Kd.int .i64) 3 W W.heap.size (fun _ => True) (.slice A l.length c) l := by
  rcases open_ints Try.underlying29 Try.underlying3 (by kernel_rfl) h with ⟨h0, _⟩ | ⟨a, len, cap, zs, h0, _, hl, hm, hlen, _, hc, _⟩
  · obtain rfl := List.cons.inj h0 |>.1
    exact ⟨none, 0, [], rfl, Kd.V_nil _ _ _ _ _⟩
  · obtain rfl := List.cons.inj h0 |>.1
    simp only [if_true] at hlen
    have hk : (zs.take len).length = len := by rw [List.length_take]; omega
    refine ⟨some a, cap, zs.take len, by rw [hk], some a, cap, rfl, by rw [hk]; exact hl, fun W' hW => ⟨rfl, by rw [hk]; unfold maxLen at hm; omega, fun _ => ⟨a, rfl, fun j p hj => ⟨[.int .i64 p], rfl, rfl, fun i u hi => ?_⟩⟩⟩⟩
    match i, hi with
    | 0, hi =>
      simp only [List.getElem?_cons_zero, Option.some.injEq] at hi
      subst hi
      have hj2 : j < len := by
        have := (List.getElem?_eq_some_iff.1 hj).1
        omega
      have e : a.add (j * (Kd.int .i64).sz + 0) = a.add j := by show a.add (j * 1 + 0) = _; rw [Nat.mul_one, Nat.add_zero]
      rw [e]
      refine cell_same (v := .int .i64 p) ?_ (fun hb => hW _ trivial hb)
      rw [hc j (by omega)]
      rw [List.getElem?_take_of_lt hj2] at hj
      rw [List.getD_eq_getElem?_getD, hj]; rfl
theorem open_flags {H : Type} {enc : TypeId × Value → H} {W : World} {base : Nat} {n : Nat} {v : Value} {y : DataW H × List MemPlace} (h : DataW.trod enc Try.prog W base (fun _ => true) true n 43 [v] = some y) :
    ∃ (A : Option Addr) (c : Nat) (l : List Bool), v = .slice A l.length c ∧ Kd.C Kd.bool W A l.length l ∧ l.length ≤ c := by
  rcases Go.Deep.open_bools Try.underlying43 Try.underlying4 (by kernel_rfl) h with ⟨h0, _⟩ | ⟨a, len, cap, B, h0, _, hl, hm, _, hc⟩
  · obtain rfl := List.cons.inj h0 |>.1
    exact ⟨none, 0, [], rfl, ⟨rfl, by decide, fun h => absurd h (by decide)⟩, Nat.le_refl _⟩
  · obtain rfl := List.cons.inj h0 |>.1
    have hk : ((List.range len).map B).length = len := by simp
    refine ⟨some a, cap, (List.range len).map B, by rw [hk], ⟨rfl, by rw [hk]; unfold maxLen at hm; omega, fun _ => ⟨a, rfl, fun j p hj => ⟨[.bool p], rfl, rfl, fun i u hi => ?_⟩⟩⟩, by rw [hk]; exact hl⟩
    match i, hi with
    | 0, hi =>
      simp only [List.getElem?_cons_zero, Option.some.injEq] at hi
      subst hi
      have hj2 : j < len := by
        have := (List.getElem?_eq_some_iff.1 hj).1
        omega
      have e : a.add (j * Kd.bool.sz + 0) = a.add j := by show a.add (j * 1 + 0) = _; rw [Nat.mul_one, Nat.add_zero]
      rw [e, hc j (by omega)]
      rw [List.getElem?_map, List.getElem?_range hj2] at hj
      simp only [Option.map_some, Option.some.injEq] at hj
      rw [hj]
theorem open_own {H : Type} {enc : TypeId × Value → H} {W : World} {base : Nat} {r : Reach} {b0 : Nat} {v : Value} {d : DataW H} {p : List MemPlace} (hv : Value.okWide Try.prog W r b0 45 v) (h : DataW.Trod enc Try.prog W base (fun _ => true) true 45 v d p) :
    ∃ (o : Bool) (n : Int) (A : Option Addr) (c : Nat) (l : List Bool), v = .agg #[.bool o, .int .i64 n, .slice A l.length c] ∧ Kd.C Kd.bool W A l.length l ∧ l.length ≤ c := by
  obtain ⟨v0, v1, v2, y0, y1, y2, n, rfl, _, _, h0, h1, h2⟩ := Go.Joins.open_agg3 Try.underlying45 (by kernel_rfl) (by kernel_rfl) hv h
  obtain ⟨b, e0, _⟩ := DataW.trod_bool Try.underlying4 h0
  obtain ⟨k, e1, _⟩ := DataW.trod_int Try.underlying3 h1
  obtain rfl := (List.cons.inj e0).1
  obtain rfl := (List.cons.inj e1).1
  obtain ⟨A, c, l, rfl, hr, hc⟩ := open_flags h2
  exact ⟨b, k, A, c, l, rfl, hr, hc⟩
end Go.Proofs.Ytoanmoddppmffaa.T
