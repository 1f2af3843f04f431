/- The reference's Same. -/
import Derived.Test.YtoanmoddppmffaaGreatDoorKQk
import Derived.Test.YtoanmoddppmffaaGreatDoorKQp
import Derived.BigQuiet
import Derived.Deep.QuietTactic
import Derived.Deep.DeepCutAuto
namespace Go.Proofs.YtoanmoddppmffaaGreatDoor.T
open Go.RowKit Go.Shelf Go.Proofs.YtoanmoddppmffaaGreatDoorW.PrintWords
set_option linter.unusedVariables false
set_option linter.unusedSimpArgs false
noncomputable def eqB {α : Type} (a b : α) : Bool := @decide (a = b) (Classical.propDecidable _)
theorem eqB_iff {α : Type} {a b : α} : eqB a b = true ↔ a = b := by unfold eqB; simp
theorem eqB_self {α : Type} (a : α) : eqB a a = true := eqB_iff.2 rfl
theorem eqB_no {α : Type} {a b : α} (h : a ≠ b) : eqB a b = false := by
  cases he : eqB a b with
  | false => rfl
  | true => exact absurd (eqB_iff.1 he) h
def SamePost (b : Bool) (w : World) (e : Ending) (w' : World) : Prop := e = .returned (.bool b) ∧ Below w.heap.size w w'
theorem predsAt_below {ok : Nat → Prop} {w w' : World} {n : Nat} {v : Value} {xs : List Pred} (h : SlAt (predR ok w n) ok w v xs) (hb : Below w.heap.size w w') : SlAt (predR (fun k => ok k ∧ k < w.heap.size) w' n) (fun k => ok k ∧ k < w.heap.size) w' v xs :=
  (h.bound (K' := predR (fun k => ok k ∧ k < w.heap.size) w n) (fun y c _ hy => predR_bound n y c hy)).imp_ (fun k hk => hb.block k hk.2) (fun k hk => hk) (fun y c _ hy => predR_imp (fun k hk => hb.block k hk.2) (fun k hk => hk) n n (Nat.le_refl _) y c hy)
theorem stepsAt_below {ok : Nat → Prop} {w w' : World} {n : Nat} {v : Value} {xs : List Step} (h : SlAt (stepR ok w n) ok w v xs) (hb : Below w.heap.size w w') : SlAt (stepR (fun k => ok k ∧ k < w.heap.size) w' n) (fun k => ok k ∧ k < w.heap.size) w' v xs :=
  (h.bound (K' := stepR (fun k => ok k ∧ k < w.heap.size) w n) (fun y c _ hy => stepR_bound n y c hy)).imp_ (fun k hk => hb.block k hk.2) (fun k hk => hk) (fun y c _ hy => stepR_imp (fun k hk => hb.block k hk.2) (fun k hk => hk) n n (Nat.le_refl _) y c hy)
theorem fld {w : World} {ad : Addr} {n k : Nat} {v : Value} (hk : k ≠ 0) (h : w.cell? (ad.add (n + k)) = some v) : w.cell? ⟨(ad.add n).block, (ad.add n).off + k, none⟩ = some v := by
  rw [← add_add] at h
  rw [← h]
  simp [Addr.add, hk]
theorem SlAt.getS {ok : Nat → Prop} {w : World} {n : Nat} {v : Value} {xs : List Step} (h : SlAt (stepR ok w n) ok w v xs) {j : Nat} {x : Step} (hj : xs[j]? = some x) : ∃ m ad c u, n = m + 1 ∧ v = .slice (some ad) xs.length c ∧ ok ad.block ∧ SlAt (predR ok w m) ok w u x.preds ∧
    w.cell? (ad.add (j * 4)) = some (.bool x.deep) ∧ w.cell? ⟨(ad.add (j * 4)).block, (ad.add (j * 4)).off + 1, none⟩ = some (.int .i64 x.axis) ∧ w.cell? ⟨(ad.add (j * 4)).block, (ad.add (j * 4)).off + 2, none⟩ = some (.string x.name) ∧ w.cell? ⟨(ad.add (j * 4)).block, (ad.add (j * 4)).off + 3, none⟩ = some u := by
  obtain ⟨A, c, e, _, _, hr⟩ := h
  obtain ⟨ad, cs, rfl, hok, _, hc, hk⟩ := hr j x hj
  cases n with
  | zero => simp only [stepR] at hk
  | succ m =>
    simp only [stepR] at hk
    obtain ⟨u, rfl, hp⟩ := hk
    exact ⟨m, ad, c, u, rfl, e, hok, hp, hc 0 _ rfl, fld (by decide) (hc 1 _ rfl), fld (by decide) (hc 2 _ rfl), fld (by decide) (hc 3 _ rfl)⟩
theorem SlAt.getP {ok : Nat → Prop} {w : World} {n : Nat} {v : Value} {xs : List Pred} (h : SlAt (predR ok w n) ok w v xs) {j : Nat} {x : Pred} (hj : xs[j]? = some x) : ∃ m ad c p a, n = m + 1 ∧ v = .slice (some ad) xs.length c ∧ ok ad.block ∧ SlAt (stepR ok w m) ok w p x.path ∧ SlAt (predR ok w m) ok w a x.args ∧
    w.cell? (ad.add (j * 4)) = some (.int .i64 x.kind) ∧ w.cell? ⟨(ad.add (j * 4)).block, (ad.add (j * 4)).off + 1, none⟩ = some (.int .i64 x.n) ∧ w.cell? ⟨(ad.add (j * 4)).block, (ad.add (j * 4)).off + 2, none⟩ = some p ∧ w.cell? ⟨(ad.add (j * 4)).block, (ad.add (j * 4)).off + 3, none⟩ = some a := by
  obtain ⟨A, c, e, _, _, hr⟩ := h
  obtain ⟨ad, cs, rfl, hok, _, hc, hk⟩ := hr j x hj
  cases n with
  | zero => simp only [predR] at hk
  | succ m =>
    simp only [predR] at hk
    obtain ⟨p, a, rfl, hp, ha⟩ := hk
    exact ⟨m, ad, c, p, a, rfl, e, hok, hp, ha, hc 0 _ rfl, fld (by decide) (hc 1 _ rfl), fld (by decide) (hc 2 _ rfl), fld (by decide) (hc 3 _ rfl)⟩
end Go.Proofs.YtoanmoddppmffaaGreatDoor.T
