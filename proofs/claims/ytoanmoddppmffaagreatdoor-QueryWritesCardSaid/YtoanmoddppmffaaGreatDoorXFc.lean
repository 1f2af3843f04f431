/- A region that draws its order, taken operation by operation: the slots written out. -/
import Derived.Test.YtoanmoddppmffaaGreatDoorXQo
import Derived.Test.YtoanmoddppmffaaGreatDoorXQk
import Derived.BigQuiet
import Derived.Deep.QuietTactic
import Derived.Deep.DeepCutAuto
import Derived.Test.YtoanmoddppmffaaGreatDoorXSh
import Derived.Test.YtoanmoddppmffaaGreatDoorXQn
import Derived.Lib.LaidTab
namespace Go.Proofs.YtoanmoddppmffaaGreatDoor.T
open Go
section
variable {P : Program} {ops : Array Oper} {Q : Exit → Act → World → Prop} {md : Region.Mode} {S : World → Prop} {m : Nat}
theorem B_takeD (n d : Nat) {i : Nat} {oi : Oper} {v : Value} {fuel : Nat} {listed : Array Bool} {a : Act} {w : World} (hi : ops[i]? = some oi) (hd : oi.dst = some d)
    (hb : (decide (i < n) && lateB md ops m n && Region.noSelect ops && Region.free md ops listed i && (Region.ready md ops listed).contains i) = true)
    (hQ : ∀ c a w, Q (.panic c) (a.put oi.dst v) w → Q (.panic c) a w) (hw : Region.wanted oi (yielded ops a.tmps) = true) (hy : ∀ w, S w → (execOp a.eval oi).run P w = .ok (.value v) w) (hS : S w)
    (h : wpAnyB P md ops Q S m fuel (listed.setIfInBounds i true) { a with tmps := a.tmps.setIfInBounds d v } w) : wpAnyB P md ops Q S m (fuel + 1) listed a w :=
  B_take n hi hb hQ hw hy hS (by rw [hd]; exact h)
theorem B_skipD (n d : Nat) {i : Nat} {oi : Oper} {fuel : Nat} {listed : Array Bool} {a : Act} {w : World} (hi : ops[i]? = some oi) (hd : oi.dst = some d)
    (hb : (decide (i < n) && lateB md ops m n && Region.noSelect ops && Region.free md ops listed i && (Region.ready md ops listed).contains i) = true)
    (hQ : ∀ c a w, Q (.panic c) (a.put oi.dst undef) w → Q (.panic c) a w) (hw : Region.wanted oi (yielded ops a.tmps) = false) (hS : S w)
    (h : wpAnyB P md ops Q S m fuel (listed.setIfInBounds i true) { a with tmps := a.tmps.setIfInBounds d undef } w) : wpAnyB P md ops Q S m (fuel + 1) listed a w :=
  B_skip n hi hb hQ hw hS (by rw [hd]; exact h)
theorem B_two {i j : Nat} {oi oj : Oper} {fuel : Nat} {listed : Array Bool} {a : Act} {w : World} (hi : ops[i]? = some oi) (hj : ops[j]? = some oj) (hr : decide (Region.ready md ops listed = [i, j]) = true)
    (h1 : ∀ K' : Act → World → Prop, Shut (∀ a' w', S w' → wpAnyB P md ops Q S m fuel (listed.setIfInBounds i true) a' w' → K' a' w') → if Region.wanted oi (yielded ops a.tmps) = true then Oper.wp P oi a w K' Q else K' (a.put oi.dst undef) w)
    (h2 : ∀ K' : Act → World → Prop, Shut (∀ a' w', S w' → wpAnyB P md ops Q S m fuel (listed.setIfInBounds j true) a' w' → K' a' w') → if Region.wanted oj (yielded ops a.tmps) = true then Oper.wp P oj a w K' Q else K' (a.put oj.dst undef) w) :
    wpAnyB P md ops Q S m (fuel + 1) listed a w := by
  have hr' : Region.ready md ops listed = [i, j] := of_decide_eq_true hr
  refine ⟨fun h0 => absurd h0 (by rw [hr']; simp), fun q hq => ?_⟩
  rw [hr'] at hq
  rcases List.mem_cons.1 hq with rfl | hq
  · exact wpOp_step hi (fun K' hK => h1 K' (fun a' w' hS hW => hK a' w' ⟨fun _ => hS, hW⟩))
  · obtain rfl : q = j := by simpa using hq
    exact wpOp_step hj (fun K' hK => h2 K' (fun a' w' hS hW => hK a' w' ⟨fun _ => hS, hW⟩))
end
end Go.Proofs.YtoanmoddppmffaaGreatDoor.T
namespace Go.Proofs.YtoanmoddppmffaaGreatDoor.T
open Go.RowKit Go.Shelf Go.Proofs.YtoanmoddppmffaaGreatDoorW.PrintWords
set_option linter.unusedVariables false
set_option linter.unusedSimpArgs false
noncomputable def eqB {α : Type} (a b : α) : Bool := @decide (a = b) (Classical.propDecidable _)
theorem eqB_iff {α : Type} {a b : α} : eqB a b = true ↔ a = b := by unfold eqB; simp
theorem eqB_self {α : Type} (a : α) : eqB a a = true := eqB_iff.2 rfl
theorem eqB_no {α : Type} {a b : α} (h : a ≠ b) : eqB a b = false := by
  cases he : eqB a b with
  | false => rfl
  | true => exact absurd (eqB_iff.1 he) h
def SamePost (b : Bool) (w : World) (e : Ending) (w' : World) : Prop := e = .returned (.bool b) ∧ Below w.heap.size w w'
theorem predsAt_below {ok : Nat → Prop} {w w' : World} {n : Nat} {v : Value} {xs : List Pred} (h : SlAt (predR ok w n) ok w v xs) (hb : Below w.heap.size w w') : SlAt (predR (fun k => ok k ∧ k < w.heap.size) w' n) (fun k => ok k ∧ k < w.heap.size) w' v xs :=
  (h.bound (K' := predR (fun k => ok k ∧ k < w.heap.size) w n) (fun y c _ hy => predR_bound n y c hy)).imp_ (fun k hk => hb.block k hk.2) (fun k hk => hk) (fun y c _ hy => predR_imp (fun k hk => hb.block k hk.2) (fun k hk => hk) n n (Nat.le_refl _) y c hy)
theorem stepsAt_below {ok : Nat → Prop} {w w' : World} {n : Nat} {v : Value} {xs : List Step} (h : SlAt (stepR ok w n) ok w v xs) (hb : Below w.heap.size w w') : SlAt (stepR (fun k => ok k ∧ k < w.heap.size) w' n) (fun k => ok k ∧ k < w.heap.size) w' v xs :=
  (h.bound (K' := stepR (fun k => ok k ∧ k < w.heap.size) w n) (fun y c _ hy => stepR_bound n y c hy)).imp_ (fun k hk => hb.block k hk.2) (fun k hk => hk) (fun y c _ hy => stepR_imp (fun k hk => hb.block k hk.2) (fun k hk => hk) n n (Nat.le_refl _) y c hy)
theorem fld {w : World} {ad : Addr} {n k : Nat} {v : Value} (hk : k ≠ 0) (h : w.cell? (ad.add (n + k)) = some v) : w.cell? ⟨(ad.add n).block, (ad.add n).off + k, none⟩ = some v := by
  rw [← add_add] at h
  rw [← h]
  simp [Addr.add, hk]
theorem SlAt.getS {ok : Nat → Prop} {w : World} {n : Nat} {v : Value} {xs : List Step} (h : SlAt (stepR ok w n) ok w v xs) {j : Nat} {x : Step} (hj : xs[j]? = some x) : ∃ m ad c u, n = m + 1 ∧ v = .slice (some ad) xs.length c ∧ ok ad.block ∧ SlAt (predR ok w m) ok w u x.preds ∧
    w.cell? (ad.add (j * 4)) = some (.bool x.deep) ∧ w.cell? ⟨(ad.add (j * 4)).block, (ad.add (j * 4)).off + 1, none⟩ = some (.int .i64 x.axis) ∧ w.cell? ⟨(ad.add (j * 4)).block, (ad.add (j * 4)).off + 2, none⟩ = some (.string x.name) ∧ w.cell? ⟨(ad.add (j * 4)).block, (ad.add (j * 4)).off + 3, none⟩ = some u := by
  obtain ⟨A, c, e, _, _, hr⟩ := h
  obtain ⟨ad, cs, rfl, hok, _, hc, hk⟩ := hr j x hj
  cases n with
  | zero => simp only [stepR] at hk
  | succ m =>
    simp only [stepR] at hk
    obtain ⟨u, rfl, hp⟩ := hk
    exact ⟨m, ad, c, u, rfl, e, hok, hp, hc 0 _ rfl, fld (by decide) (hc 1 _ rfl), fld (by decide) (hc 2 _ rfl), fld (by decide) (hc 3 _ rfl)⟩
theorem SlAt.getP {ok : Nat → Prop} {w : World} {n : Nat} {v : Value} {xs : List Pred} (h : SlAt (predR ok w n) ok w v xs) {j : Nat} {x : Pred} (hj : xs[j]? = some x) : ∃ m ad c p a, n = m + 1 ∧ v = .slice (some ad) xs.length c ∧ ok ad.block ∧ SlAt (stepR ok w m) ok w p x.path ∧ SlAt (predR ok w m) ok w a x.args ∧
    w.cell? (ad.add (j * 4)) = some (.int .i64 x.kind) ∧ w.cell? ⟨(ad.add (j * 4)).block, (ad.add (j * 4)).off + 1, none⟩ = some (.int .i64 x.n) ∧ w.cell? ⟨(ad.add (j * 4)).block, (ad.add (j * 4)).off + 2, none⟩ = some p ∧ w.cell? ⟨(ad.add (j * 4)).block, (ad.add (j * 4)).off + 3, none⟩ = some a := by
  obtain ⟨A, c, e, _, _, hr⟩ := h
  obtain ⟨ad, cs, rfl, hok, _, hc, hk⟩ := hr j x hj
  cases n with
  | zero => simp only [predR] at hk
  | succ m =>
    simp only [predR] at hk
    obtain ⟨p, a, rfl, hp, ha⟩ := hk
    exact ⟨m, ad, c, p, a, rfl, e, hok, hp, ha, hc 0 _ rfl, fld (by decide) (hc 1 _ rfl), fld (by decide) (hc 2 _ rfl), fld (by decide) (hc 3 _ rfl)⟩
end Go.Proofs.YtoanmoddppmffaaGreatDoor.T
namespace Go.Proofs.YtoanmoddppmffaaGreatDoor.T
open Go.RowKit Go.Shelf Go.Proofs.YtoanmoddppmffaaGreatDoorW.PrintWords
set_option linter.unusedVariables false
set_option linter.unusedSimpArgs false
def Tb (w : World) : Prop := Lib.TabIs Tryz.prog w "internal/strconv.uint64pow10" .u64 Lib.pow10Tab
theorem gTab : Tryz.prog.globalNamed "internal/strconv.uint64pow10" = some 5 := by kernel_rfl
theorem Tb.heap_ {w w' : World} (h : Tb w) (hm : w'.heap[5]? = w.heap[5]?) : Tb w' := by
  unfold Tb Lib.TabIs World.var? at h ⊢
  rw [gTab] at h ⊢
  simp only [Option.bind_some, Option.bind_eq_bind] at h ⊢
  rw [hm]
  exact h
def wrO (b : Bool) : Obj := .cells #[.bool b] 45
def WPost (g : Nat) (b : Bool) (r : Wr) (w : World) (e : Ending) (w' : World) : Prop := e = .returned (.string r.1) ∧ w'.heap[g]? = some (wrO (b || !r.2)) ∧ w.grownBy w' (some g)
set_option maxHeartbeats 1000000 in
set_option maxRecDepth 100000 in
theorem wFails_any (g : Nat) (b : Bool) (w : World) (hg : w.heap[g]? = some (wrO b)) : Calls Tryz.prog 22 #[.pointer (some ⟨g, 0, none⟩)] w (WPost g b (⟨#[]⟩, false) w) := by
  have f0 := blk_frozen hg 0
  have c0 : w.cell? ⟨g, 0, none⟩ = some (.bool b) := (blk_cell hg 0).trans rfl
  have h1 := blk_put hg 0 (.bool true) rfl
  have HG := Aside0.mk h1
  clear hg h1
  go_enter Tryz.func22, Tryz.ntmps22
  go_wp2
  go_ret
  exact ⟨rfl, by rw [Bool.not_false, Bool.or_true]; exact HG.out, gb_set (gb_refl _ _)⟩
end Go.Proofs.YtoanmoddppmffaaGreatDoor.T
