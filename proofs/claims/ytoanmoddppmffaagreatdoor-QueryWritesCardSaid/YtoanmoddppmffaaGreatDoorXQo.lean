/- What a row's listed variables give the walks: the cell of strconv.ErrRange. -/
import Derived.Test.YtoanmoddppmffaaGreatDoorXQc
import Derived.Test.YtoanmoddppmffaaGreatDoorRows
import Derived.Stop.LaidErr
import Derived.LaidMore
import Derived.Test.YtoanmoddppmffaaGreatDoorXQg
import Derived.Lib.ItoaNum
import Derived.OrdersHeld
import Derived.StillTail
import Derived.Deep.RegionHeld3
namespace Go.Proofs.YtoanmoddppmffaaGreatDoor.T
open Go.RowKit Go.Shelf
set_option linter.unusedVariables false
set_option maxRecDepth 100000
theorem gRange : Tryz.prog.globalNamed "strconv.ErrRange" = some 4 := by kernel_rfl
theorem tRange : (Tryz.prog.globals[4]?).map (·.type) = some 60 := by kernel_rfl
theorem starErr : "*" ++ "errors.errorString" = "*errors.errorString" := by decide
theorem rowErr (u : TypeId) (h : Tryz.prog.typeName? 3 u = some "*errors.errorString") : u = 149 :=
  typeName_ptr_named (nm := "errors.errorString") (by rw [starErr]; kernel_rfl) (by kernel_rfl) (by decide) u (by rw [starErr]; exact h)
theorem cellsErr : Tryz.prog.cellsOf 151 = 1 := by kernel_rfl
theorem cellsStr : Tryz.prog.cellsOf 9 = 1 := by kernel_rfl
theorem laid_at {P : Program} {l : List (String × DataW Unit)} {w : World} (h : laidMet P l w) (k : Nat) : laidMet P (l.drop k) w := by
  induction k generalizing l with
  | zero => exact h
  | succ k ih =>
    cases l with
    | nil => exact h
    | cons x r => exact ih h.tail
theorem vr_of_laid {l : List (String × DataW Unit)} {W : World} (hL : laidMetH Tryz.prog l W) (hp : l.drop 4 = ("strconv.ErrRange", Rows.laid_strconv_ErrRange) :: l.drop 5) (hpl : laidMetH Tryz.prog l W = laidMet Tryz.prog l W) : Vr W ∧ 4 < W.heap.size := by
  rw [hpl] at hL
  have h4 := laid_at hL 4
  rw [hp] at h4
  obtain ⟨a, s, hv, -, -, -⟩ := laid_sentinel h4 gRange tRange Tryz.underlying60 rowErr Tryz.underlying149 Tryz.underlying151 rfl rfl Tryz.underlying9 cellsErr cellsStr
  have h0 : W.cell? ⟨4, 0, none⟩ = some (.iface 149 (.pointer (some a))) := by have h0 := World.var?_cell gRange hv 0; simpa using h0
  exact ⟨⟨_, h0, .inr ⟨_, _, rfl⟩⟩, World.block_lt_of_cell? _ _ h0⟩
end Go.Proofs.YtoanmoddppmffaaGreatDoor.T
namespace Go.Proofs.YtoanmoddppmffaaGreatDoor.T
set_option linter.unusedVariables false
def sepT (f d : Bool) : ByteArray := if d && f then tDs else if d then ⟨#[]⟩ else if f then tSl else ⟨#[]⟩
def sepOk (f d : Bool) : Bool := !d || f
def headT (axis : Int) (name : ByteArray) : Option ByteArray :=
  if axis = 4 ∧ name = ⟨#[]⟩ then some tDot
  else if axis = 5 ∧ name = ⟨#[]⟩ then some tDd
  else if axis = 3 ∧ name = ⟨#[]⟩ then some ⟨#[116, 101, 120, 116, 40, 41]⟩
  else if axis = 2 ∧ (name = tStar ∨ isNm name = true) then some (tAt ++ name)
  else if axis = 1 ∧ (name = tStar ∨ isNm name = true) then some name
  else none
abbrev Wr := ByteArray × Bool
def inP (b : Bool) (s : ByteArray) : ByteArray := if b then tLp ++ s ++ tRp else s
mutual
def heldT : Pred → Wr
  | ⟨kind, n, path, args⟩ =>
    if n ≠ 0 then (⟨#[]⟩, false)
    else if kind = 2 ∧ args.length = 0 then (if path.length = 0 then (⟨#[]⟩, false) else rowT false path)
    else if kind = 5 ∧ args.length = 1 ∧ path.length = 0 then
      match argsT args with
      | [a] => (⟨#[110, 111, 116, 40]⟩ ++ a.2.1 ++ tRp, a.2.2)
      | _ => (⟨#[]⟩, false)
    else if kind = 3 ∧ args.length = 2 ∧ path.length = 0 then
      match argsT args with
      | [a, b] => (inP (a.1 == 4) a.2.1 ++ ⟨#[32, 97, 110, 100, 32]⟩ ++ inP (b.1 == 4 || b.1 == 3) b.2.1, a.2.2 && b.2.2)
      | _ => (⟨#[]⟩, false)
    else if kind = 4 ∧ args.length = 2 ∧ path.length = 0 then
      match argsT args with
      | [a, b] => (a.2.1 ++ ⟨#[32, 111, 114, 32]⟩ ++ inP (b.1 == 4) b.2.1, a.2.2 && b.2.2)
      | _ => (⟨#[]⟩, false)
    else (⟨#[]⟩, false)
def argsT : List Pred → List (Int × Wr)
  | [] => []
  | p :: l => (p.kind, heldT p) :: argsT l
def predsT : List Pred → Wr
  | [] => (⟨#[]⟩, true)
  | p :: l =>
    let a : Wr := if p.kind ≠ 1 then heldT p else if p.n < 1 ∨ 9999999 < p.n ∨ 0 < p.path.length + p.args.length then (⟨#[]⟩, false) else (bs (Go.Lib.itoa p.n), true)
    (tLb ++ a.1 ++ tRb ++ (predsT l).1, a.2 && (predsT l).2)
def stepT : StepOf Pred → Wr
  | ⟨deep, axis, name, preds⟩ =>
    match headT axis name with
    | none => (⟨#[]⟩, false)
    | some h => (h ++ (predsT preds).1, (predsT preds).2)
def rowT : Bool → List (StepOf Pred) → Wr
  | _, [] => (⟨#[]⟩, true)
  | f, s :: l => (sepT f s.deep ++ (stepT s).1 ++ (rowT true l).1, sepOk f s.deep && (stepT s).2 && (rowT true l).2)
end
def predT (p : Pred) : Wr := if p.kind ≠ 1 then heldT p else if p.n < 1 ∨ 9999999 < p.n ∨ 0 < p.path.length + p.args.length then (⟨#[]⟩, false) else (bs (Go.Lib.itoa p.n), true)
theorem predsT_nil : predsT [] = (⟨#[]⟩, true) := by rw [predsT]
theorem predsT_cons (p : Pred) (l : List Pred) : predsT (p :: l) = (tLb ++ (predT p).1 ++ tRb ++ (predsT l).1, (predT p).2 && (predsT l).2) := by rw [predsT, predT]
theorem rowT_nil (f : Bool) : rowT f [] = (⟨#[]⟩, true) := by rw [rowT]
theorem rowT_cons (f : Bool) (s : Step) (l : List Step) : rowT f (s :: l) = (sepT f s.deep ++ (stepT s).1 ++ (rowT true l).1, sepOk f s.deep && (stepT s).2 && (rowT true l).2) := by rw [rowT]
def pathT (f : Bool) (l : List Step) : Wr := if l.length = 0 then (⟨#[]⟩, false) else rowT f l
theorem stepT_eq (s : Step) : stepT s = match headT s.axis s.name with | none => (⟨#[]⟩, false) | some h => (h ++ (predsT s.preds).1, (predsT s.preds).2) := by
  cases s; rw [stepT]
theorem argsT_eq : ∀ l : List Pred, argsT l = l.map fun p => (p.kind, heldT p)
  | [] => by rw [argsT]; rfl
  | p :: l => by rw [argsT, argsT_eq l]; rfl
mutual
def nmP : Pred → Prop
  | ⟨_, _, path, args⟩ => (path.length ≤ 1000 ∧ args.length ≤ 1000) ∧ nmSs path ∧ nmPs args
def nmPs : List Pred → Prop
  | [] => True
  | p :: l => nmP p ∧ nmPs l
def nmS : StepOf Pred → Prop
  | ⟨_, _, name, preds⟩ => name.size ≤ 1000 ∧ nmPs preds
def nmSs : List (StepOf Pred) → Prop
  | [] => True
  | s :: l => nmS s ∧ nmSs l
end
theorem nmP_eq (p : Pred) : nmP p ↔ (p.path.length ≤ 1000 ∧ p.args.length ≤ 1000) ∧ nmSs p.path ∧ nmPs p.args := by cases p; rw [nmP]
theorem nmS_eq (s : Step) : nmS s ↔ s.name.size ≤ 1000 ∧ nmPs s.preds := by cases s; rw [nmS]
theorem nmPs_iff : ∀ l : List Pred, nmPs l ↔ ∀ p ∈ l, nmP p
  | [] => by rw [nmPs]; simp
  | p :: l => by rw [nmPs, nmPs_iff l]; simp
theorem nmSs_iff : ∀ l : List Step, nmSs l ↔ ∀ s ∈ l, nmS s
  | [] => by rw [nmSs]; simp
  | s :: l => by rw [nmSs, nmSs_iff l]; simp
end Go.Proofs.YtoanmoddppmffaaGreatDoor.T
namespace Go.Proofs.YtoanmoddppmffaaGreatDoor.T
open Go
section
variable {P : Program} {ops : Array Oper} {Q : Exit → Act → World → Prop} {md : Region.Mode} {S : World → Prop} {m n : Nat}
def wpAnyB (P : Program) (md : Region.Mode) (ops : Array Oper) (Q : Exit → Act → World → Prop) (S : World → Prop) (m : Nat) : Nat → Array Bool → Act → World → Prop
  | 0, listed, a, w => Region.ready md ops listed = [] ∧ Q .normal a w
  | fuel + 1, listed, a, w =>
    (Region.ready md ops listed = [] → Q .normal a w) ∧
    ∀ i ∈ Region.ready md ops listed, wpOp P ops Q i (fun a' w' => (i < m → S w') ∧ wpAnyB P md ops Q S m fuel (listed.setIfInBounds i true) a' w') a w
theorem wpAny_of_B : ∀ (fuel : Nat) (listed : Array Bool) (a : Act) (w : World), wpAnyB P md ops Q S m fuel listed a w → wpAny P md ops Q fuel listed a w
  | 0, _, _, _, h => h
  | fuel + 1, _, _, _, h => ⟨h.1, fun i hi => wpOp_mono (fun a' w' h' => wpAny_of_B fuel _ a' w' h'.2) (h.2 i hi)⟩
def lateB (md : Region.Mode) (ops : Array Oper) (m n : Nat) : Bool := (List.range (ops.size - m)).all fun j => (List.range n).all fun i => Region.waitsFor md ops (m + j) i
theorem late_spec (h : lateB md ops m n = true) {listed : Array Bool} {i j : Nat} (hi : i < n) (hj : m ≤ j) (hr : j ∈ Region.ready md ops listed) (hl : listed.getD i true = false) : False := by
  obtain ⟨hjun, oj, hoj, hall⟩ := mem_ready.1 hr
  have hjs : j < ops.size := (Array.getElem?_eq_some_iff.1 hoj).1
  have h1 := List.all_eq_true.1 h (j - m) (by simp; omega)
  have h2 := List.all_eq_true.1 h1 i (by simpa using hi)
  rw [show m + (j - m) = j by omega] at h2
  obtain ⟨oj', hoj', e, he, hb, heq⟩ := Region.waitsFor_spec h2
  have : oj' = oj := Option.some.inj (hoj'.symm.trans hoj)
  subst this
  have h3 := hall e he hb
  rw [heq] at h3
  rcases Nat.lt_or_ge i listed.size with h' | h'
  · simp [h'] at hl h3; rw [hl] at h3; cases h3
  · simp [Array.getElem?_eq_none h'] at hl
theorem B_first {i : Nat} {oi : Oper} {v : Value} (hi : ops[i]? = some oi) (hin : i < n) (hlate : lateB md ops m n = true) (hsel : ∀ (j : Nat) (o : Oper) cs b, ops[j]? = some o → o.op ≠ .select cs b)
    (hQ : ∀ c a w, Q (.panic c) (a.put oi.dst v) w → Q (.panic c) a w) :
    ∀ (fuel : Nat) (listed : Array Bool) (a : Act) (w : World),
      (∀ j oj, ops[j]? = some oj → j ≠ i → listed.getD j true = false → (∀ e ∈ oj.after, Region.binds md e = true → e.on ≠ i) → oi.apart ops oj = true) →
      i ∈ Region.ready md ops listed → YieldsIf P ops S oi v a → S w →
      wpAnyB P md ops Q S m fuel (listed.setIfInBounds i true) (a.put oi.dst v) w → wpAnyB P md ops Q S m (fuel + 1) listed a w := by
  intro fuel
  induction fuel with
  | zero =>
    intro listed a w _ hr hy hS H
    refine ⟨fun h => (by rw [h] at hr; cases hr), fun j hj => ?_⟩
    by_cases hji : j = i
    · subst hji; exact hy.wpOp hi hS ⟨fun _ => hS, H⟩
    · have := ready_mono hj hji
      rw [H.1] at this
      cases this
  | succ fuel ih =>
    intro listed a w hfree hr hy hS H
    refine ⟨fun h => (by rw [h] at hr; cases hr), fun j hj => ?_⟩
    by_cases hji : j = i
    · subst hji; exact hy.wpOp hi hS ⟨fun _ => hS, H⟩
    · have hjm : j < m := by
        rcases Nat.lt_or_ge j m with h | h
        · exact h
        · exact (late_spec hlate hin h hj (mem_ready.1 hr).1).elim
      have h1 := H.2 j (ready_mono hj hji)
      obtain ⟨hjun, oj, hoj, hall⟩ := mem_ready.1 hj
      have hnot : ∀ e ∈ oj.after, Region.binds md e = true → e.on ≠ i := fun e he hb heq => by
        have h1 := hall e he hb
        have h0 := (mem_ready.1 hr).1
        rw [heq] at h1
        rcases Nat.lt_or_ge i listed.size with h' | h'
        · simp [h'] at h0 h1; rw [h0] at h1; cases h1
        · simp [Array.getElem?_eq_none h'] at h1
      have h2 := wpOp_putIf hoj (hfree j oj hoj hji hjun hnot) (fun cs b => hsel i oi cs b hi) (fun cs b => hsel j oj cs b hoj) hQ hy h1
      have hfree' : ∀ k ok, ops[k]? = some ok → k ≠ i → (listed.setIfInBounds j true).getD k true = false →
          (∀ e ∈ ok.after, Region.binds md e = true → e.on ≠ i) → oi.apart ops ok = true := fun k ok hk hki hun hno => by
        refine hfree k ok hk hki ?_ hno
        by_cases hjk : j = k
        · subst hjk; exact hjun
        · rw [getD_set_ne true hjk] at hun; exact hun
      refine wpOp_mono (fun a' w' h3 => ⟨fun _ => h3.2.1 hjm, ih (listed.setIfInBounds j true) a' w' hfree' (ready_mono hr (Ne.symm hji)) h3.1 (h3.2.1 hjm) ?_⟩) h2
      rw [Array.setIfInBounds_comm _ _ hji]
      exact h3.2.2
theorem B_take (n : Nat) {i : Nat} {oi : Oper} {v : Value} {fuel : Nat} {listed : Array Bool} {a : Act} {w : World} (hi : ops[i]? = some oi)
    (hb : (decide (i < n) && lateB md ops m n && Region.noSelect ops && Region.free md ops listed i && (Region.ready md ops listed).contains i) = true)
    (hQ : ∀ c a w, Q (.panic c) (a.put oi.dst v) w → Q (.panic c) a w) (hw : Region.wanted oi (yielded ops a.tmps) = true) (hy : ∀ w, S w → (execOp a.eval oi).run P w = .ok (.value v) w) (hS : S w)
    (h : wpAnyB P md ops Q S m fuel (listed.setIfInBounds i true) (a.put oi.dst v) w) : wpAnyB P md ops Q S m (fuel + 1) listed a w := by
  simp only [Bool.and_eq_true, decide_eq_true_eq] at hb
  obtain ⟨⟨⟨⟨h1, h2⟩, h3⟩, h4⟩, h5⟩ := hb
  exact B_first hi h1 h2 (Region.noSelect_spec h3) hQ fuel listed a w (Region.free_spec hi h4) (by simpa using h5) (.inl ⟨hw, hy⟩) hS h
theorem B_skip (n : Nat) {i : Nat} {oi : Oper} {fuel : Nat} {listed : Array Bool} {a : Act} {w : World} (hi : ops[i]? = some oi)
    (hb : (decide (i < n) && lateB md ops m n && Region.noSelect ops && Region.free md ops listed i && (Region.ready md ops listed).contains i) = true)
    (hQ : ∀ c a w, Q (.panic c) (a.put oi.dst undef) w → Q (.panic c) a w) (hw : Region.wanted oi (yielded ops a.tmps) = false) (hS : S w)
    (h : wpAnyB P md ops Q S m fuel (listed.setIfInBounds i true) (a.put oi.dst undef) w) : wpAnyB P md ops Q S m (fuel + 1) listed a w := by
  simp only [Bool.and_eq_true, decide_eq_true_eq] at hb
  obtain ⟨⟨⟨⟨h1, h2⟩, h3⟩, h4⟩, h5⟩ := hb
  exact B_first hi h1 h2 (Region.noSelect_spec h3) hQ fuel listed a w (Region.free_spec hi h4) (by simpa using h5) (.inr ⟨hw, rfl⟩) hS h
theorem B_one {i : Nat} {oi : Oper} {fuel : Nat} {listed : Array Bool} {a : Act} {w : World} (hi : ops[i]? = some oi) (hr : decide (Region.ready md ops listed = [i]) = true)
    (h : ∀ K' : Act → World → Prop, Shut (∀ a' w', S w' → wpAnyB P md ops Q S m fuel (listed.setIfInBounds i true) a' w' → K' a' w') → if Region.wanted oi (yielded ops a.tmps) = true then Oper.wp P oi a w K' Q else K' (a.put oi.dst undef) w) :
    wpAnyB P md ops Q S m (fuel + 1) listed a w := by
  have hr' : Region.ready md ops listed = [i] := of_decide_eq_true hr
  refine ⟨fun h0 => absurd h0 (by rw [hr']; simp), fun j hj => ?_⟩
  rw [hr'] at hj
  obtain rfl : j = i := by simpa using hj
  exact wpOp_step hi (fun K' hK => h K' (fun a' w' hS hW => hK a' w' ⟨fun _ => hS, hW⟩))
theorem B_of_seq : ∀ (l : List Oper) (k : Nat) (listed : Array Bool) (a : Act) (w : World), (∀ j, l[j]? = ops[k + j]?) → m ≤ k →
    Region.seqB md ops l.length k listed = true → wpList P ops Q l a w → wpAnyB P md ops Q S m l.length listed a w
  | [], _, _, _, _, _, _, hB, h => ⟨by simpa [Region.seqB] using hB, h⟩
  | o :: l, k, listed, a, w, hl, hm, hB, h => by
    have h0 : ops[k]? = some o := by simpa using (hl 0).symm
    simp only [List.length_cons, Region.seqB, Bool.and_eq_true, decide_eq_true_eq] at hB
    refine ⟨fun h1 => (by rw [hB.1] at h1; cases h1), fun i hi => ?_⟩
    rw [hB.1] at hi
    have hik : i = k := by simpa using hi
    subst hik
    have hw : wpOp P ops Q i (wpList P ops Q l) a w := by unfold wpOp; simp only [h0]; exact h
    exact wpOp_mono (fun a' w' h' => ⟨fun hlt => by omega, B_of_seq l (i + 1) _ a' w' (fun j => by have := hl (j + 1); simpa [Nat.add_assoc, Nat.add_comm 1 j] using this) (by omega) hB.2 h'⟩) hw
theorem B_tail {l : List Oper} (k : Nat) {fuel : Nat} {listed : Array Bool} {a : Act} {w : World} (hf : fuel = (l.drop k).length) (hm : m ≤ k) (hB : Region.seqB md l.toArray (l.drop k).length k listed = true) (h : wpList P l.toArray Q (l.drop k) a w) : wpAnyB P md l.toArray Q S m fuel listed a w := by
  subst hf
  exact B_of_seq (l.drop k) k listed a w (fun j => by simp [List.getElem?_drop]) hm hB h
theorem B_region {id : Nat} {a : Act} {w : World} (S : World → Prop) (m : Nat) (hm : P.follows .mixedOrders = true) (hS : S w.drew)
    (h : S w.drew → wpAnyB P .any ops Q S m ops.size (Array.replicate ops.size false) a w.drew) : (Code.region id ops true).wp P Q a w :=
  wp_region_any hm (wpAny_of_B _ _ _ _ (h hS))
end
end Go.Proofs.YtoanmoddppmffaaGreatDoor.T
