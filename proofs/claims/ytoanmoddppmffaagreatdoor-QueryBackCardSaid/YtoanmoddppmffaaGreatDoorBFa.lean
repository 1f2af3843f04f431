/- What a row's listed variables give the walks: the cell of strconv.ErrRange. -/
import Derived.Test.YtoanmoddppmffaaGreatDoorBQc
import Derived.Test.YtoanmoddppmffaaGreatDoorRows
import Derived.Stop.LaidErr
import Derived.LaidMore
import Derived.Test.YtoanmoddppmffaaGreatDoorBQg
import Derived.Lib.ItoaNum
namespace Go.Proofs.YtoanmoddppmffaaGreatDoor.T
open Go.RowKit Go.Shelf
set_option linter.unusedVariables false
set_option maxRecDepth 100000
theorem gRange : Tryz.prog.globalNamed "strconv.ErrRange" = some 4 := by kernel_rfl
theorem tRange : (Tryz.prog.globals[4]?).map (·.type) = some 60 := by kernel_rfl
theorem starErr : "*" ++ "errors.errorString" = "*errors.errorString" := by decide
theorem rowErr (u : TypeId) (h : Tryz.prog.typeName? 3 u = some "*errors.errorString") : u = 149 :=
  typeName_ptr_named (nm := "errors.errorString") (by rw [starErr]; kernel_rfl) (by kernel_rfl) (by decide) u (by rw [starErr]; exact h)
theorem cellsErr : Tryz.prog.cellsOf 151 = 1 := by kernel_rfl
theorem cellsStr : Tryz.prog.cellsOf 9 = 1 := by kernel_rfl
theorem laid_at {P : Program} {l : List (String × DataW Unit)} {w : World} (h : laidMet P l w) (k : Nat) : laidMet P (l.drop k) w := by
  induction k generalizing l with
  | zero => exact h
  | succ k ih =>
    cases l with
    | nil => exact h
    | cons x r => exact ih h.tail
theorem vr_of_laid {l : List (String × DataW Unit)} {W : World} (hL : laidMetH Tryz.prog l W) (hp : l.drop 4 = ("strconv.ErrRange", Rows.laid_strconv_ErrRange) :: l.drop 5) (hpl : laidMetH Tryz.prog l W = laidMet Tryz.prog l W) : Vr W ∧ 4 < W.heap.size := by
  rw [hpl] at hL
  have h4 := laid_at hL 4
  rw [hp] at h4
  obtain ⟨a, s, hv, -, -, -⟩ := laid_sentinel h4 gRange tRange Tryz.underlying60 rowErr Tryz.underlying149 Tryz.underlying151 rfl rfl Tryz.underlying9 cellsErr cellsStr
  have h0 : W.cell? ⟨4, 0, none⟩ = some (.iface 149 (.pointer (some a))) := by have h0 := World.var?_cell gRange hv 0; simpa using h0
  exact ⟨⟨_, h0, .inr ⟨_, _, rfl⟩⟩, World.block_lt_of_cell? _ _ h0⟩
end Go.Proofs.YtoanmoddppmffaaGreatDoor.T
namespace Go.Proofs.YtoanmoddppmffaaGreatDoor.T
set_option linter.unusedVariables false
def sepT (f d : Bool) : ByteArray := if d && f then tDs else if d then ⟨#[]⟩ else if f then tSl else ⟨#[]⟩
def sepOk (f d : Bool) : Bool := !d || f
def headT (axis : Int) (name : ByteArray) : Option ByteArray :=
  if axis = 4 ∧ name = ⟨#[]⟩ then some tDot
  else if axis = 5 ∧ name = ⟨#[]⟩ then some tDd
  else if axis = 3 ∧ name = ⟨#[]⟩ then some ⟨#[116, 101, 120, 116, 40, 41]⟩
  else if axis = 2 ∧ (name = tStar ∨ isNm name = true) then some (tAt ++ name)
  else if axis = 1 ∧ (name = tStar ∨ isNm name = true) then some name
  else none
abbrev Wr := ByteArray × Bool
def inP (b : Bool) (s : ByteArray) : ByteArray := if b then tLp ++ s ++ tRp else s
mutual
def heldT : Pred → Wr
  | ⟨kind, n, path, args⟩ =>
    if n ≠ 0 then (⟨#[]⟩, false)
    else if kind = 2 ∧ args.length = 0 then (if path.length = 0 then (⟨#[]⟩, false) else rowT false path)
    else if kind = 5 ∧ args.length = 1 ∧ path.length = 0 then
      match argsT args with
      | [a] => (⟨#[110, 111, 116, 40]⟩ ++ a.2.1 ++ tRp, a.2.2)
      | _ => (⟨#[]⟩, false)
    else if kind = 3 ∧ args.length = 2 ∧ path.length = 0 then
      match argsT args with
      | [a, b] => (inP (a.1 == 4) a.2.1 ++ ⟨#[32, 97, 110, 100, 32]⟩ ++ inP (b.1 == 4 || b.1 == 3) b.2.1, a.2.2 && b.2.2)
      | _ => (⟨#[]⟩, false)
    else if kind = 4 ∧ args.length = 2 ∧ path.length = 0 then
      match argsT args with
      | [a, b] => (a.2.1 ++ ⟨#[32, 111, 114, 32]⟩ ++ inP (b.1 == 4) b.2.1, a.2.2 && b.2.2)
      | _ => (⟨#[]⟩, false)
    else (⟨#[]⟩, false)
def argsT : List Pred → List (Int × Wr)
  | [] => []
  | p :: l => (p.kind, heldT p) :: argsT l
def predsT : List Pred → Wr
  | [] => (⟨#[]⟩, true)
  | p :: l =>
    let a : Wr := if p.kind ≠ 1 then heldT p else if p.n < 1 ∨ 9999999 < p.n ∨ 0 < p.path.length + p.args.length then (⟨#[]⟩, false) else (bs (Go.Lib.itoa p.n), true)
    (tLb ++ a.1 ++ tRb ++ (predsT l).1, a.2 && (predsT l).2)
def stepT : StepOf Pred → Wr
  | ⟨deep, axis, name, preds⟩ =>
    match headT axis name with
    | none => (⟨#[]⟩, false)
    | some h => (h ++ (predsT preds).1, (predsT preds).2)
def rowT : Bool → List (StepOf Pred) → Wr
  | _, [] => (⟨#[]⟩, true)
  | f, s :: l => (sepT f s.deep ++ (stepT s).1 ++ (rowT true l).1, sepOk f s.deep && (stepT s).2 && (rowT true l).2)
end
def predT (p : Pred) : Wr := if p.kind ≠ 1 then heldT p else if p.n < 1 ∨ 9999999 < p.n ∨ 0 < p.path.length + p.args.length then (⟨#[]⟩, false) else (bs (Go.Lib.itoa p.n), true)
theorem predsT_nil : predsT [] = (⟨#[]⟩, true) := by rw [predsT]
theorem predsT_cons (p : Pred) (l : List Pred) : predsT (p :: l) = (tLb ++ (predT p).1 ++ tRb ++ (predsT l).1, (predT p).2 && (predsT l).2) := by rw [predsT, predT]
theorem rowT_nil (f : Bool) : rowT f [] = (⟨#[]⟩, true) := by rw [rowT]
theorem rowT_cons (f : Bool) (s : Step) (l : List Step) : rowT f (s :: l) = (sepT f s.deep ++ (stepT s).1 ++ (rowT true l).1, sepOk f s.deep && (stepT s).2 && (rowT true l).2) := by rw [rowT]
def pathT (f : Bool) (l : List Step) : Wr := if l.length = 0 then (⟨#[]⟩, false) else rowT f l
theorem stepT_eq (s : Step) : stepT s = match headT s.axis s.name with | none => (⟨#[]⟩, false) | some h => (h ++ (predsT s.preds).1, (predsT s.preds).2) := by
  cases s; rw [stepT]
theorem argsT_eq : ∀ l : List Pred, argsT l = l.map fun p => (p.kind, heldT p)
  | [] => by rw [argsT]; rfl
  | p :: l => by rw [argsT, argsT_eq l]; rfl
mutual
def nmP : Pred → Prop
  | ⟨_, _, path, args⟩ => (path.length ≤ 1000 ∧ args.length ≤ 1000) ∧ nmSs path ∧ nmPs args
def nmPs : List Pred → Prop
  | [] => True
  | p :: l => nmP p ∧ nmPs l
def nmS : StepOf Pred → Prop
  | ⟨_, _, name, preds⟩ => name.size ≤ 1000 ∧ nmPs preds
def nmSs : List (StepOf Pred) → Prop
  | [] => True
  | s :: l => nmS s ∧ nmSs l
end
theorem nmP_eq (p : Pred) : nmP p ↔ (p.path.length ≤ 1000 ∧ p.args.length ≤ 1000) ∧ nmSs p.path ∧ nmPs p.args := by cases p; rw [nmP]
theorem nmS_eq (s : Step) : nmS s ↔ s.name.size ≤ 1000 ∧ nmPs s.preds := by cases s; rw [nmS]
theorem nmPs_iff : ∀ l : List Pred, nmPs l ↔ ∀ p ∈ l, nmP p
  | [] => by rw [nmPs]; simp
  | p :: l => by rw [nmPs, nmPs_iff l]; simp
theorem nmSs_iff : ∀ l : List Step, nmSs l ↔ ∀ s ∈ l, nmS s
  | [] => by rw [nmSs]; simp
  | s :: l => by rw [nmSs, nmSs_iff l]; simp
end Go.Proofs.YtoanmoddppmffaaGreatDoor.T
