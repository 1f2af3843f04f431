/- What a row's listed variables give the walks: the cell of strconv.ErrRange. -/
import Derived.Test.YtoanmoddppmffaaGreatDoorKQc
import Derived.Test.YtoanmoddppmffaaGreatDoorRows
import Derived.Stop.LaidErr
import Derived.LaidMore
namespace Go.Proofs.YtoanmoddppmffaaGreatDoor.T
open Go.RowKit Go.Shelf
set_option linter.unusedVariables false
set_option maxRecDepth 100000
theorem gRange : Tryz.prog.globalNamed "strconv.ErrRange" = some 4 := by kernel_rfl
theorem tRange : (Tryz.prog.globals[4]?).map (·.type) = some 60 := by kernel_rfl
theorem starErr : "*" ++ "errors.errorString" = "*errors.errorString" := by decide
theorem rowErr (u : TypeId) (h : Tryz.prog.typeName? 3 u = some "*errors.errorString") : u = 149 :=
  typeName_ptr_named (nm := "errors.errorString") (by rw [starErr]; kernel_rfl) (by kernel_rfl) (by decide) u (by rw [starErr]; exact h)
theorem cellsErr : Tryz.prog.cellsOf 151 = 1 := by kernel_rfl
theorem cellsStr : Tryz.prog.cellsOf 9 = 1 := by kernel_rfl
theorem laid_at {P : Program} {l : List (String × DataW Unit)} {w : World} (h : laidMet P l w) (k : Nat) : laidMet P (l.drop k) w := by
  induction k generalizing l with
  | zero => exact h
  | succ k ih =>
    cases l with
    | nil => exact h
    | cons x r => exact ih h.tail
theorem vr_of_laid {l : List (String × DataW Unit)} {W : World} (hL : laidMetH Tryz.prog l W) (hp : l.drop 4 = ("strconv.ErrRange", Rows.laid_strconv_ErrRange) :: l.drop 5) (hpl : laidMetH Tryz.prog l W = laidMet Tryz.prog l W) : Vr W ∧ 4 < W.heap.size := by
  rw [hpl] at hL
  have h4 := laid_at hL 4
  rw [hp] at h4
  obtain ⟨a, s, hv, -, -, -⟩ := laid_sentinel h4 gRange tRange Tryz.underlying60 rowErr Tryz.underlying149 Tryz.underlying151 rfl rfl Tryz.underlying9 cellsErr cellsStr
  have h0 : W.cell? ⟨4, 0, none⟩ = some (.iface 149 (.pointer (some a))) := by have h0 := World.var?_cell gRange hv 0; simpa using h0
  exact ⟨⟨_, h0, .inr ⟨_, _, rfl⟩⟩, World.block_lt_of_cell? _ _ h0⟩
end Go.Proofs.YtoanmoddppmffaaGreatDoor.T
