/- What a row's listed variables give the walks: the cell of strconv.ErrRange. -/
import Derived.Test.YtoanmoddppmffaaDoorUQc
import Derived.Test.YtoanmoddppmffaaDoorRows
import Derived.Stop.LaidErr
import Derived.LaidMore
namespace Go.Proofs.YtoanmoddppmffaaDoor.T
open Go.RowKit Go.Shelf
set_option linter.unusedVariables false
set_option maxRecDepth 100000
theorem gRange : Tryd.prog.globalNamed "strconv.ErrRange" = some 4 := by kernel_rfl
theorem tRange : (Tryd.prog.globals[4]?).map (·.type) = some 80 := by kernel_rfl
theorem starErr : "*" ++ "errors.errorString" = "*errors.errorString" := by decide
theorem rowErr (u : TypeId) (h : Tryd.prog.typeName? 3 u = some "*errors.errorString") : u = 114 :=
  typeName_ptr_named (nm := "errors.errorString") (by rw [starErr]; kernel_rfl) (by kernel_rfl) (by decide) u (by rw [starErr]; exact h)
theorem cellsErr : Tryd.prog.cellsOf 116 = 1 := by kernel_rfl
theorem cellsStr : Tryd.prog.cellsOf 9 = 1 := by kernel_rfl
theorem laid_at {P : Program} {l : List (String × DataW Unit)} {w : World} (h : laidMet P l w) (k : Nat) : laidMet P (l.drop k) w := by
  induction k generalizing l with
  | zero => exact h
  | succ k ih =>
    cases l with
    | nil => exact h
    | cons x r => exact ih h.tail
theorem vr_of_laid {l : List (String × DataW Unit)} {W : World} (hL : laidMetH Tryd.prog l W) (hp : l.drop 4 = ("strconv.ErrRange", Rows.laid_strconv_ErrRange) :: l.drop 5) (hpl : laidMetH Tryd.prog l W = laidMet Tryd.prog l W) : Vr W ∧ 4 < W.heap.size := by
  rw [hpl] at hL
  have h4 := laid_at hL 4
  rw [hp] at h4
  obtain ⟨a, s, hv, -, -, -⟩ := laid_sentinel h4 gRange tRange Tryd.underlying80 rowErr Tryd.underlying114 Tryd.underlying116 rfl rfl Tryd.underlying9 cellsErr cellsStr
  have h0 : W.cell? ⟨4, 0, none⟩ = some (.iface 114 (.pointer (some a))) := by have h0 := World.var?_cell gRange hv 0; simpa using h0
  exact ⟨⟨_, h0, .inr ⟨_, _, rfl⟩⟩, World.block_lt_of_cell? _ _ h0⟩
end Go.Proofs.YtoanmoddppmffaaDoor.T
