/- What a row's listed variables give the writer: the start. -/
import Derived.Test.YtoanmoddppmffaaGreatDoorKLa
import Derived.Test.YtoanmoddppmffaaGreatDoorKFi
namespace Go.Proofs.YtoanmoddppmffaaGreatDoor.T
open Go.RowKit Go.Shelf
set_option linter.unusedVariables false
set_option maxRecDepth 100000
theorem tTab : (Tryz.prog.globals[5]?).map (·.type) = some 144 := by kernel_rfl
theorem cTab1 : Tryz.prog.cellsOf 125 = 1 := by kernel_rfl
theorem cTab2 : Tryz.prog.cellsOf 144 = 20 := by kernel_rfl
theorem dTab : (Rows.laid_internal_strconv_uint64pow10 : DataW Unit) = Lib.tabData .u64 Lib.pow10Tab := by kernel_rfl
theorem st_of_laid {l : List (String × DataW Unit)} {W : World} (hL : laidMetH Tryz.prog l W) (hp : l.drop 4 = ("strconv.ErrRange", Rows.laid_strconv_ErrRange) :: l.drop 5) (hq : l.drop 2 = ("internal/strconv.uint64pow10", Rows.laid_internal_strconv_uint64pow10) :: l.drop 3)
    (hpl : laidMetH Tryz.prog l W = laidMet Tryz.prog l W) : St W := by
  obtain ⟨h1, h2⟩ := vr_of_laid hL hp hpl
  rw [hpl] at hL
  have h3 := laid_at hL 2
  rw [hq, dTab] at h3
  have ht : Tb W := Lib.tabIs_of_head gTab tTab Tryz.underlying144 Tryz.underlying125 cTab1 cTab2 h3
  have hc := Lib.TabIs.cell ht gTab 0 (by decide)
  exact ⟨h1, h2, ht, World.block_lt_of_cell? _ _ hc⟩
end Go.Proofs.YtoanmoddppmffaaGreatDoor.T
