/- The writer: its flag; what it writes of what must hold. -/
import Derived.Test.YtoanmoddppmffaaGreatDoorKFa
import Derived.Test.YtoanmoddppmffaaGreatDoorKSh
import Derived.Test.YtoanmoddppmffaaGreatDoorKQn
import Derived.Test.YtoanmoddppmffaaGreatDoorKSa
import Derived.Lib.LaidTab
namespace Go.Proofs.YtoanmoddppmffaaGreatDoor.T
open Go.RowKit Go.Shelf Go.Proofs.YtoanmoddppmffaaGreatDoorW.PrintWords
set_option linter.unusedVariables false
set_option linter.unusedSimpArgs false
def Tb (w : World) : Prop := Lib.TabIs Tryz.prog w "internal/strconv.uint64pow10" .u64 Lib.pow10Tab
theorem gTab : Tryz.prog.globalNamed "internal/strconv.uint64pow10" = some 5 := by kernel_rfl
theorem Tb.heap_ {w w' : World} (h : Tb w) (hm : w'.heap[5]? = w.heap[5]?) : Tb w' := by
  unfold Tb Lib.TabIs World.var? at h ⊢
  rw [gTab] at h ⊢
  simp only [Option.bind_some, Option.bind_eq_bind] at h ⊢
  rw [hm]
  exact h
def wrO (b : Bool) : Obj := .cells #[.bool b] 45
def WPost (g : Nat) (b : Bool) (r : Wr) (w : World) (e : Ending) (w' : World) : Prop := e = .returned (.string r.1) ∧ w'.heap[g]? = some (wrO (b || !r.2)) ∧ w.grownBy w' (some g)
set_option maxHeartbeats 1000000 in
set_option maxRecDepth 100000 in
theorem wFails_any (g : Nat) (b : Bool) (w : World) (hg : w.heap[g]? = some (wrO b)) : Calls Tryz.prog 22 #[.pointer (some ⟨g, 0, none⟩)] w (WPost g b (⟨#[]⟩, false) w) := by
  have f0 := blk_frozen hg 0
  have c0 : w.cell? ⟨g, 0, none⟩ = some (.bool b) := (blk_cell hg 0).trans rfl
  have h1 := blk_put hg 0 (.bool true) rfl
  have HG := Aside0.mk h1
  clear hg h1
  go_enter Tryz.func22, Tryz.ntmps22
  go_wp2
  go_ret
  exact ⟨rfl, by rw [Bool.not_false, Bool.or_true]; exact HG.out, gb_set (gb_refl _ _)⟩
end Go.Proofs.YtoanmoddppmffaaGreatDoor.T
