/- Plain laws on trees: what the reference's symbols, parents and children come to, and that the small tree is small. -/
import Derived.Test.YtoanmoddppmffaaCTx14
import Derived.Test.YtoanmoddppmffaaCTx15
import Derived.Test.YtoanmoddppmffaaCTx16
import Derived.Test.YtoanmoddppmffaaCTx17
import Derived.KernelRfl
namespace Go.Proofs.Ytoanmoddppmffaa.T
open Go.RowKit Go.Proofs.YtoanmoddppmffaaW.PrintWords Go.Proofs.YtoanmoddppmffaaW.PrintLast Go.Proofs.YtoanmoddppmffaaW.PrintMore
theorem wrap_id {x : Int} (h0 : -9223372036854775808 ≤ x) (h1 : x ≤ 9223372036854775807) : wrap64 x = x := by unfold wrap64; omega
def kidsOf (l1 : List S52) (i : Int) : List Int := if 0 ≤ i then kidsTo l1 i l1.length else []
theorem children_tells (l0 : List ByteArray) (l1 : List S52) (i : Int) (hl : l1.length < 17592186044416) : tree_Children.f l0 l1 i = some (kidsOf l1 i) := by
  unfold tree_Children.f kidsOf
  rw [if_pos hl]
theorem kidsOf_length (l1 : List S52) (i : Int) : (kidsOf l1 i).length ≤ l1.length := by
  unfold kidsOf
  split
  · exact kidsTo_length _ _ _
  · simp
theorem rd_get (l : List Int) (j : Nat) : rd l (j : Int) = l.getD j 0 := rfl
theorem degree_tells (l0 : List ByteArray) (l1 : List S52) (i : Int) (hl : l1.length < 17592186044416) : tree_Degree.f l0 l1 i = some ((kidsOf l1 i).length : Int) := by
  unfold tree_Degree.f
  rw [children_tells _ _ _ hl]; rfl
def leafOf (l1 : List S52) (i : Int) : Bool := if i ≥ 0 then (if i < (l1.length : Int) then (((kidsOf l1 i).length : Int) == 0) else false) else false
theorem leaf_tells (l0 : List ByteArray) (l1 : List S52) (i : Int) (hl : l1.length < 17592186044416) : tree_Leaf.f l0 l1 i = some (leafOf l1 i) := by
  unfold tree_Leaf.f leafOf
  by_cases h0 : i ≥ 0
  · rw [if_pos h0, if_pos h0]
    by_cases h1 : i < (l1.length : Int)
    · rw [if_pos h1, if_pos h1, degree_tells _ _ _ hl]; rfl
    · rw [if_neg h1, if_neg h1]
  · rw [if_neg h0, if_neg h0]
end Go.Proofs.Ytoanmoddppmffaa.T
