/-
  No cell of these rows narrows 'for every input' (looked for: loops, veiled, ifaces, maps, wideKeys, modest, calm, conditions, laid).
  DERIVED. THE GIVEN ROWS OF THIS SEAT. 6 by the template 'for every input the law returns true; each argument reads behind the call as it read before'; 0 by the template 'total and deterministic' (their statements: YtoanmoddppmffaaTotals.lean).
  GIVEN WITH THE SEED: the statements are not yours to turn. If you find one false, say at which input.
  Laid BY PROGRAM, IN A SANDBOX (cutbox-rows.mjs): the forced cells as the released guide's own fill.sh prints them over the translation 1480462f3a8ea232… (all of the seat's roots in one cut). By AI agents, Wed Nov 11 2026. No macro, syntax, notation, axiom, sorry.
-/
import Derived.Test.YtoanmoddppmffaaChecked
import GoSem.Claim
import GoSem.ClaimJoined
import GoSem.ClaimMapViews
import Derived.JoinedTies
import Derived.KernelRfl
namespace Go.Proofs.Ytoanmoddppmffaa
/- THE CELL 'sum', in the pinned program and in every row, IS THE sha256 OF THE DUMP (.gsa) THAT YtoanmoddppmffaaProg.lean LOADS. Nothing in Lean hashes anything: it is a label: what it is worth is what the hold of that sum in a sandbox is worth. -/
noncomputable def Try.pinned : Pinned := { name := "ytoanmoddppmffaa", sum := "1480462f3a8ea2328ff4956b75633adf212a94ca406e623bbc7e526332f2f6e1", checked := Try.checked }
namespace Rows
def none {H : Type} : Left H := { results := [], args := [] }

/-- 'topiarylaw15.TreeNodes': WHATEVER THE INPUT: true; the input reads as it did. -/
def treeNodesSpec : ChangeSpec := { name := "treeNodes", fn := fun _ => fun
  | [d1, d2] => { results := [.lit (.bool true)], args := [d1, d2] }
  | _ => none }
def treeNodesRow : OpenClaim := { program := "ytoanmoddppmffaa", sum := "1480462f3a8ea2328ff4956b75633adf212a94ca406e623bbc7e526332f2f6e1", func := "topiary/topiarylaw15.TreeNodes", spec := "treeNodes", unfollowed := true, recurses := true, apart := false }
def TreeNodesSaid : Prop := treeNodesRow.holds Try.pinned (OpenSpec.ofChange treeNodesSpec)

/-- ITS FALSE NEIGHBOUR: 'it returns false'. Refute it at one input. -/
def treeNodesWrong : ChangeSpec := { name := "treeNodes", fn := fun _ => fun
  | [d1, d2] => { results := [.lit (.bool false)], args := [d1, d2] }
  | _ => none }
def TreeNodesWrongFalsely : Prop := treeNodesRow.holds Try.pinned (OpenSpec.ofChange treeNodesWrong)

/-- 'topiarylaw15.TreeAround': WHATEVER THE INPUT: true; the input reads as it did. -/
def treeAroundSpec : ChangeSpec := { name := "treeAround", fn := fun _ => fun
  | [d1, d2] => { results := [.lit (.bool true)], args := [d1, d2] }
  | _ => none }
def treeAroundRow : OpenClaim := { program := "ytoanmoddppmffaa", sum := "1480462f3a8ea2328ff4956b75633adf212a94ca406e623bbc7e526332f2f6e1", func := "topiary/topiarylaw15.TreeAround", spec := "treeAround", unfollowed := true, recurses := true, apart := false }
def TreeAroundSaid : Prop := treeAroundRow.holds Try.pinned (OpenSpec.ofChange treeAroundSpec)

/-- ITS FALSE NEIGHBOUR: 'it returns false'. Refute it at one input. -/
def treeAroundWrong : ChangeSpec := { name := "treeAround", fn := fun _ => fun
  | [d1, d2] => { results := [.lit (.bool false)], args := [d1, d2] }
  | _ => none }
def TreeAroundWrongFalsely : Prop := treeAroundRow.holds Try.pinned (OpenSpec.ofChange treeAroundWrong)

/-- 'topiarylaw15.TreeCounts': WHATEVER THE INPUT: true; the input reads as it did. -/
def treeCountsSpec : ChangeSpec := { name := "treeCounts", fn := fun _ => fun
  | [d] => { results := [.lit (.bool true)], args := [d] }
  | _ => none }
def treeCountsRow : OpenClaim := { program := "ytoanmoddppmffaa", sum := "1480462f3a8ea2328ff4956b75633adf212a94ca406e623bbc7e526332f2f6e1", func := "topiary/topiarylaw15.TreeCounts", spec := "treeCounts", unfollowed := true, recurses := true, apart := false }
def TreeCountsSaid : Prop := treeCountsRow.holds Try.pinned (OpenSpec.ofChange treeCountsSpec)

/-- ITS FALSE NEIGHBOUR: 'it returns false'. Refute it at one input. -/
def treeCountsWrong : ChangeSpec := { name := "treeCounts", fn := fun _ => fun
  | [d] => { results := [.lit (.bool false)], args := [d] }
  | _ => none }
def TreeCountsWrongFalsely : Prop := treeCountsRow.holds Try.pinned (OpenSpec.ofChange treeCountsWrong)

/-- 'topiarylaw15.TreePaths': WHATEVER THE INPUT: true; the input reads as it did. -/
def treePathsSpec : ChangeSpec := { name := "treePaths", fn := fun _ => fun
  | [d1, d2, d3] => { results := [.lit (.bool true)], args := [d1, d2, d3] }
  | _ => none }
def treePathsRow : OpenClaim := { program := "ytoanmoddppmffaa", sum := "1480462f3a8ea2328ff4956b75633adf212a94ca406e623bbc7e526332f2f6e1", func := "topiary/topiarylaw15.TreePaths", spec := "treePaths", unfollowed := true, recurses := true, apart := false }
def TreePathsSaid : Prop := treePathsRow.holds Try.pinned (OpenSpec.ofChange treePathsSpec)

/-- ITS FALSE NEIGHBOUR: 'it returns false'. Refute it at one input. -/
def treePathsWrong : ChangeSpec := { name := "treePaths", fn := fun _ => fun
  | [d1, d2, d3] => { results := [.lit (.bool false)], args := [d1, d2, d3] }
  | _ => none }
def TreePathsWrongFalsely : Prop := treePathsRow.holds Try.pinned (OpenSpec.ofChange treePathsWrong)

/-- 'topiarylaw15.TreeParts': WHATEVER THE INPUT: true; the input reads as it did. -/
def treePartsSpec : ChangeSpec := { name := "treeParts", fn := fun _ => fun
  | [d1, d2] => { results := [.lit (.bool true)], args := [d1, d2] }
  | _ => none }
def treePartsRow : OpenClaim := { program := "ytoanmoddppmffaa", sum := "1480462f3a8ea2328ff4956b75633adf212a94ca406e623bbc7e526332f2f6e1", func := "topiary/topiarylaw15.TreeParts", spec := "treeParts", unfollowed := true, recurses := true, apart := false }
def TreePartsSaid : Prop := treePartsRow.holds Try.pinned (OpenSpec.ofChange treePartsSpec)

/-- ITS FALSE NEIGHBOUR: 'it returns false'. Refute it at one input. -/
def treePartsWrong : ChangeSpec := { name := "treeParts", fn := fun _ => fun
  | [d1, d2] => { results := [.lit (.bool false)], args := [d1, d2] }
  | _ => none }
def TreePartsWrongFalsely : Prop := treePartsRow.holds Try.pinned (OpenSpec.ofChange treePartsWrong)

/-- 'topiarylaw15.TreeOwn': WHATEVER THE INPUT: true; the input reads as it did. -/
def treeOwnSpec : ChangeSpec := { name := "treeOwn", fn := fun _ => fun
  | [d1, d2] => { results := [.lit (.bool true)], args := [d1, d2] }
  | _ => none }
def treeOwnRow : OpenClaim := { program := "ytoanmoddppmffaa", sum := "1480462f3a8ea2328ff4956b75633adf212a94ca406e623bbc7e526332f2f6e1", func := "topiary/topiarylaw15.TreeOwn", spec := "treeOwn", unfollowed := true, recurses := true, apart := false }
def TreeOwnSaid : Prop := treeOwnRow.holds Try.pinned (OpenSpec.ofChange treeOwnSpec)

/-- ITS FALSE NEIGHBOUR: 'it returns false'. Refute it at one input. -/
def treeOwnWrong : ChangeSpec := { name := "treeOwn", fn := fun _ => fun
  | [d1, d2] => { results := [.lit (.bool false)], args := [d1, d2] }
  | _ => none }
def TreeOwnWrongFalsely : Prop := treeOwnRow.holds Try.pinned (OpenSpec.ofChange treeOwnWrong)

/- THE SECOND FORM. 'bulk': how many values and letters a reading holds, each counted each time it is reached (what is shared counts as often as it is met; a slice's spare places count too). A statement '..UptoSaid' is the law's where the arguments, and the package variables that the reading takes, are together of bulk at most 1048576: NARROWER than '..Said'. Prove '..Said' where nothing that the law and all that it calls make is longer than what came in: it says more and counts as full. Else prove '..UptoSaid'. A law counts once. -/
mutual
def uptoBulk {H : Type} : DataW H → Nat
  | .lit (.string bytes) => bytes.length + 1
  | .lit _ => 1
  | .nil => 1
  | .ptr d => uptoBulk d + 1
  | .slice elems spare => uptoBulkAll elems + uptoBulkAll spare + 1
  | .agg parts => uptoBulkAll parts + 1
  | .iface _ d => uptoBulk d + 1
  | .map entries => uptoBulkEntries entries + 1
  | .held _ => 1
def uptoBulkAll {H : Type} : List (DataW H) → Nat
  | [] => 0
  | d :: r => uptoBulk d + uptoBulkAll r
def uptoBulkEntries {H : Type} : List (Lit × DataW H) → Nat
  | [] => 0
  | x :: r => uptoBulkEntry x + uptoBulkEntries r
def uptoBulkEntry {H : Type} : Lit × DataW H → Nat
  | (.string bytes, d) => bytes.length + uptoBulk d + 1
  | (_, d) => uptoBulk d + 1
 end
def uptoSmall : (H : Type) → List (DataW H) → Bool := fun _ ds => decide (uptoBulkAll ds ≤ 1048576)
def OpenSpec.upto (s : _root_.Go.ChangeSpec) : _root_.Go.OpenSpec := { _root_.Go.OpenSpec.ofChange s with cond := some uptoSmall }

/-- 'topiarylaw15.TreeNodes', WHERE WHAT IT READS IS OF BULK AT MOST 1048576: true; the input reads as it did. -/
def treeNodesUptoRow : OpenClaim := { program := "ytoanmoddppmffaa", sum := "1480462f3a8ea2328ff4956b75633adf212a94ca406e623bbc7e526332f2f6e1", func := "topiary/topiarylaw15.TreeNodes", spec := "treeNodes", unfollowed := true, recurses := true, apart := false, narrowed := true }
def TreeNodesUptoSaid : Prop := treeNodesUptoRow.holds Try.pinned (OpenSpec.upto treeNodesSpec)

/-- 'topiarylaw15.TreeAround', WHERE WHAT IT READS IS OF BULK AT MOST 1048576: true; the input reads as it did. -/
def treeAroundUptoRow : OpenClaim := { program := "ytoanmoddppmffaa", sum := "1480462f3a8ea2328ff4956b75633adf212a94ca406e623bbc7e526332f2f6e1", func := "topiary/topiarylaw15.TreeAround", spec := "treeAround", unfollowed := true, recurses := true, apart := false, narrowed := true }
def TreeAroundUptoSaid : Prop := treeAroundUptoRow.holds Try.pinned (OpenSpec.upto treeAroundSpec)

/-- 'topiarylaw15.TreeCounts', WHERE WHAT IT READS IS OF BULK AT MOST 1048576: true; the input reads as it did. -/
def treeCountsUptoRow : OpenClaim := { program := "ytoanmoddppmffaa", sum := "1480462f3a8ea2328ff4956b75633adf212a94ca406e623bbc7e526332f2f6e1", func := "topiary/topiarylaw15.TreeCounts", spec := "treeCounts", unfollowed := true, recurses := true, apart := false, narrowed := true }
def TreeCountsUptoSaid : Prop := treeCountsUptoRow.holds Try.pinned (OpenSpec.upto treeCountsSpec)

/-- 'topiarylaw15.TreePaths', WHERE WHAT IT READS IS OF BULK AT MOST 1048576: true; the input reads as it did. -/
def treePathsUptoRow : OpenClaim := { program := "ytoanmoddppmffaa", sum := "1480462f3a8ea2328ff4956b75633adf212a94ca406e623bbc7e526332f2f6e1", func := "topiary/topiarylaw15.TreePaths", spec := "treePaths", unfollowed := true, recurses := true, apart := false, narrowed := true }
def TreePathsUptoSaid : Prop := treePathsUptoRow.holds Try.pinned (OpenSpec.upto treePathsSpec)

/-- 'topiarylaw15.TreeParts', WHERE WHAT IT READS IS OF BULK AT MOST 1048576: true; the input reads as it did. -/
def treePartsUptoRow : OpenClaim := { program := "ytoanmoddppmffaa", sum := "1480462f3a8ea2328ff4956b75633adf212a94ca406e623bbc7e526332f2f6e1", func := "topiary/topiarylaw15.TreeParts", spec := "treeParts", unfollowed := true, recurses := true, apart := false, narrowed := true }
def TreePartsUptoSaid : Prop := treePartsUptoRow.holds Try.pinned (OpenSpec.upto treePartsSpec)

/-- 'topiarylaw15.TreeOwn', WHERE WHAT IT READS IS OF BULK AT MOST 1048576: true; the input reads as it did. -/
def treeOwnUptoRow : OpenClaim := { program := "ytoanmoddppmffaa", sum := "1480462f3a8ea2328ff4956b75633adf212a94ca406e623bbc7e526332f2f6e1", func := "topiary/topiarylaw15.TreeOwn", spec := "treeOwn", unfollowed := true, recurses := true, apart := false, narrowed := true }
def TreeOwnUptoSaid : Prop := treeOwnUptoRow.holds Try.pinned (OpenSpec.upto treeOwnSpec)

end Rows
end Go.Proofs.Ytoanmoddppmffaa
