/- TreeNodes: whatever the tree and the three numbers, the law returns true, and what came in reads as it did. No condition. -/
import Derived.Test.YtoanmoddppmffaaRows
import Derived.Test.YtoanmoddppmffaaAOp
import Derived.Test.YtoanmoddppmffaaAPb
import Derived.WalkKit
import Derived.ProofKit
import Derived.OpenShut
import Derived.ShutString
import Derived.ChangeOld
import Derived.Below
import Derived.SizedLaws
namespace Go.Proofs.Ytoanmoddppmffaa.treeNodes
open Go.ChangeShapes Go.WideShapes Go.ChangeAt Go.RowKit
set_option linter.unusedVariables false
theorem own : ownKnob Try.prog.godebug = none := by kernel_rfl
set_option maxRecDepth 100000 in
theorem lifted (os : Os) (started : os.Started) (H : Type) (enc : TypeId × Value → H) :
    ReturnsInHanded {} Try.checked os 3 .any (Rows.treeNodesSpec.pre6 enc Try.prog Try.f3 Rows.treeNodesRow.domain false) (Rows.treeNodesSpec.post enc Try.prog Try.f3 false true false false) := by
  refine returnsInHanded_of_change_sized (C := Try.checked) own started (by kernel_rfl) Try.func3
    (ChangeSpec.witness6 (enc := enc) (C := Try.checked) false ⟨#[], #[.agg #[.slice none 0 0, .slice none 0 0], .agg #[.int .i64 0, .int .i64 0, .int .i64 0]], []⟩ 8 (by kernel_rfl) (by kernel_rfl) (by kernel_rfl) (by kernel_rfl)) ?_
  intro W base args ds gs before hval0 hW hcnd hsz0 _
  have hval : ∀ (j : Nat) t v, Try.f3.params[j]? = some t → args[j]? = some v → Value.okWide Try.prog W .any base t v := hval0
  have hW' := hW
  obtain ⟨p, q, hA0, hV, rfl, hfz, hnd⟩ := hW
  have hA : DataW.TrodAll enc Try.prog W 0 (fun _ => true) true Try.f3.params.toList args.toList ds p := hA0
  rw [Try.params3] at hA hval
  obtain ⟨v0, v1, d0, d1, p0, p1, rfl, rfl, rfl, h0, h1⟩ := trodAll_two hA
  obtain ⟨rfl, rfl⟩ := trodVars_none hV
  simp only [List.append_nil] at hW'
  have hlt : ∀ x ∈ p0 ++ p1, x.block < W.heap.size := fun x hx => by simpa using hW'.lt x hx
  obtain ⟨A0, c0, l0, A1, c1, l1, rfl, hr0, hc0, hr1, hc1⟩ := T.open_tree (hval 0 25 v0 rfl rfl) h0
  obtain ⟨a, b, c, rfl, hb0, hb1⟩ := T.open_three (hval 1 26 v1 rfl rfl) h1
  clear hA0 hval0 hsz0
  refine (T.topiarylaw15_TreeNodes.calls (198 + 2) A0 c0 l0 A1 c1 l1 a b c true W hr0 hc0 hr1 hc1 (T.nodes_tells l0 l1 a b c hb0 hb1) rfl).mono fun e W' ⟨he, bel⟩ => ?_
  subst he
  have k0 := Below.trod T.laidOut (by kernel_rfl) (of_decide_eq_true (by kernel_rfl)) h0 bel (fun x hx => hlt x (List.mem_append.2 (.inl hx)))
  have k1 := Below.trod T.laidOut (by kernel_rfl) (of_decide_eq_true (by kernel_rfl)) h1 bel (fun x hx => hlt x (List.mem_append.2 (.inr hx)))
  exact ⟨_, rfl, _, _, _, [], _, [], hW', trodAll_mk1 (shut_bool Try.underlying4 _), trodAll_mk2 k0 k1, rfl, bel.frame _, fun h => by cases h⟩
theorem over : Rows.treeNodesRow.holds Try.pinned (OpenSpec.ofChange Rows.treeNodesSpec) :=
  OpenClaim.holds_of_wide 3 Try.f3 rfl rfl rfl rfl rfl rfl rfl ⟨rfl, rfl, rfl, rfl, rfl⟩ rfl rfl rfl rfl rfl (by kernel_rfl) Try.func3 (by kernel_rfl)
    (of_decide_eq_true (by kernel_rfl)) (by unfold Func.isWrapper; first | (rw [if_pos (by decide +kernel)]; kernel_rfl) | (rw [if_neg (by decide +kernel)]; exact ⟨rfl, rfl⟩))
    (fun os started H enc _ => lifted os started H enc)
theorem proved : Rows.TreeNodesSaid := over
end Go.Proofs.Ytoanmoddppmffaa.treeNodes
namespace Go.Proofs.Ytoanmoddppmffaa
theorem treeNodes_holds : Rows.TreeNodesSaid := treeNodes.proved
end Go.Proofs.Ytoanmoddppmffaa
