/- TreeAround: whatever the tree and the number, the law returns true, and what came in reads as it did. No condition. -/
import Derived.Test.YtoanmoddppmffaaRows
import Derived.Test.YtoanmoddppmffaaBOp
import Derived.Test.YtoanmoddppmffaaBPd
import Derived.WalkKit
import Derived.ProofKit
import Derived.OpenShut
import Derived.ShutString
import Derived.ChangeOld
import Derived.Below
import Derived.SizedLaws
namespace Go.Proofs.Ytoanmoddppmffaa.treeAround
open Go.ChangeShapes Go.WideShapes Go.ChangeAt Go.RowKit
set_option linter.unusedVariables false
theorem own : ownKnob Try.prog.godebug = none := by kernel_rfl
set_option maxRecDepth 100000 in
theorem lifted (os : Os) (started : os.Started) (H : Type) (enc : TypeId × Value → H) :
    ReturnsInHanded {} Try.checked os 4 .any (Rows.treeAroundSpec.pre6 enc Try.prog Try.f4 Rows.treeAroundRow.domain false) (Rows.treeAroundSpec.post enc Try.prog Try.f4 false true false false) := by
  refine returnsInHanded_of_change_sized (C := Try.checked) own started (by kernel_rfl) Try.func4
    (ChangeSpec.witness6 (enc := enc) (C := Try.checked) false ⟨#[], #[.agg #[.slice none 0 0, .slice none 0 0], .int .i64 0], []⟩ 8 (by kernel_rfl) (by kernel_rfl) (by kernel_rfl) (by kernel_rfl)) ?_
  intro W base args ds gs before hval0 hW hcnd hsz0 _
  have hval : ∀ (j : Nat) t v, Try.f4.params[j]? = some t → args[j]? = some v → Value.okWide Try.prog W .any base t v := hval0
  have hW' := hW
  obtain ⟨p, q, hA0, hV, rfl, hfz, hnd⟩ := hW
  have hA : DataW.TrodAll enc Try.prog W 0 (fun _ => true) true Try.f4.params.toList args.toList ds p := hA0
  rw [Try.params4] at hA hval
  obtain ⟨v0, v1, d0, d1, p0, p1, rfl, rfl, rfl, h0, h1⟩ := trodAll_two hA
  obtain ⟨rfl, rfl⟩ := trodVars_none hV
  simp only [List.append_nil] at hW'
  have hlt : ∀ x ∈ p0 ++ p1, x.block < W.heap.size := fun x hx => by simpa using hW'.lt x hx
  obtain ⟨A0, c0, l0, A1, c1, l1, rfl, hr0, hc0, hr1, hc1⟩ := T.open_tree (hval 0 25 v0 rfl rfl) h0
  obtain ⟨a, rfl, rfl, rfl, y1⟩ := open_int Try.underlying3 (hval 1 3 v1 rfl rfl) h1
  clear hA0 hval0 hsz0
  refine (T.topiarylaw15_TreeAround.calls (198 + 2) A0 c0 l0 A1 c1 l1 a true W hr0 hc0 hr1 hc1 (T.around_tells l0 l1 a)).mono fun e W' ⟨he, bel⟩ => ?_
  subst he
  have k0 := Below.trod T.laidOut (by kernel_rfl) (of_decide_eq_true (by kernel_rfl)) h0 bel (fun x hx => hlt x (List.mem_append.2 (.inl hx)))
  exact ⟨_, rfl, _, _, _, [], _, [], hW', trodAll_mk1 (shut_bool Try.underlying4 _), trodAll_mk2 k0 (shut_int Try.underlying3 y1), rfl, bel.frame _, fun h => by cases h⟩
theorem over : Rows.treeAroundRow.holds Try.pinned (OpenSpec.ofChange Rows.treeAroundSpec) :=
  OpenClaim.holds_of_wide 4 Try.f4 rfl rfl rfl rfl rfl rfl rfl ⟨rfl, rfl, rfl, rfl, rfl⟩ rfl rfl rfl rfl rfl (by kernel_rfl) Try.func4 (by kernel_rfl)
    (of_decide_eq_true (by kernel_rfl)) (by unfold Func.isWrapper; first | (rw [if_pos (by decide +kernel)]; kernel_rfl) | (rw [if_neg (by decide +kernel)]; exact ⟨rfl, rfl⟩))
    (fun os started H enc _ => lifted os started H enc)
theorem proved : Rows.TreeAroundSaid := over
end Go.Proofs.Ytoanmoddppmffaa.treeAround
namespace Go.Proofs.Ytoanmoddppmffaa
theorem treeAround_holds : Rows.TreeAroundSaid := treeAround.proved
end Go.Proofs.Ytoanmoddppmffaa
