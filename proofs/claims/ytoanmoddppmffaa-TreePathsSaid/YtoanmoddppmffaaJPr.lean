/- TreePaths: whatever the tree, the symbols and the rest, the law returns true, and what came in reads as it did. No condition. -/
import Derived.Test.YtoanmoddppmffaaRows
import Derived.Test.YtoanmoddppmffaaJOp
import Derived.Test.YtoanmoddppmffaaJPt
import Derived.Test.YtoanmoddppmffaaJOi
import Derived.WalkKit
import Derived.ProofKit
import Derived.OpenShut
import Derived.ShutString
import Derived.ChangeOld
import Derived.Below
import Derived.SizedLaws
namespace Go.Proofs.Ytoanmoddppmffaa.treePaths
open Go.ChangeShapes Go.WideShapes Go.ChangeAt Go.RowKit
set_option linter.unusedVariables false
theorem own : ownKnob Try.prog.godebug = none := by kernel_rfl
set_option maxRecDepth 100000 in
theorem lifted (os : Os) (started : os.Started) (H : Type) (enc : TypeId × Value → H) :
    ReturnsInHanded {} Try.checked os 6 .any (Rows.treePathsSpec.pre6 enc Try.prog Try.f6 Rows.treePathsRow.domain false) (Rows.treePathsSpec.post enc Try.prog Try.f6 false true false false) := by
  refine returnsInHanded_of_change_sized (C := Try.checked) own started (by kernel_rfl) Try.func6
    (ChangeSpec.witness6 (enc := enc) (C := Try.checked) false ⟨#[], #[.agg #[.slice none 0 0, .slice none 0 0], .slice none 0 0, .agg #[.bool false, .int .i64 0, .slice none 0 0]], []⟩ 8 (by kernel_rfl) (by kernel_rfl) (by kernel_rfl) (by kernel_rfl)) ?_
  intro W base args ds gs before hval0 hW hcnd hsz0 _
  have hval : ∀ (j : Nat) t v, Try.f6.params[j]? = some t → args[j]? = some v → Value.okWide Try.prog W .any base t v := hval0
  have hW' := hW
  obtain ⟨p, q, hA0, hV, rfl, hfz, hnd⟩ := hW
  have hA : DataW.TrodAll enc Try.prog W 0 (fun _ => true) true Try.f6.params.toList args.toList ds p := hA0
  rw [Try.params6] at hA hval
  obtain ⟨v0, v1, v2, d0, d1, d2, p0, p1, p2, rfl, rfl, rfl, h0, h1, h2⟩ := trodAll_three hA
  obtain ⟨rfl, rfl⟩ := trodVars_none hV
  simp only [List.append_nil, List.append_assoc] at hW'
  have hlt : ∀ x ∈ p0 ++ (p1 ++ p2), x.block < W.heap.size := fun x hx => by simpa using hW'.lt x hx
  obtain ⟨a1, len1, cap1, rfl⟩ := okWide_slice Try.underlying29 (hval 1 29 v1 rfl rfl)
  obtain ⟨fu, hf⟩ := h1
  obtain ⟨A, c, l, e1, hv⟩ := T.open_numbers (show DataW.trod enc Try.prog W 0 (fun _ => true) true fu 29 [.slice a1 len1 cap1] = some (d1, p1) from hf)
  rw [e1] at hW' hf
  rw [e1]
  have h1 : DataW.Trod enc Try.prog W 0 (fun _ => true) true 29 (.slice A l.length c) d1 p1 := ⟨fu, hf⟩
  obtain ⟨A0, c0, l0, A1, c1, l1, rfl, hr0, hc0, hr1, hc1⟩ := T.open_tree (hval 0 25 v0 rfl rfl) h0
  obtain ⟨o, n, A2, c2, l2, rfl, hr2, hc2⟩ := T.open_own (hval 2 45 v2 rfl rfl) h2
  clear hA0 hval0 hsz0
  refine (T.topiarylaw15_TreePaths.calls 700000 A0 c0 l0 A1 c1 l1 (fun _ => True) A c l o n A2 c2 l2 true W hr0 hc0 hr1 hc1 hv hr2 hc2 (T.paths_tells l0 l1 l o n l2) rfl).mono fun e W' ⟨he, bel⟩ => ?_
  subst he
  have k0 := Below.trod T.laidOut (by kernel_rfl) (of_decide_eq_true (by kernel_rfl)) h0 bel (fun x hx => hlt x (List.mem_append.2 (.inl hx)))
  have k1 := Below.trod T.laidOut (by kernel_rfl) (of_decide_eq_true (by kernel_rfl)) h1 bel (fun x hx => hlt x (List.mem_append.2 (.inr (List.mem_append.2 (.inl hx)))))
  have k2 := Below.trod T.laidOut (by kernel_rfl) (of_decide_eq_true (by kernel_rfl)) h2 bel (fun x hx => hlt x (List.mem_append.2 (.inr (List.mem_append.2 (.inr hx)))))
  exact ⟨_, rfl, _, _, _, [], _, [], hW', trodAll_mk1 (shut_bool Try.underlying4 _), trodAll_mk3 k0 k1 k2, rfl, bel.frame _, fun h => by cases h⟩
theorem over : Rows.treePathsRow.holds Try.pinned (OpenSpec.ofChange Rows.treePathsSpec) :=
  OpenClaim.holds_of_wide 6 Try.f6 rfl rfl rfl rfl rfl rfl rfl ⟨rfl, rfl, rfl, rfl, rfl⟩ rfl rfl rfl rfl rfl (by kernel_rfl) Try.func6 (by kernel_rfl)
    (of_decide_eq_true (by kernel_rfl)) (by unfold Func.isWrapper; first | (rw [if_pos (by decide +kernel)]; kernel_rfl) | (rw [if_neg (by decide +kernel)]; exact ⟨rfl, rfl⟩))
    (fun os started H enc _ => lifted os started H enc)
theorem proved : Rows.TreePathsSaid := over
end Go.Proofs.Ytoanmoddppmffaa.treePaths
namespace Go.Proofs.Ytoanmoddppmffaa
theorem treePaths_holds : Rows.TreePathsSaid := treePaths.proved
end Go.Proofs.Ytoanmoddppmffaa
