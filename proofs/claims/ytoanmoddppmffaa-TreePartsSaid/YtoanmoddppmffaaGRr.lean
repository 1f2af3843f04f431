/- TreeParts: whatever the text and the symbols, the law returns true, and what came in reads as it did. No condition. -/
import Derived.Test.YtoanmoddppmffaaRows
import Derived.Test.YtoanmoddppmffaaGOp
import Derived.Test.YtoanmoddppmffaaGPs
import Derived.Test.YtoanmoddppmffaaGOi
import Derived.WalkKit
import Derived.ProofKit
import Derived.OpenShut
import Derived.ShutString
import Derived.ChangeOld
import Derived.Below
import Derived.SizedLaws
namespace Go.Proofs.Ytoanmoddppmffaa.treeParts
open Go.ChangeShapes Go.WideShapes Go.ChangeAt Go.RowKit
set_option linter.unusedVariables false
theorem own : ownKnob Try.prog.godebug = none := by kernel_rfl
set_option maxRecDepth 100000 in
theorem lifted (os : Os) (started : os.Started) (H : Type) (enc : TypeId × Value → H) :
    ReturnsInHanded {} Try.checked os 7 .any (Rows.treePartsSpec.pre6 enc Try.prog Try.f7 Rows.treePartsRow.domain false) (Rows.treePartsSpec.post enc Try.prog Try.f7 false true false false) := by
  refine returnsInHanded_of_change_sized (C := Try.checked) own started (by kernel_rfl) Try.func7
    (ChangeSpec.witness6 (enc := enc) (C := Try.checked) false ⟨#[], #[.string ByteArray.empty, .slice none 0 0], []⟩ 8 (by kernel_rfl) (by kernel_rfl) (by kernel_rfl) (by kernel_rfl)) ?_
  intro W base args ds gs before hval0 hW hcnd hsz0 _
  have hval : ∀ (j : Nat) t v, Try.f7.params[j]? = some t → args[j]? = some v → Value.okWide Try.prog W .any base t v := hval0
  have hW' := hW
  obtain ⟨p, q, hA0, hV, rfl, hfz, hnd⟩ := hW
  have hA : DataW.TrodAll enc Try.prog W 0 (fun _ => true) true Try.f7.params.toList args.toList ds p := hA0
  rw [Try.params7] at hA hval
  obtain ⟨v0, v1, d0, d1, p0, p1, rfl, rfl, rfl, h0, h1⟩ := trodAll_two hA
  obtain ⟨rfl, rfl⟩ := trodVars_none hV
  simp only [List.append_nil] at hW'
  have hlt : ∀ x ∈ p0 ++ p1, x.block < W.heap.size := fun x hx => by simpa using hW'.lt x hx
  obtain ⟨a1, len1, cap1, rfl⟩ := okWide_slice Try.underlying29 (hval 1 29 v1 rfl rfl)
  obtain ⟨fu, hf⟩ := h1
  obtain ⟨A, c, l, e1, hv⟩ := T.open_numbers (show DataW.trod enc Try.prog W 0 (fun _ => true) true fu 29 [.slice a1 len1 cap1] = some (d1, p1) from hf)
  rw [e1] at hW' hf
  rw [e1]
  have h1 : DataW.Trod enc Try.prog W 0 (fun _ => true) true 29 (.slice A l.length c) d1 p1 := ⟨fu, hf⟩
  obtain ⟨a0, rfl, rfl, rfl, y0⟩ := Go.ChangeMaps.open_string Try.underlying9 (hval 0 9 v0 rfl rfl) h0
  clear hA0 hval0 hsz0
  refine (T.topiarylaw15_TreeParts.calls 700000 a0 (fun _ => True) A c l true W hv (T.parts_tells a0 l) rfl).mono fun e W' ⟨he, bel⟩ => ?_
  subst he
  have k1 := Below.trod T.laidOut (by kernel_rfl) (of_decide_eq_true (by kernel_rfl)) h1 bel (fun x hx => hlt x (List.mem_append.2 (.inr hx)))
  exact ⟨_, rfl, _, _, _, [], _, [], hW', trodAll_mk1 (shut_bool Try.underlying4 _), trodAll_mk2 (Go.ChangeMaps.shut_string Try.underlying9 y0) k1, rfl, bel.frame _, fun h => by cases h⟩
theorem over : Rows.treePartsRow.holds Try.pinned (OpenSpec.ofChange Rows.treePartsSpec) :=
  OpenClaim.holds_of_wide 7 Try.f7 rfl rfl rfl rfl rfl rfl rfl ⟨rfl, rfl, rfl, rfl, rfl⟩ rfl rfl rfl rfl rfl (by kernel_rfl) Try.func7 (by kernel_rfl)
    (of_decide_eq_true (by kernel_rfl)) (by unfold Func.isWrapper; first | (rw [if_pos (by decide +kernel)]; kernel_rfl) | (rw [if_neg (by decide +kernel)]; exact ⟨rfl, rfl⟩))
    (fun os started H enc _ => lifted os started H enc)
theorem proved : Rows.TreePartsSaid := over
end Go.Proofs.Ytoanmoddppmffaa.treeParts
namespace Go.Proofs.Ytoanmoddppmffaa
theorem treeParts_holds : Rows.TreePartsSaid := treeParts.proved
end Go.Proofs.Ytoanmoddppmffaa
