/- QuerySame: whatever the two rows of steps, the law returns true, and what came in reads as it did; what the listed variables read as is tied to the program's text. No condition. -/
import Derived.Test.YtoanmoddppmffaaDoorRows
import Derived.Test.YtoanmoddppmffaaDoorCards
import Derived.Test.YtoanmoddppmffaaDoorTie
import Derived.Test.YtoanmoddppmffaaDoorULa
import Derived.Test.YtoanmoddppmffaaDoorUDc
import Derived.Test.YtoanmoddppmffaaDoorUDd
import Derived.Lib.SmallJoins
import Derived.Laws.IdiomArrays
import Derived.WalkKit
import Derived.ProofKit
import Derived.OpenShut
import Derived.ShutString
import Derived.ChangeOld
import Derived.Below
import Derived.SizedLaws
import Derived.LaidMore
import Derived.Lay
import Derived.SevenTiedAt
namespace Go.Proofs.YtoanmoddppmffaaDoor.querySame
open Go.ChangeShapes Go.WideShapes Go.ChangeAt Go.RowKit
set_option linter.unusedVariables false
theorem own : ownKnob Tryd.prog.godebug = none := by kernel_rfl
theorem plain {W : World} : laidMetH Tryd.prog Rows.querySameRow.laid W = laidMet Tryd.prog Rows.querySameRow.laid W := MakeChecks.laidMetH_plain _ _ _ (by kernel_rfl)
set_option maxRecDepth 100000 in
theorem laid_w (os : Os) (args : Array Value) : laidMet Tryd.prog Rows.querySameRow.laid ((World.laidAll Tryd.prog os Rows.querySameRow.laid).forCall (fun _ _ => 0) ⟨#[], args, []⟩).memory := laidMet_laidAll _ (by kernel_rfl) (by kernel_rfl)
set_option maxRecDepth 100000 in
theorem lifted (os : Os) (started : os.Started) (H : Type) (enc : TypeId × Value → H) :
    ReturnsInHanded {} Tryd.checked os 5 .any (fun w args => (Rows.querySameSpec.pre enc Tryd.prog Tryd.f5 Rows.querySameRow.domain false w args ∧ laidMetH Tryd.prog Rows.querySameRow.laid w) ∧ sizedMet enc Tryd.prog Tryd.f5 (OpenSpec.ofChange Rows.querySameSpec) false w args)
      (Rows.querySameSpec.post enc Tryd.prog Tryd.f5 false true false false) := by
  refine returnsInHanded_of_change_and (C := Tryd.checked) (X := fun w _ => laidMetH Tryd.prog Rows.querySameRow.laid w) (fun _ _ _ hh h => h.of_heap hh) own started (by kernel_rfl) Tryd.func5
    (ChangeSpec.witness_shaped (enc := enc) (C := Tryd.checked) (os := os) (X := fun w _ => laidMetH Tryd.prog Rows.querySameRow.laid w) false (World.laidAll Tryd.prog os Rows.querySameRow.laid) #[.slice none 0 0, .slice none 0 0, .bool false] 8 (World.laidAll_os _ _ _)
      (World.shaped_of_ZipB (by kernel_rfl) (by kernel_rfl)) (by kernel_rfl) (by kernel_rfl) (by kernel_rfl)
      (by rw [plain]; exact laid_w os _)) ?_
  intro W base args ds gs before hval0 hW hcnd _ hL _
  have hval : ∀ (j : Nat) t v, Tryd.f5.params[j]? = some t → args[j]? = some v → Value.okWide Tryd.prog W .any base t v := hval0
  have hW' := hW
  obtain ⟨p, q, hA0, hV, rfl, hfz, hnd⟩ := hW
  have hA : DataW.TrodAll enc Tryd.prog W 0 (fun _ => true) true Tryd.f5.params.toList args.toList ds p := hA0
  rw [Tryd.params5] at hA hval
  obtain ⟨v0, vs0, d0, ds0, p0, q0, hargs, rfl, rfl, h0, r0⟩ := trodAll_cons hA
  obtain ⟨v1, vs1, d1, ds1, p1, q1, hargs1, rfl, rfl, h1, r1⟩ := trodAll_cons r0
  obtain ⟨v2, vs2, d2, ds2, p2, q2, hargs2, rfl, rfl, h2, r2⟩ := trodAll_cons r1
  obtain ⟨rfl, rfl, rfl⟩ := trodAll_nil r2
  obtain rfl : args = #[v0, v1, v2] := by cases args; simp_all
  obtain ⟨rfl, rfl⟩ := trodVars_none hV
  simp only [List.append_nil] at hW'
  have hlt : ∀ x ∈ p0 ++ (p1 ++ p2), x.block < W.heap.size := fun x hx => by simpa using hW'.lt x hx
  obtain ⟨one, rfl, rfl, rfl⟩ := open_bool Tryd.underlying4 (hval 2 4 v2 rfl rfl) h2
  have hl0 := T.open_steps (hval 0 24 v0 rfl rfl) h0
  have hl1 := T.open_steps (hval 1 24 v1 rfl rfl) h1
  obtain ⟨hVr, hgr⟩ := T.vr_of_laid hL rfl plain
  clear hA0 hval0
  obtain ⟨l0, hl0⟩ := hl0
  obtain ⟨l1, hl1⟩ := hl1
  refine (T.lsame_any W v0 v1 l0 l1 one hl0 hl1 hVr hgr).mono fun e W' ⟨he, bel⟩ => ?_
  subst he
  have k0 := Below.trod T.laidOut (by kernel_rfl) (of_decide_eq_true (by kernel_rfl)) h0 bel (fun x hx => hlt x (List.mem_append.2 (.inl hx)))
  have k1 := Below.trod T.laidOut (by kernel_rfl) (of_decide_eq_true (by kernel_rfl)) h1 bel (fun x hx => hlt x (List.mem_append.2 (.inr (List.mem_append.2 (.inl hx)))))
  exact ⟨_, rfl, _, _, _, [], _, [], hW', trodAll_mk1 (shut_bool Tryd.underlying4 _), (trodAll_cons_mk k0 (trodAll_cons_mk k1 (trodAll_cons_mk (shut_bool Tryd.underlying4 _) trodAll_mk0))), rfl, bel.frame _, fun h => by cases h⟩
theorem over : Rows.querySameRow.holds Tryd.pinned (OpenSpec.ofChange Rows.querySameSpec) :=
  OpenClaim.holds_of_wide 5 Tryd.f5 rfl rfl rfl rfl rfl rfl rfl ⟨rfl, rfl, rfl, rfl, rfl⟩ rfl rfl rfl rfl rfl (by kernel_rfl) Tryd.func5 (by kernel_rfl)
    (of_decide_eq_true (by kernel_rfl)) (by unfold Func.isWrapper; first | (rw [if_pos (by decide +kernel)]; kernel_rfl) | (rw [if_neg (by decide +kernel)]; exact ⟨rfl, rfl⟩))
    (fun os started H enc _ => lifted os started H enc)
theorem carded : Rows.QuerySameCardSaid :=
  Claim7.holds_tied_plain_at .later [] [.data, .data, .data, .data, .sentinel, .sentinel, .pinned] true Rows.querySameCard.stood.harness true
    over (fun _ h => by cases h) (by kernel_rfl) (fun _ h => by cases h) querySame_row_tie rfl ⟨rfl, rfl⟩ (by kernel_rfl) rfl
    (fun f fn hf hfn => by
      obtain rfl : f = 5 := Option.some.inj ((show Tryd.prog.funcNamed "topiary/topiarylaw19.QuerySame" = some 5 by kernel_rfl).symm.trans hf) |>.symm
      obtain rfl : fn = Tryd.f5 := (Option.some.inj (Tryd.func5.symm.trans hfn)).symm
      exact ⟨by kernel_rfl, fun j t ht => by
        rw [Tryd.params5] at ht
        have hm : t ∈ [24, 24, 4] := by simpa using Array.mem_of_getElem? ht
        have hall : ([24, 24, 4].all fun u => !Tryd.prog.wantsStandIn u) = true := by kernel_rfl
        exact (show Tryd.prog.wantsStandIn t = false by simpa using List.all_eq_true.1 hall t hm)⟩)
    (by kernel_rfl)
end Go.Proofs.YtoanmoddppmffaaDoor.querySame
namespace Go.Proofs.YtoanmoddppmffaaDoor
theorem querySame_holds : Rows.QuerySameCardSaid := querySame.carded
end Go.Proofs.YtoanmoddppmffaaDoor
