/- QueryReads: both readings are one. -/
import Derived.Test.YtoanmoddppmffaaDoorKCa
import Derived.Test.YtoanmoddppmffaaDoorKRl
import Derived.Test.YtoanmoddppmffaaDoorKSb
namespace Go.Proofs.YtoanmoddppmffaaDoor.T
open Go.RowKit Go.Shelf Go.Proofs.YtoanmoddppmffaaDoorW.PrintWords
set_option linter.unusedVariables false
set_option linter.unusedSimpArgs false
theorem StepsR.below {ok : Nat → Prop} {w w' : World} {v : Value} {xs : List Step} (h : StepsR ok w v xs) (hb : Below w.heap.size w w') : StepsR (fun k => ok k ∧ k < w.heap.size) w' v xs :=
  h.bound.imp_ (fun k hk => hb.block k hk.2) (fun k hk => hk)
set_option maxHeartbeats 4000000 in
set_option maxRecDepth 100000 in
theorem reads_any (q : ByteArray) (w : World) (hV : Vr w) (hw : 4 < w.heap.size) : Calls Tryd.prog 3 #[.string q] w fun e w' => e = .returned (.bool true) ∧ Below w.heap.size w w' := by
  have h1 := awake_any w hV hw
  have HV := Aside0.mk hV
  have HW := Aside0.mk hw
  have hz := shortB_size q 310
  have hsh : ∀ w', Calls Tryd.prog 7 #[.string q, .int .i64 310] w' fun e w'' => e = .returned (.string (shortB q 310)) ∧ w' = w'' := fun w' => short_any q 310 w' (by decide)
  generalize shortB q 310 = s at hsh hz
  clear hV hw
  go_enter Tryd.func3, Tryd.ntmps3
  go_wp2_with fail
  go_at_call 6
  refine h1.mono ?_
  rintro e w1 ⟨rfl, hb1⟩
  clear h1
  go_wp2_with fail
  go_at_call 7
  refine (hsh w1).mono ?_
  rintro e w1' ⟨rfl, rfl⟩
  have h2 := parse_any s 5000 (parseQ s) w1 (by decide) (parseQ_eq s) (HV.out.below hb1) (Nat.lt_of_lt_of_le HW.out hb1.size) (by omega)
  have HB1 := Aside0.mk hb1
  have HZ := Aside0.mk hz
  clear hsh hb1 hz
  cases hp : parseQ s with
  | none =>
    rw [hp] at h2
    have HP := Aside0.mk hp
    clear hp
    go_wp2_with fail
    go_at_call 8
    refine h2.mono ?_
    rintro e w2 ⟨hb2, rfl⟩
    have h3 := refParse_any s 5000 none w2 (by rw [parseQ_eq, HP.out]) (by have := HZ.out; omega)
    have HB2 := Aside0.mk (below_step HB1.out hb2)
    clear h2 hb2
    go_wp2_with fail
    go_at_call 9
    refine h3.mono ?_
    rintro e w3 ⟨hb3, rfl⟩
    have h4 := refSame_eq (StepsR.nil (fun _ => True) w3) (StepsR.nil (fun _ => True) w3)
    have HB3 := Aside0.mk (below_step HB2.out hb3)
    clear h3 hb3
    go_wp2_with fail
    go_at_call 10
    refine h4.mono ?_
    rintro e w4 ⟨rfl, hb4⟩
    have HB4 := Aside0.mk (below_step HB3.out hb4)
    clear h4 hb4
    go_wp2
    go_ret
    exact ⟨rfl, HB4.out⟩
  | some l =>
    rw [hp] at h2
    have HP := Aside0.mk hp
    clear hp
    go_wp2_with fail
    go_at_call 8
    refine h2.mono ?_
    rintro e w2 ⟨hb2, A, c, rfl, hc, hs⟩
    have h3 := refParse_any s 5000 (some l) w2 (by rw [parseQ_eq, HP.out]) (by have := HZ.out; omega)
    have HB2 := Aside0.mk (below_step HB1.out hb2)
    have HS := Aside0.mk hs
    clear h2 hb2 hs
    go_wp2_with fail
    go_at_call 9
    refine h3.mono ?_
    rintro e w3 ⟨hb3, A', c', rfl, hc', hs'⟩
    have h4 := refSame_eq (HS.out.below hb3) hs'
    have HB3 := Aside0.mk (below_step HB2.out hb3)
    clear h3 hb3 hs'
    go_wp2_with fail
    go_at_call 10
    refine h4.mono ?_
    rintro e w4 ⟨rfl, hb4⟩
    have HB4 := Aside0.mk (below_step HB3.out hb4)
    clear h4 hb4
    go_wp2
    go_ret
    exact ⟨rfl, HB4.out⟩
end Go.Proofs.YtoanmoddppmffaaDoor.T
