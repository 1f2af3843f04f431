/- QuerySame: two rows of steps are told the same just if they are. -/
import Derived.Test.YtoanmoddppmffaaDoorUSf
import Derived.Test.YtoanmoddppmffaaDoorUEb
namespace Go.Proofs.YtoanmoddppmffaaDoor.T
open Go.RowKit Go.Shelf Go.Proofs.YtoanmoddppmffaaDoorW.PrintWords
set_option linter.unusedVariables false
set_option linter.unusedSimpArgs false
set_option maxHeartbeats 4000000 in
set_option maxRecDepth 100000 in
theorem lsame_any {ok ok' : Nat → Prop} (w : World) (v u : Value) (a b : List Step) (one : Bool) (ha : StepsR ok w v a) (hb : StepsR ok' w u b) (hV : Vr w) (hw : 4 < w.heap.size) : Calls Tryd.prog 5 #[v, u, .bool one] w fun e w' => e = .returned (.bool true) ∧ Below w.heap.size w w' := by
  have h1 := awake_any w hV hw
  have HA := Aside0.mk ha
  have HB := Aside0.mk hb
  obtain ⟨_, ha'⟩ := ha
  obtain ⟨_, hb'⟩ := hb
  obtain ⟨A, c, rfl, hc1, hc2⟩ := ha'.slice
  obtain ⟨B, d, rfl, hd1, hd2⟩ := hb'.slice
  clear hV hw ha' hb'
  go_enter Tryd.func5, Tryd.ntmps5
  go_wp2_with fail
  go_at_call 6
  refine h1.mono ?_
  rintro e w1 ⟨rfl, hb1⟩
  have h2 : Calls Tryd.prog 11 #[.slice A a.length c, .int .i64 4] w1 _ := (small_few 4 (by decide)).1 _ w1 _ a (HA.out.below hb1)
  have HB1 := Aside0.mk hb1
  clear h1 hb1
  go_wp2_with fail
  go_at_call 11
  refine h2.mono ?_
  rintro e w2 ⟨v2, rfl, hs2, hb2⟩
  have HB2 := Aside0.mk (below_step HB1.out hb2)
  have h3 : Calls Tryd.prog 11 #[.slice B b.length d, .int .i64 4] w2 _ := (small_few 4 (by decide)).1 _ w2 _ b (HB.out.below HB2.out)
  have HS2 := Aside0.mk hs2
  clear h2 hb2 hs2
  go_wp2_with fail
  go_at_call 11
  refine h3.mono ?_
  rintro e w3 ⟨v3, rfl, hs3, hb3⟩
  have HB3 := Aside0.mk (below_step HB2.out hb3)
  have HS23 := Aside0.mk (HS2.out.below hb3)
  have HS3 := Aside0.mk hs3
  generalize smallL 4 a = l at HS2 HS23
  generalize smallL 4 b = m at HS3 hs3
  clear h3 hb3 hs3 HS2 HA HB
  have key : ∀ (v3 : Value) (m : List Step), StepsR (fun _ => True) w3 v3 m → ∃ bb, Calls Tryd.prog 12 #[v2, v3] w3 (SamePost bb w3) ∧ ∀ w4, Below w3.heap.size w3 w4 → Calls Tryd.prog 10 #[v2, v3] w4 (SamePost bb w4) := fun v3 m hm =>
    ⟨eqB l m, same_any HS23.out hm, fun w4 hb4 => refSame_any (HS23.out.below hb4) (hm.below hb4)⟩
  have HSELF : Aside0 (∀ w4, Below w3.heap.size w3 w4 → Calls Tryd.prog 12 #[v2, v2] w4 (SamePost true w4)) := ⟨fun w4 hb4 => by
    have := same_any (HS23.out.below hb4) (HS23.out.below hb4)
    rwa [eqB_self] at this⟩
  cases one with
  | true =>
    obtain ⟨bb, k1, k2⟩ := key v2 l (HS23.out.imp_ (fun _ _ => rfl) (fun _ _ => trivial))
    have HK2 := Aside0.mk k2
    clear key k2
    go_wp2_with fail
    go_at_call 12
    refine k1.mono ?_
    rintro e w4 ⟨rfl, hb4⟩
    have k3 := HK2.out w4 hb4
    have HB4 := Aside0.mk hb4
    clear k1 hb4
    go_wp2_with fail
    go_at_call 10
    refine k3.mono ?_
    rintro e w5 ⟨rfl, hb5⟩
    have HB5 := Aside0.mk (below_step HB4.out hb5)
    have k4 := HSELF.out w5 HB5.out
    clear k3 hb5
    go_wp2_with fail
    go_at_call 12
    refine k4.mono ?_
    rintro e w6 ⟨rfl, hb6⟩
    have HB6 := Aside0.mk (below_step HB3.out (below_step HB5.out hb6))
    clear k4 hb6
    go_wp2
    go_ret
    exact ⟨rfl, HB6.out⟩
  | false =>
    obtain ⟨bb, k1, k2⟩ := key v3 m (HS3.out.imp_ (fun _ _ => rfl) (fun _ _ => trivial))
    have HK2 := Aside0.mk k2
    clear key k2
    go_wp2_with fail
    go_at_call 12
    refine k1.mono ?_
    rintro e w4 ⟨rfl, hb4⟩
    have k3 := HK2.out w4 hb4
    have HB4 := Aside0.mk hb4
    clear k1 hb4
    go_wp2_with fail
    go_at_call 10
    refine k3.mono ?_
    rintro e w5 ⟨rfl, hb5⟩
    have HB5 := Aside0.mk (below_step HB4.out hb5)
    have k4 := HSELF.out w5 HB5.out
    clear k3 hb5
    go_wp2_with fail
    go_at_call 12
    refine k4.mono ?_
    rintro e w6 ⟨rfl, hb6⟩
    have HB6 := Aside0.mk (below_step HB3.out (below_step HB5.out hb6))
    clear k4 hb6
    go_wp2
    go_ret
    exact ⟨rfl, HB6.out⟩
end Go.Proofs.YtoanmoddppmffaaDoor.T
