/- QueryBack. -/
import Derived.Test.YtoanmoddppmffaaGreatDoorBFj
import Derived.Test.YtoanmoddppmffaaGreatDoorBHd
namespace Go.Proofs.YtoanmoddppmffaaGreatDoor.T
open Go.RowKit Go.Shelf Go.Proofs.YtoanmoddppmffaaGreatDoorW.PrintWords
set_option linter.unusedVariables false
set_option linter.unusedSimpArgs false
theorem print_write {q : ByteArray} {m : List Step} (h : parseQ q = some m) (hq : q.size ≤ 100) : ∃ T : ByteArray, T = (pathT true m).1 ∧ T.size ≤ 200 ∧ (nmSs m ∧ (pathT true m).1.size ≤ szMax) ∧ writeQ m = some T ∧ parseQ T = some m := by
  obtain ⟨h1, h2, h3, h4⟩ := print_back h hq
  refine ⟨_, rfl, h3, ⟨h2, Nat.le_trans h3 (by decide)⟩, ?_, h4⟩
  unfold writeQ
  rw [if_pos h1, h4]
  simp only
  rw [if_pos (eqB_self m)]
theorem wrote_some {l : List Step} {t : ByteArray} (h : writeQ l = some t) : parseQ t = some l ∧ t.size ≤ 300 := by
  unfold writeQ at h
  split at h
  · cases hp : parseQ (pathT true l).1 with
    | none => rw [hp] at h; cases h
    | some m =>
      rw [hp] at h
      simp only at h
      split at h
      · rename_i he
        obtain rfl := Option.some.inj h
        rw [eqB_iff] at he
        subst he
        exact ⟨hp, (parseG_some (parseQ_some hp)).1⟩
      · cases h
  · cases h
set_option maxHeartbeats 4000000 in
set_option maxRecDepth 100000 in
theorem back_any {ok : Nat → Prop} (w : World) (v : Value) (l : List Step) (q : ByteArray) (hl : StepsR ok w v l) (hS : St w) : Calls Tryz.prog 4 #[v, .string q] w fun e w' => e = .returned (.bool true) ∧ Below w.heap.size w w' := by
  have h1 := awake_any w hS.vr hS.er
  have HL := Aside0.mk hl
  obtain ⟨_, hl'⟩ := hl
  obtain ⟨A, c, rfl, hc1, hc2⟩ := hl'.slice
  have HS := Aside0.mk hS
  have HSH : Aside0 (∀ w', Calls Tryz.prog 13 #[.string q, .int .i64 100] w' fun e w'' => e = .returned (.string (shortB q 100)) ∧ w' = w'') := ⟨fun w' => short_any q 100 w' (by decide)⟩
  have HZ := Aside0.mk (shortB_size q 100)
  generalize shortB q 100 = s at HSH HZ
  have HPQ : Aside0 (∀ w', Below w.heap.size w w' → Calls Tryz.prog 11 #[.string s] w' (ParsePost (parseQ s) w')) := ⟨fun w' hb => parse_every s w' (HS.out.below hb).vr (HS.out.below hb).er⟩
  clear hl' hS
  go_enter Tryz.func4, Tryz.ntmps4
  go_wp2_with fail
  go_at_call 6
  refine h1.mono ?_
  rintro e w1 ⟨rfl, hb1⟩
  have h2 : Calls Tryz.prog 7 #[.slice A l.length c, .int .i64 4] w1 _ := (small_few 4 (by decide)).1 _ w1 _ l (HL.out.below hb1)
  have HB1 := Aside0.mk hb1
  clear h1 hb1 HL
  go_wp2_with fail
  go_at_call 7
  refine h2.mono ?_
  rintro e w2 ⟨v2, rfl, hs2, hb2⟩
  have HB2 := Aside0.mk (below_step HB1.out hb2)
  have h3 := write_any w2 v2 _ hs2 (HS.out.below HB2.out) (small4 l).1 (small4 l).2
  obtain ⟨m0, hm0⟩ : ∃ m0, m0 = smallL 4 l := ⟨_, rfl⟩
  rw [← hm0] at h3 hs2
  have HS2 := Aside0.mk hs2
  clear h2 hb2 hs2 hm0
  go_wp2_with fail
  go_at_call 8
  refine h3.mono ?_
  rintro e w3 ⟨rfl, hb3⟩
  have HB3 := Aside0.mk (below_step HB2.out hb3)
  have HS3 := Aside0.mk (HS2.out.below hb3)
  obtain ⟨r, hr⟩ : ∃ r, r = writeQ m0 := ⟨_, rfl⟩
  rw [← hr]
  have HR := Aside0.mk hr
  clear h3 hb3 hr HS2
  cases r with
  | none =>
    unfold writeV
    go_wp2_with fail
    go_at_call 13
    refine (HSH.out w3).mono ?_
    rintro e w3' ⟨rfl, rfl⟩
    have hp := HPQ.out w3 HB3.out
    cases hq : parseQ s with
    | none =>
      rw [hq] at hp
      clear hq
      go_wp2_with fail
      go_at_call 11
      refine hp.mono ?_
      rintro e w4 ⟨hb, rfl⟩
      have HB4 := Aside0.mk (below_step HB3.out hb)
      clear hp hb
      go_wp2
      go_ret
      exact ⟨rfl, HB4.out⟩
    | some m =>
      rw [hq] at hp
      obtain ⟨T, hT, hT2, hwr, hwq, hpT⟩ := print_write hq HZ.out
      have HWQ := Aside0.mk hwq
      have HWR := Aside0.mk hwr
      have HPT := Aside0.mk hpT
      clear hq hT hT2 hwr hwq hpT
      go_wp2_with fail
      go_at_call 11
      refine hp.mono ?_
      rintro e w4 ⟨hb, A1, c1, rfl, hc1, hm⟩
      have HB4 := Aside0.mk (below_step HB3.out hb)
      have h5 := write_any w4 _ m hm (HS.out.below HB4.out) HWR.out.1 HWR.out.2
      rw [HWQ.out] at h5
      have HM1 := Aside0.mk hm
      clear hp hb hm
      go_wp2_with fail
      go_at_call 8
      refine h5.mono ?_
      rintro e w5 ⟨rfl, hb⟩
      have HB5 := Aside0.mk (below_step HB4.out hb)
      have HM2 := Aside0.mk (HM1.out.below hb)
      have hS2 := HS.out.below HB5.out
      have h6 := parse_every T w5 hS2.vr hS2.er
      rw [HPT.out] at h6
      unfold writeV
      clear h5 hb hS2 HM1
      go_wp2_with fail
      go_at_call 11
      refine h6.mono ?_
      rintro e w6 ⟨hb, A3, c3, rfl, hc3, hm3⟩
      have HB6 := Aside0.mk (below_step HB5.out hb)
      have HM3 := Aside0.mk (HM2.out.below hb)
      have h7 := refSame_any HM3.out hm3
      rw [eqB_self] at h7
      clear h6 hb hm3 HM2
      go_wp2_with fail
      go_at_call 12
      refine h7.mono ?_
      rintro e w7 ⟨rfl, hb⟩
      have HB7 := Aside0.mk (below_step HB6.out hb)
      have h8 := check_any w7 _ m (HM3.out.below hb) (HS.out.below HB7.out) HWR.out.1 HWR.out.2
      rw [HWQ.out] at h8
      clear h7 hb HM3
      go_wp2_with fail
      go_at_call 10
      refine h8.mono ?_
      rintro e w8 ⟨rfl, hb⟩
      have HB8 := Aside0.mk (below_step HB7.out hb)
      clear h8 hb
      unfold codeOf
      go_wp2
      go_ret
      exact ⟨rfl, HB8.out⟩
  | some t =>
    unfold writeV
    obtain ⟨hpt, ht⟩ := wrote_some HR.out.symm
    have ht' : ¬ (300 : Int) < (t.size : Int) := by omega
    have hS3 := HS.out.below HB3.out
    have h4 := parse_every t w3 hS3.vr hS3.er
    rw [hpt] at h4
    clear hpt ht hS3
    go_wp2_with fail
    go_at_call 11
    refine h4.mono ?_
    rintro e w4 ⟨hb4, A4, c4, rfl, hc4, hm4⟩
    have HB4 := Aside0.mk (below_step HB3.out hb4)
    have h5 := refSame_any (HS3.out.below hb4) hm4
    rw [eqB_self] at h5
    clear h4 hb4 hm4 HS3
    go_wp2_with fail
    go_at_call 12
    refine h5.mono ?_
    rintro e w5 ⟨rfl, hb5⟩
    have HB5 := Aside0.mk (below_step HB4.out hb5)
    clear h5 hb5
    go_wp2_with fail
    go_at_call 13
    refine (HSH.out w5).mono ?_
    rintro e w5' ⟨rfl, rfl⟩
    have hp := HPQ.out w5 HB5.out
    cases hq : parseQ s with
    | none =>
      rw [hq] at hp
      clear hq
      go_wp2_with fail
      go_at_call 11
      refine hp.mono ?_
      rintro e w6 ⟨hb, rfl⟩
      have HB6 := Aside0.mk (below_step HB5.out hb)
      clear hp hb
      go_wp2
      go_ret
      exact ⟨rfl, HB6.out⟩
    | some m =>
      rw [hq] at hp
      obtain ⟨T, hT, hT2, hwr, hwq, hpT⟩ := print_write hq HZ.out
      have HWQ := Aside0.mk hwq
      have HWR := Aside0.mk hwr
      have HPT := Aside0.mk hpT
      clear hq hT hT2 hwr hwq hpT
      go_wp2_with fail
      go_at_call 11
      refine hp.mono ?_
      rintro e w6 ⟨hb, A1, c1, rfl, hc1, hm⟩
      have HB6 := Aside0.mk (below_step HB5.out hb)
      have h5 := write_any w6 _ m hm (HS.out.below HB6.out) HWR.out.1 HWR.out.2
      rw [HWQ.out] at h5
      have HM1 := Aside0.mk hm
      clear hp hb hm
      go_wp2_with fail
      go_at_call 8
      refine h5.mono ?_
      rintro e w7 ⟨rfl, hb⟩
      have HB7 := Aside0.mk (below_step HB6.out hb)
      have HM2 := Aside0.mk (HM1.out.below hb)
      have hS2 := HS.out.below HB7.out
      have h6 := parse_every T w7 hS2.vr hS2.er
      rw [HPT.out] at h6
      unfold writeV
      clear h5 hb hS2 HM1
      go_wp2_with fail
      go_at_call 11
      refine h6.mono ?_
      rintro e w8 ⟨hb, A3, c3, rfl, hc3, hm3⟩
      have HB8 := Aside0.mk (below_step HB7.out hb)
      have HM3 := Aside0.mk (HM2.out.below hb)
      have h7 := refSame_any HM3.out hm3
      rw [eqB_self] at h7
      clear h6 hb hm3 HM2
      go_wp2_with fail
      go_at_call 12
      refine h7.mono ?_
      rintro e w9 ⟨rfl, hb⟩
      have HB9 := Aside0.mk (below_step HB8.out hb)
      have h8 := check_any w9 _ m (HM3.out.below hb) (HS.out.below HB9.out) HWR.out.1 HWR.out.2
      rw [HWQ.out] at h8
      clear h7 hb HM3
      go_wp2_with fail
      go_at_call 10
      refine h8.mono ?_
      rintro e w10 ⟨rfl, hb⟩
      have HB10 := Aside0.mk (below_step HB9.out hb)
      clear h8 hb
      unfold codeOf
      go_wp2
      go_ret
      exact ⟨rfl, HB10.out⟩
end Go.Proofs.YtoanmoddppmffaaGreatDoor.T
