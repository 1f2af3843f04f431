/- The writer: a step. -/
import Derived.Test.YtoanmoddppmffaaGreatDoorXFd
namespace Go.Proofs.YtoanmoddppmffaaGreatDoor.T
open Go.RowKit Go.Shelf Go.Proofs.YtoanmoddppmffaaGreatDoorW.PrintWords
set_option linter.unusedVariables false
set_option linter.unusedSimpArgs false
theorem app_nil (t : ByteArray) : t ++ (⟨#[]⟩ : ByteArray) = t := bs_ext (by simp)
theorem nil_app (t : ByteArray) : (⟨#[]⟩ : ByteArray) ++ t = t := bs_ext (by simp)
theorem name_beq {s : ByteArray} {l : List UInt8} (h : (s.toList == l) = true) : s = bs l := bs_ext (by rw [← toList_data, beq_iff_eq.1 h, bs_data])
theorem name_bne {s : ByteArray} {l : List UInt8} (h : (s.toList == l) = false) : s ≠ bs l := by
  rintro rfl
  rw [toList_data, bs_data] at h
  simp at h
def WStI (s : Step) (g : Nat) (b : Bool) (w : World) (t : ByteArray) (iv : Value) (wr : World) : Prop :=
  ∃ (i : Nat) (bb : Bool), iv = .int .i64 i ∧ i ≤ s.preds.length ∧ t ++ (predsT (s.preds.drop i)).1 = (stepT s).1 ∧ (bb && (predsT (s.preds.drop i)).2) = (stepT s).2 ∧ wr.heap[g]? = some (wrO (b || !bb)) ∧ w.grownBy wr (some g)
def WStI2 (s : Step) (g : Nat) (b : Bool) (w : World) (ov iv : Value) (wr : World) : Prop := ∃ t, ov = .string t ∧ WStI s g b w t iv wr
set_option maxHeartbeats 4000000 in
set_option maxRecDepth 100000 in
theorem wStep_any (n : Nat) (IH : ∀ m, m < n → WPredC m) : WStepC n := by
  intro ok g b w A c s hp hW hnm hz
  obtain ⟨hpl1, hpl2⟩ : s.preds.length ≤ c ∧ c ≤ maxLen := by obtain ⟨A', c', e, h1, h2⟩ := hp.slice; injection e with e1 e2 e3; omega
  obtain ⟨hns, hnp⟩ := (nmS_eq s).1 hnm
  have hbox : Below w.heap.size w (w.alloc (.cells #[.bool s.deep, .int .i64 s.axis, .string s.name, .slice A s.preds.length c] 39)) := below_alloc (Below.refl _ _) _
  have hn0 : (w.alloc (.cells #[.bool s.deep, .int .i64 s.axis, .string s.name, .slice A s.preds.length c] 39)).heap[w.heap.size]? = some (.cells #[.bool s.deep, .int .i64 s.axis, .string s.name, .slice A s.preds.length c] 39 (0, 0)) := blk_new _ _
  generalize hw0 : w.alloc (.cells #[.bool s.deep, .int .i64 s.axis, .string s.name, .slice A s.preds.length c] 39) = w0 at hbox hn0
  have z0 : w0.cell? ⟨w.heap.size, 2, none⟩ = some (.string s.name) := (blk_cell hn0 2).trans rfl
  have hW0 := Aside0.mk hW
  have HP0 := Aside0.mk hp
  have HN0 := Aside0.mk hn0
  have HBOX := Aside0.mk hbox
  have hcn := cName_any s.name w0 (by omega)
  clear hW hp hn0 hbox hnm
  obtain ⟨nb, hnb⟩ : ∃ nb : Bool, nb = isNm s.name := ⟨_, rfl⟩
  rw [← hnb] at hcn
  have HNB := Aside0.mk hnb
  clear hnb
  go_enter Tryz.func24, Tryz.ntmps24
  go_upto_region 1 with fail
  cases hsb : (s.name.toList == [42]) with
  | true =>
    go_upto_region 2 with fail
    go_upto_block 0 with fail
    have HNM : Aside0 ((s.name = tStar ∨ isNm s.name = true)) := ⟨.inl (name_beq hsb)⟩
    obtain ⟨w1, hw1⟩ : ∃ w1, w1 = w0 := ⟨_, rfl⟩
    have hb1 : Below w0.heap.size w0 w1 := by rw [hw1]; exact Below.refl _ _
    rw [← hw1]
    have HB1 := Aside0.mk (below_step HBOX.out hb1)
    have hn1 := blk_below HN0.out hb1
    have HN1 := Aside0.mk hn1
    have y1 : w1.cell? ⟨w.heap.size, 1, none⟩ = some (.int .i64 s.axis) := (blk_cell hn1 1).trans rfl
    have y2 : w1.cell? ⟨w.heap.size, 2, none⟩ = some (.string s.name) := (blk_cell hn1 2).trans rfl
    have HFAIL := Aside0.mk (wFails_any g b w1 (hW0.out.below HB1.out).blk)
    have hnz : ¬ 9223372036854775807 < 1 + s.name.size := by omega
    clear hcn hb1 hn1 z0 hw1
    go_cut [6] (fun hv wx => w1 = wx ∧ ∃ h, hv = .string h ∧ Aside0 (headT s.axis s.name = some h))
    case first =>
      by_cases a4 : s.axis = 4
      · cases heb : (s.name.toList == []) with
        | true =>
          have he : s.name = ⟨#[]⟩ := name_beq heb
          have HH : Aside0 (headT s.axis s.name = some (tDot)) := ⟨by simp [headT, a4, he]⟩
          go_wp2
          go_meet
          case rel => exact ⟨rfl, _, rfl, HH⟩
        | false =>
          have he : s.name ≠ ⟨#[]⟩ := name_bne heb
          have HH : Aside0 (stepT s = (⟨#[]⟩, false)) := ⟨by rw [stepT_eq, show headT s.axis s.name = none from by simp [headT, a4, he]]⟩
          rw [HH.out]
          go_wp2_with fail
          go_at_call 22
          refine HFAIL.out.mono ?_
          rintro e w2 ⟨rfl, h2, h3⟩
          have HPO := Aside0.mk (WPost.of_alloc HB1.out ⟨rfl, h2, h3⟩)
          clear h2 h3
          go_wp2
          go_ret
          exact HPO.out
      by_cases a5 : s.axis = 5
      · cases heb : (s.name.toList == []) with
        | true =>
          have he : s.name = ⟨#[]⟩ := name_beq heb
          have HH : Aside0 (headT s.axis s.name = some (tDd)) := ⟨by simp [headT, a5, he]⟩
          go_wp2
          go_meet
          case rel => exact ⟨rfl, _, rfl, HH⟩
        | false =>
          have he : s.name ≠ ⟨#[]⟩ := name_bne heb
          have HH : Aside0 (stepT s = (⟨#[]⟩, false)) := ⟨by rw [stepT_eq, show headT s.axis s.name = none from by simp [headT, a5, he]]⟩
          rw [HH.out]
          go_wp2_with fail
          go_at_call 22
          refine HFAIL.out.mono ?_
          rintro e w2 ⟨rfl, h2, h3⟩
          have HPO := Aside0.mk (WPost.of_alloc HB1.out ⟨rfl, h2, h3⟩)
          clear h2 h3
          go_wp2
          go_ret
          exact HPO.out
      by_cases a3 : s.axis = 3
      · cases heb : (s.name.toList == []) with
        | true =>
          have he : s.name = ⟨#[]⟩ := name_beq heb
          have HH : Aside0 (headT s.axis s.name = some (⟨#[116, 101, 120, 116, 40, 41]⟩)) := ⟨by simp [headT, a3, he]⟩
          go_wp2
          go_meet
          case rel => exact ⟨rfl, _, rfl, HH⟩
        | false =>
          have he : s.name ≠ ⟨#[]⟩ := name_bne heb
          have HH : Aside0 (stepT s = (⟨#[]⟩, false)) := ⟨by rw [stepT_eq, show headT s.axis s.name = none from by simp [headT, a3, he]]⟩
          rw [HH.out]
          go_wp2_with fail
          go_at_call 22
          refine HFAIL.out.mono ?_
          rintro e w2 ⟨rfl, h2, h3⟩
          have HPO := Aside0.mk (WPost.of_alloc HB1.out ⟨rfl, h2, h3⟩)
          clear h2 h3
          go_wp2
          go_ret
          exact HPO.out
      by_cases a2 : s.axis = 2
      · have hn := HNM.out
        have HH : Aside0 (headT s.axis s.name = some (tAt ++ s.name)) := ⟨by rw [headT, if_neg (by simp [a2]), if_neg (by simp [a2]), if_neg (by simp [a2]), if_pos ⟨a2, hn⟩]⟩
        go_wp2
        go_meet
        case rel => exact ⟨rfl, _, rfl, HH⟩
      by_cases a1 : s.axis = 1
      · have hn := HNM.out
        have HH : Aside0 (headT s.axis s.name = some (s.name)) := ⟨by rw [headT, if_neg (by simp [a1]), if_neg (by simp [a1]), if_neg (by simp [a1]), if_neg (by simp [a1]), if_pos ⟨a1, hn⟩]⟩
        go_wp2
        go_meet
        case rel => exact ⟨rfl, _, rfl, HH⟩
      have HH : Aside0 (stepT s = (⟨#[]⟩, false)) := ⟨by rw [stepT_eq, show headT s.axis s.name = none from by rw [headT, if_neg (fun h => a4 h.1), if_neg (fun h => a5 h.1), if_neg (fun h => a3 h.1), if_neg (fun h => a2 h.1), if_neg (fun h => a1 h.1)]]⟩
      rw [HH.out]
      go_wp2_with fail
      go_at_call 22
      refine HFAIL.out.mono ?_
      rintro e w2 ⟨rfl, h2, h3⟩
      have HPO := Aside0.mk (WPost.of_alloc HB1.out ⟨rfl, h2, h3⟩)
      clear h2 h3
      go_wp2
      go_ret
      exact HPO.out
    case rest =>
      obtain ⟨rfl, h, rfl, HH⟩ := hcut
      have hst : stepT s = (h ++ (predsT s.preds).1, (predsT s.preds).2) := by rw [stepT_eq, HH.out]
      have hST : WStI s g b w h (.int .i64 ((0 : Nat) : Int)) w1 := ⟨0, true, rfl, by omega, by rw [hst]; rfl, by rw [hst]; rfl, by rw [Bool.not_true, Bool.or_false]; exact (hW0.out.below HB1.out).blk, grown_of_below HB1.out _⟩
      have HST : Aside0 (WStI2 s g b w (.string h) (.int .i64 ((0 : Nat) : Int)) w1) := ⟨⟨h, rfl, hST⟩⟩
      have y3 : w1.cell? ⟨w.heap.size, 3, none⟩ = some (.slice A s.preds.length c) := (blk_cell HN1.out 3).trans rfl
      have HZ := Aside0.mk hz
      have HNP := Aside0.mk hnp
      have HIH := Aside0.mk IH
      have hm : (s.preds.length : Int) ≤ 9223372036854775807 := by unfold maxLen at hpl2; omega
      clear hst hST HH hw0 hz hnp IH HN0 HBOX HNB HNM HFAIL hsb hnz y1 y2
      go_wp2
      go_loopg [6, 68] s.preds.length (fun gk ov iv wr => Aside0 (WStI2 s g b w ov iv wr) ∧ ∃ i : Nat, iv = .int .i64 i ∧ s.preds.length - i ≤ gk)
      case atStart => exact ⟨HST, 0, rfl, by omega⟩
      case round =>
        obtain ⟨hrel, i, rfl, hgk⟩ := hrel
        obtain ⟨t, rfl, i', bb, e, hil, ht, hbb, hblk, hgr⟩ := hrel.out
        obtain rfl : i = i' := by injection e with e1 e2; omega
        clear e hrel HST
        have hi0 : (0 : Int) ≤ (i : Int) := by omega
        by_cases hlt : i < s.preds.length
        · have hlt1 : (i : Int) < (s.preds.length : Int) := by omega
          obtain ⟨x, hxi⟩ : ∃ x, s.preds[i]? = some x := ⟨_, List.getElem?_eq_getElem hlt⟩
          have hdrop : s.preds.drop i = x :: s.preds.drop (i + 1) := by rw [List.drop_eq_getElem_cons hlt]; congr 1; rw [List.getElem?_eq_getElem hlt] at hxi; exact Option.some.inj hxi
          rw [hdrop, predsT_cons] at ht hbb
          have hWr := hW0.out.next hblk hgr
          obtain ⟨m, ad, c', u, u', hn, he, hok, hp, ha, x0, x1, x2, x3⟩ := (predsAt_grown HP0.out hW0.out.off hgr).getP hxi
          simp only [Value.slice.injEq, true_and] at he
          obtain ⟨rfl, rfl⟩ := he
          obtain ⟨A1, c1, rfl, hc3, hc4⟩ := hp.slice
          obtain ⟨B1, d1, rfl, hd3, hd4⟩ := ha.slice
          have hbA : Below wr.heap.size wr (wr.alloc (.cells #[.int .i64 x.kind, .int .i64 x.n, .slice A1 x.path.length c1, .slice B1 x.args.length d1] 41)) := below_alloc (Below.refl _ _) _
          have hsz := HZ.out
          rw [← ht] at hsz
          simp only [ByteArray.size_append] at hsz
          have hcall := HIH.out m (by omega) _ g (b || !bb) _ A1 B1 c1 d1 x (stepsAt_below hp hbA) (predsAt_below ha hbA) ((hWr.weak (fun k hk => hk.1)).below hbA |>.weak (fun k hk => hk.1)) ((nmPs_iff _).1 HNP.out x (List.mem_of_getElem? hxi)) (by omega)
          obtain ⟨r, hr⟩ : ∃ r, r = predT x := ⟨_, rfl⟩
          rw [← hr] at ht hbb hsz hcall
          have hs1 : tLb.size = 1 := rfl
          have hs2 : tRb.size = 1 := rfl
          unfold szMax at hsz
          rw [hs1, hs2] at hsz
          have hz1 : ¬ 9223372036854775807 < 1 + r.1.size := by omega
          have hz2 : ¬ 9223372036854775807 < 1 + r.1.size + 1 := by omega
          have hz3 : ¬ 9223372036854775807 < t.size + (1 + r.1.size + 1) := by omega
          have HT := Aside0.mk ht
          have HBB := Aside0.mk hbb
          have HGR := Aside0.mk hgr
          have HBA := Aside0.mk hbA
          clear ht hbb hgr hbA hblk hWr hp ha hdrop hxi hsz hr hs1 hs2
          go_wp2_with fail
          go_at_call 46
          refine hcall.mono ?_
          rintro e w2 ⟨rfl, h2, h3⟩
          have HPO := Aside0.mk (WPost.of_alloc HBA.out ⟨rfl, h2, h3⟩)
          clear hcall h2 h3 x0 x1 x2 x3
          go_wp2
          go_roundg (s.preds.length - (i + 1))
          case measure => omega
          case rel =>
            refine ⟨⟨⟨_, rfl, i + 1, bb && r.2, by go_num, by omega, ?_, ?_, ?_, gb_trans HGR.out HPO.out.2.2 (.inl rfl)⟩⟩, i + 1, by go_num, by omega⟩
            · rw [← HT.out]
              simp only [ByteArray.append_assoc]
              rfl
            · rw [← HBB.out, Bool.and_assoc]
            · have := HPO.out.2.1
              rw [this]
              congr 2
              cases b <;> cases bb <;> cases r.2 <;> rfl
        · obtain rfl : i = s.preds.length := by omega
          rw [List.drop_length, predsT_nil] at ht hbb
          have HPO : Aside0 (WPost g b (stepT s) w (.returned (.string t)) wr) := ⟨by rw [← ht, app_nil], by rw [← hbb, Bool.and_true]; exact hblk, hgr⟩
          clear ht hbb hgr hblk
          go_wp2
          go_ret
          exact HPO.out
  | false =>
    go_upto_region 2 with (go_at_call 45; refine hcn.mono ?_; rintro e w1 ⟨rfl, hb1⟩)
    go_upto_block 0 with fail
    cases nb with
    | true =>
      have HNM : Aside0 ((s.name = tStar ∨ isNm s.name = true)) := ⟨by rw [← HNB.out]; simp⟩
      have HB1 := Aside0.mk (below_step HBOX.out hb1)
      have hn1 := blk_below HN0.out hb1
      have HN1 := Aside0.mk hn1
      have y1 : w1.cell? ⟨w.heap.size, 1, none⟩ = some (.int .i64 s.axis) := (blk_cell hn1 1).trans rfl
      have y2 : w1.cell? ⟨w.heap.size, 2, none⟩ = some (.string s.name) := (blk_cell hn1 2).trans rfl
      have HFAIL := Aside0.mk (wFails_any g b w1 (hW0.out.below HB1.out).blk)
      have hnz : ¬ 9223372036854775807 < 1 + s.name.size := by omega
      clear hcn hb1 hn1 z0
      go_cut [6] (fun hv wx => w1 = wx ∧ ∃ h, hv = .string h ∧ Aside0 (headT s.axis s.name = some h))
      case first =>
        by_cases a4 : s.axis = 4
        · cases heb : (s.name.toList == []) with
          | true =>
            have he : s.name = ⟨#[]⟩ := name_beq heb
            have HH : Aside0 (headT s.axis s.name = some (tDot)) := ⟨by simp [headT, a4, he]⟩
            go_wp2
            go_meet
            case rel => exact ⟨rfl, _, rfl, HH⟩
          | false =>
            have he : s.name ≠ ⟨#[]⟩ := name_bne heb
            have HH : Aside0 (stepT s = (⟨#[]⟩, false)) := ⟨by rw [stepT_eq, show headT s.axis s.name = none from by simp [headT, a4, he]]⟩
            rw [HH.out]
            go_wp2_with fail
            go_at_call 22
            refine HFAIL.out.mono ?_
            rintro e w2 ⟨rfl, h2, h3⟩
            have HPO := Aside0.mk (WPost.of_alloc HB1.out ⟨rfl, h2, h3⟩)
            clear h2 h3
            go_wp2
            go_ret
            exact HPO.out
        by_cases a5 : s.axis = 5
        · cases heb : (s.name.toList == []) with
          | true =>
            have he : s.name = ⟨#[]⟩ := name_beq heb
            have HH : Aside0 (headT s.axis s.name = some (tDd)) := ⟨by simp [headT, a5, he]⟩
            go_wp2
            go_meet
            case rel => exact ⟨rfl, _, rfl, HH⟩
          | false =>
            have he : s.name ≠ ⟨#[]⟩ := name_bne heb
            have HH : Aside0 (stepT s = (⟨#[]⟩, false)) := ⟨by rw [stepT_eq, show headT s.axis s.name = none from by simp [headT, a5, he]]⟩
            rw [HH.out]
            go_wp2_with fail
            go_at_call 22
            refine HFAIL.out.mono ?_
            rintro e w2 ⟨rfl, h2, h3⟩
            have HPO := Aside0.mk (WPost.of_alloc HB1.out ⟨rfl, h2, h3⟩)
            clear h2 h3
            go_wp2
            go_ret
            exact HPO.out
        by_cases a3 : s.axis = 3
        · cases heb : (s.name.toList == []) with
          | true =>
            have he : s.name = ⟨#[]⟩ := name_beq heb
            have HH : Aside0 (headT s.axis s.name = some (⟨#[116, 101, 120, 116, 40, 41]⟩)) := ⟨by simp [headT, a3, he]⟩
            go_wp2
            go_meet
            case rel => exact ⟨rfl, _, rfl, HH⟩
          | false =>
            have he : s.name ≠ ⟨#[]⟩ := name_bne heb
            have HH : Aside0 (stepT s = (⟨#[]⟩, false)) := ⟨by rw [stepT_eq, show headT s.axis s.name = none from by simp [headT, a3, he]]⟩
            rw [HH.out]
            go_wp2_with fail
            go_at_call 22
            refine HFAIL.out.mono ?_
            rintro e w2 ⟨rfl, h2, h3⟩
            have HPO := Aside0.mk (WPost.of_alloc HB1.out ⟨rfl, h2, h3⟩)
            clear h2 h3
            go_wp2
            go_ret
            exact HPO.out
        by_cases a2 : s.axis = 2
        · have hn := HNM.out
          have HH : Aside0 (headT s.axis s.name = some (tAt ++ s.name)) := ⟨by rw [headT, if_neg (by simp [a2]), if_neg (by simp [a2]), if_neg (by simp [a2]), if_pos ⟨a2, hn⟩]⟩
          go_wp2
          go_meet
          case rel => exact ⟨rfl, _, rfl, HH⟩
        by_cases a1 : s.axis = 1
        · have hn := HNM.out
          have HH : Aside0 (headT s.axis s.name = some (s.name)) := ⟨by rw [headT, if_neg (by simp [a1]), if_neg (by simp [a1]), if_neg (by simp [a1]), if_neg (by simp [a1]), if_pos ⟨a1, hn⟩]⟩
          go_wp2
          go_meet
          case rel => exact ⟨rfl, _, rfl, HH⟩
        have HH : Aside0 (stepT s = (⟨#[]⟩, false)) := ⟨by rw [stepT_eq, show headT s.axis s.name = none from by rw [headT, if_neg (fun h => a4 h.1), if_neg (fun h => a5 h.1), if_neg (fun h => a3 h.1), if_neg (fun h => a2 h.1), if_neg (fun h => a1 h.1)]]⟩
        rw [HH.out]
        go_wp2_with fail
        go_at_call 22
        refine HFAIL.out.mono ?_
        rintro e w2 ⟨rfl, h2, h3⟩
        have HPO := Aside0.mk (WPost.of_alloc HB1.out ⟨rfl, h2, h3⟩)
        clear h2 h3
        go_wp2
        go_ret
        exact HPO.out
      case rest =>
        obtain ⟨rfl, h, rfl, HH⟩ := hcut
        have hst : stepT s = (h ++ (predsT s.preds).1, (predsT s.preds).2) := by rw [stepT_eq, HH.out]
        have hST : WStI s g b w h (.int .i64 ((0 : Nat) : Int)) w1 := ⟨0, true, rfl, by omega, by rw [hst]; rfl, by rw [hst]; rfl, by rw [Bool.not_true, Bool.or_false]; exact (hW0.out.below HB1.out).blk, grown_of_below HB1.out _⟩
        have HST : Aside0 (WStI2 s g b w (.string h) (.int .i64 ((0 : Nat) : Int)) w1) := ⟨⟨h, rfl, hST⟩⟩
        have y3 : w1.cell? ⟨w.heap.size, 3, none⟩ = some (.slice A s.preds.length c) := (blk_cell HN1.out 3).trans rfl
        have HZ := Aside0.mk hz
        have HNP := Aside0.mk hnp
        have HIH := Aside0.mk IH
        have hm : (s.preds.length : Int) ≤ 9223372036854775807 := by unfold maxLen at hpl2; omega
        clear hst hST HH hw0 hz hnp IH HN0 HBOX HNB HNM HFAIL hsb hnz y1 y2
        go_wp2
        go_loopg [6, 68] s.preds.length (fun gk ov iv wr => Aside0 (WStI2 s g b w ov iv wr) ∧ ∃ i : Nat, iv = .int .i64 i ∧ s.preds.length - i ≤ gk)
        case atStart => exact ⟨HST, 0, rfl, by omega⟩
        case round =>
          obtain ⟨hrel, i, rfl, hgk⟩ := hrel
          obtain ⟨t, rfl, i', bb, e, hil, ht, hbb, hblk, hgr⟩ := hrel.out
          obtain rfl : i = i' := by injection e with e1 e2; omega
          clear e hrel HST
          have hi0 : (0 : Int) ≤ (i : Int) := by omega
          by_cases hlt : i < s.preds.length
          · have hlt1 : (i : Int) < (s.preds.length : Int) := by omega
            obtain ⟨x, hxi⟩ : ∃ x, s.preds[i]? = some x := ⟨_, List.getElem?_eq_getElem hlt⟩
            have hdrop : s.preds.drop i = x :: s.preds.drop (i + 1) := by rw [List.drop_eq_getElem_cons hlt]; congr 1; rw [List.getElem?_eq_getElem hlt] at hxi; exact Option.some.inj hxi
            rw [hdrop, predsT_cons] at ht hbb
            have hWr := hW0.out.next hblk hgr
            obtain ⟨m, ad, c', u, u', hn, he, hok, hp, ha, x0, x1, x2, x3⟩ := (predsAt_grown HP0.out hW0.out.off hgr).getP hxi
            simp only [Value.slice.injEq, true_and] at he
            obtain ⟨rfl, rfl⟩ := he
            obtain ⟨A1, c1, rfl, hc3, hc4⟩ := hp.slice
            obtain ⟨B1, d1, rfl, hd3, hd4⟩ := ha.slice
            have hbA : Below wr.heap.size wr (wr.alloc (.cells #[.int .i64 x.kind, .int .i64 x.n, .slice A1 x.path.length c1, .slice B1 x.args.length d1] 41)) := below_alloc (Below.refl _ _) _
            have hsz := HZ.out
            rw [← ht] at hsz
            simp only [ByteArray.size_append] at hsz
            have hcall := HIH.out m (by omega) _ g (b || !bb) _ A1 B1 c1 d1 x (stepsAt_below hp hbA) (predsAt_below ha hbA) ((hWr.weak (fun k hk => hk.1)).below hbA |>.weak (fun k hk => hk.1)) ((nmPs_iff _).1 HNP.out x (List.mem_of_getElem? hxi)) (by omega)
            obtain ⟨r, hr⟩ : ∃ r, r = predT x := ⟨_, rfl⟩
            rw [← hr] at ht hbb hsz hcall
            have hs1 : tLb.size = 1 := rfl
            have hs2 : tRb.size = 1 := rfl
            unfold szMax at hsz
            rw [hs1, hs2] at hsz
            have hz1 : ¬ 9223372036854775807 < 1 + r.1.size := by omega
            have hz2 : ¬ 9223372036854775807 < 1 + r.1.size + 1 := by omega
            have hz3 : ¬ 9223372036854775807 < t.size + (1 + r.1.size + 1) := by omega
            have HT := Aside0.mk ht
            have HBB := Aside0.mk hbb
            have HGR := Aside0.mk hgr
            have HBA := Aside0.mk hbA
            clear ht hbb hgr hbA hblk hWr hp ha hdrop hxi hsz hr hs1 hs2
            go_wp2_with fail
            go_at_call 46
            refine hcall.mono ?_
            rintro e w2 ⟨rfl, h2, h3⟩
            have HPO := Aside0.mk (WPost.of_alloc HBA.out ⟨rfl, h2, h3⟩)
            clear hcall h2 h3 x0 x1 x2 x3
            go_wp2
            go_roundg (s.preds.length - (i + 1))
            case measure => omega
            case rel =>
              refine ⟨⟨⟨_, rfl, i + 1, bb && r.2, by go_num, by omega, ?_, ?_, ?_, gb_trans HGR.out HPO.out.2.2 (.inl rfl)⟩⟩, i + 1, by go_num, by omega⟩
              · rw [← HT.out]
                simp only [ByteArray.append_assoc]
                rfl
              · rw [← HBB.out, Bool.and_assoc]
              · have := HPO.out.2.1
                rw [this]
                congr 2
                cases b <;> cases bb <;> cases r.2 <;> rfl
          · obtain rfl : i = s.preds.length := by omega
            rw [List.drop_length, predsT_nil] at ht hbb
            have HPO : Aside0 (WPost g b (stepT s) w (.returned (.string t)) wr) := ⟨by rw [← ht, app_nil], by rw [← hbb, Bool.and_true]; exact hblk, hgr⟩
            clear ht hbb hgr hblk
            go_wp2
            go_ret
            exact HPO.out
    | false =>
      have HNM : Aside0 (¬ (s.name = tStar ∨ isNm s.name = true)) := ⟨by rw [← HNB.out]; have := name_bne hsb; simp; exact this⟩
      have HB1 := Aside0.mk (below_step HBOX.out hb1)
      have hn1 := blk_below HN0.out hb1
      have HN1 := Aside0.mk hn1
      have y1 : w1.cell? ⟨w.heap.size, 1, none⟩ = some (.int .i64 s.axis) := (blk_cell hn1 1).trans rfl
      have y2 : w1.cell? ⟨w.heap.size, 2, none⟩ = some (.string s.name) := (blk_cell hn1 2).trans rfl
      have HFAIL := Aside0.mk (wFails_any g b w1 (hW0.out.below HB1.out).blk)
      have hnz : ¬ 9223372036854775807 < 1 + s.name.size := by omega
      clear hcn hb1 hn1 z0
      go_cut [6] (fun hv wx => w1 = wx ∧ ∃ h, hv = .string h ∧ Aside0 (headT s.axis s.name = some h))
      case first =>
        by_cases a4 : s.axis = 4
        · cases heb : (s.name.toList == []) with
          | true =>
            have he : s.name = ⟨#[]⟩ := name_beq heb
            have HH : Aside0 (headT s.axis s.name = some (tDot)) := ⟨by simp [headT, a4, he]⟩
            go_wp2
            go_meet
            case rel => exact ⟨rfl, _, rfl, HH⟩
          | false =>
            have he : s.name ≠ ⟨#[]⟩ := name_bne heb
            have HH : Aside0 (stepT s = (⟨#[]⟩, false)) := ⟨by rw [stepT_eq, show headT s.axis s.name = none from by simp [headT, a4, he]]⟩
            rw [HH.out]
            go_wp2_with fail
            go_at_call 22
            refine HFAIL.out.mono ?_
            rintro e w2 ⟨rfl, h2, h3⟩
            have HPO := Aside0.mk (WPost.of_alloc HB1.out ⟨rfl, h2, h3⟩)
            clear h2 h3
            go_wp2
            go_ret
            exact HPO.out
        by_cases a5 : s.axis = 5
        · cases heb : (s.name.toList == []) with
          | true =>
            have he : s.name = ⟨#[]⟩ := name_beq heb
            have HH : Aside0 (headT s.axis s.name = some (tDd)) := ⟨by simp [headT, a5, he]⟩
            go_wp2
            go_meet
            case rel => exact ⟨rfl, _, rfl, HH⟩
          | false =>
            have he : s.name ≠ ⟨#[]⟩ := name_bne heb
            have HH : Aside0 (stepT s = (⟨#[]⟩, false)) := ⟨by rw [stepT_eq, show headT s.axis s.name = none from by simp [headT, a5, he]]⟩
            rw [HH.out]
            go_wp2_with fail
            go_at_call 22
            refine HFAIL.out.mono ?_
            rintro e w2 ⟨rfl, h2, h3⟩
            have HPO := Aside0.mk (WPost.of_alloc HB1.out ⟨rfl, h2, h3⟩)
            clear h2 h3
            go_wp2
            go_ret
            exact HPO.out
        by_cases a3 : s.axis = 3
        · cases heb : (s.name.toList == []) with
          | true =>
            have he : s.name = ⟨#[]⟩ := name_beq heb
            have HH : Aside0 (headT s.axis s.name = some (⟨#[116, 101, 120, 116, 40, 41]⟩)) := ⟨by simp [headT, a3, he]⟩
            go_wp2
            go_meet
            case rel => exact ⟨rfl, _, rfl, HH⟩
          | false =>
            have he : s.name ≠ ⟨#[]⟩ := name_bne heb
            have HH : Aside0 (stepT s = (⟨#[]⟩, false)) := ⟨by rw [stepT_eq, show headT s.axis s.name = none from by simp [headT, a3, he]]⟩
            rw [HH.out]
            go_wp2_with fail
            go_at_call 22
            refine HFAIL.out.mono ?_
            rintro e w2 ⟨rfl, h2, h3⟩
            have HPO := Aside0.mk (WPost.of_alloc HB1.out ⟨rfl, h2, h3⟩)
            clear h2 h3
            go_wp2
            go_ret
            exact HPO.out
        by_cases a2 : s.axis = 2
        · have hn := HNM.out
          have HH : Aside0 (stepT s = (⟨#[]⟩, false)) := ⟨by rw [stepT_eq, show headT s.axis s.name = none from by rw [headT, if_neg (by simp [a2]), if_neg (by simp [a2]), if_neg (by simp [a2]), if_neg (fun h => hn h.2), if_neg (by simp [a2])]]⟩
          rw [HH.out]
          go_wp2_with fail
          go_at_call 22
          refine HFAIL.out.mono ?_
          rintro e w2 ⟨rfl, h2, h3⟩
          have HPO := Aside0.mk (WPost.of_alloc HB1.out ⟨rfl, h2, h3⟩)
          clear h2 h3
          go_wp2
          go_ret
          exact HPO.out
        by_cases a1 : s.axis = 1
        · have hn := HNM.out
          have HH : Aside0 (stepT s = (⟨#[]⟩, false)) := ⟨by rw [stepT_eq, show headT s.axis s.name = none from by rw [headT, if_neg (by simp [a1]), if_neg (by simp [a1]), if_neg (by simp [a1]), if_neg (by simp [a1]), if_neg (fun h => hn h.2)]]⟩
          rw [HH.out]
          go_wp2_with fail
          go_at_call 22
          refine HFAIL.out.mono ?_
          rintro e w2 ⟨rfl, h2, h3⟩
          have HPO := Aside0.mk (WPost.of_alloc HB1.out ⟨rfl, h2, h3⟩)
          clear h2 h3
          go_wp2
          go_ret
          exact HPO.out
        have HH : Aside0 (stepT s = (⟨#[]⟩, false)) := ⟨by rw [stepT_eq, show headT s.axis s.name = none from by rw [headT, if_neg (fun h => a4 h.1), if_neg (fun h => a5 h.1), if_neg (fun h => a3 h.1), if_neg (fun h => a2 h.1), if_neg (fun h => a1 h.1)]]⟩
        rw [HH.out]
        go_wp2_with fail
        go_at_call 22
        refine HFAIL.out.mono ?_
        rintro e w2 ⟨rfl, h2, h3⟩
        have HPO := Aside0.mk (WPost.of_alloc HB1.out ⟨rfl, h2, h3⟩)
        clear h2 h3
        go_wp2
        go_ret
        exact HPO.out
      case rest =>
        obtain ⟨rfl, h, rfl, HH⟩ := hcut
        have hst : stepT s = (h ++ (predsT s.preds).1, (predsT s.preds).2) := by rw [stepT_eq, HH.out]
        have hST : WStI s g b w h (.int .i64 ((0 : Nat) : Int)) w1 := ⟨0, true, rfl, by omega, by rw [hst]; rfl, by rw [hst]; rfl, by rw [Bool.not_true, Bool.or_false]; exact (hW0.out.below HB1.out).blk, grown_of_below HB1.out _⟩
        have HST : Aside0 (WStI2 s g b w (.string h) (.int .i64 ((0 : Nat) : Int)) w1) := ⟨⟨h, rfl, hST⟩⟩
        have y3 : w1.cell? ⟨w.heap.size, 3, none⟩ = some (.slice A s.preds.length c) := (blk_cell HN1.out 3).trans rfl
        have HZ := Aside0.mk hz
        have HNP := Aside0.mk hnp
        have HIH := Aside0.mk IH
        have hm : (s.preds.length : Int) ≤ 9223372036854775807 := by unfold maxLen at hpl2; omega
        clear hst hST HH hw0 hz hnp IH HN0 HBOX HNB HNM HFAIL hsb hnz y1 y2
        go_wp2
        go_loopg [6, 68] s.preds.length (fun gk ov iv wr => Aside0 (WStI2 s g b w ov iv wr) ∧ ∃ i : Nat, iv = .int .i64 i ∧ s.preds.length - i ≤ gk)
        case atStart => exact ⟨HST, 0, rfl, by omega⟩
        case round =>
          obtain ⟨hrel, i, rfl, hgk⟩ := hrel
          obtain ⟨t, rfl, i', bb, e, hil, ht, hbb, hblk, hgr⟩ := hrel.out
          obtain rfl : i = i' := by injection e with e1 e2; omega
          clear e hrel HST
          have hi0 : (0 : Int) ≤ (i : Int) := by omega
          by_cases hlt : i < s.preds.length
          · have hlt1 : (i : Int) < (s.preds.length : Int) := by omega
            obtain ⟨x, hxi⟩ : ∃ x, s.preds[i]? = some x := ⟨_, List.getElem?_eq_getElem hlt⟩
            have hdrop : s.preds.drop i = x :: s.preds.drop (i + 1) := by rw [List.drop_eq_getElem_cons hlt]; congr 1; rw [List.getElem?_eq_getElem hlt] at hxi; exact Option.some.inj hxi
            rw [hdrop, predsT_cons] at ht hbb
            have hWr := hW0.out.next hblk hgr
            obtain ⟨m, ad, c', u, u', hn, he, hok, hp, ha, x0, x1, x2, x3⟩ := (predsAt_grown HP0.out hW0.out.off hgr).getP hxi
            simp only [Value.slice.injEq, true_and] at he
            obtain ⟨rfl, rfl⟩ := he
            obtain ⟨A1, c1, rfl, hc3, hc4⟩ := hp.slice
            obtain ⟨B1, d1, rfl, hd3, hd4⟩ := ha.slice
            have hbA : Below wr.heap.size wr (wr.alloc (.cells #[.int .i64 x.kind, .int .i64 x.n, .slice A1 x.path.length c1, .slice B1 x.args.length d1] 41)) := below_alloc (Below.refl _ _) _
            have hsz := HZ.out
            rw [← ht] at hsz
            simp only [ByteArray.size_append] at hsz
            have hcall := HIH.out m (by omega) _ g (b || !bb) _ A1 B1 c1 d1 x (stepsAt_below hp hbA) (predsAt_below ha hbA) ((hWr.weak (fun k hk => hk.1)).below hbA |>.weak (fun k hk => hk.1)) ((nmPs_iff _).1 HNP.out x (List.mem_of_getElem? hxi)) (by omega)
            obtain ⟨r, hr⟩ : ∃ r, r = predT x := ⟨_, rfl⟩
            rw [← hr] at ht hbb hsz hcall
            have hs1 : tLb.size = 1 := rfl
            have hs2 : tRb.size = 1 := rfl
            unfold szMax at hsz
            rw [hs1, hs2] at hsz
            have hz1 : ¬ 9223372036854775807 < 1 + r.1.size := by omega
            have hz2 : ¬ 9223372036854775807 < 1 + r.1.size + 1 := by omega
            have hz3 : ¬ 9223372036854775807 < t.size + (1 + r.1.size + 1) := by omega
            have HT := Aside0.mk ht
            have HBB := Aside0.mk hbb
            have HGR := Aside0.mk hgr
            have HBA := Aside0.mk hbA
            clear ht hbb hgr hbA hblk hWr hp ha hdrop hxi hsz hr hs1 hs2
            go_wp2_with fail
            go_at_call 46
            refine hcall.mono ?_
            rintro e w2 ⟨rfl, h2, h3⟩
            have HPO := Aside0.mk (WPost.of_alloc HBA.out ⟨rfl, h2, h3⟩)
            clear hcall h2 h3 x0 x1 x2 x3
            go_wp2
            go_roundg (s.preds.length - (i + 1))
            case measure => omega
            case rel =>
              refine ⟨⟨⟨_, rfl, i + 1, bb && r.2, by go_num, by omega, ?_, ?_, ?_, gb_trans HGR.out HPO.out.2.2 (.inl rfl)⟩⟩, i + 1, by go_num, by omega⟩
              · rw [← HT.out]
                simp only [ByteArray.append_assoc]
                rfl
              · rw [← HBB.out, Bool.and_assoc]
              · have := HPO.out.2.1
                rw [this]
                congr 2
                cases b <;> cases bb <;> cases r.2 <;> rfl
          · obtain rfl : i = s.preds.length := by omega
            rw [List.drop_length, predsT_nil] at ht hbb
            have HPO : Aside0 (WPost g b (stepT s) w (.returned (.string t)) wr) := ⟨by rw [← ht, app_nil], by rw [← hbb, Bool.and_true]; exact hblk, hgr⟩
            clear ht hbb hgr hblk
            go_wp2
            go_ret
            exact HPO.out
end Go.Proofs.YtoanmoddppmffaaGreatDoor.T
