/- The reference: a step written out. -/
import Derived.Test.YtoanmoddppmffaaGreatDoorXGb
namespace Go.Proofs.YtoanmoddppmffaaGreatDoor.T
open Go.RowKit Go.Shelf Go.Proofs.YtoanmoddppmffaaGreatDoorW.PrintWords
set_option linter.unusedVariables false
set_option linter.unusedSimpArgs false
structure RWStepI (s : Step) (w0 : World) (i : Nat) (t : ByteArray) (wr : World) : Prop where
  le : i ≤ s.preds.length
  txt : t ++ (predsT (s.preds.drop i)).1 = (stepT s).1
  ok : (predsT (s.preds.drop i)).2 = (stepT s).2
  bel : Below w0.heap.size w0 wr
set_option maxHeartbeats 8000000 in
set_option maxRecDepth 100000 in
theorem refWritten_any (n : Nat) (IH : ∀ m, m < n → RWHeldC m) : RWStepC n := by
  intro ok w A c s hp hnm hz
  obtain ⟨hpl1, hpl2⟩ : s.preds.length ≤ c ∧ c ≤ maxLen := by obtain ⟨A', c', e, h1, h2⟩ := hp.slice; injection e with e1 e2 e3; omega
  have hm : (s.preds.length : Int) ≤ 9223372036854775807 := by unfold maxLen at hpl2; omega
  obtain ⟨hns, hnp⟩ := (nmS_eq s).1 hnm
  have hbox : Below w.heap.size w (w.alloc (.cells #[.bool s.deep, .int .i64 s.axis, .string s.name, .slice A s.preds.length c] 39)) := below_alloc (Below.refl _ _) _
  have hn0 : (w.alloc (.cells #[.bool s.deep, .int .i64 s.axis, .string s.name, .slice A s.preds.length c] 39)).heap[w.heap.size]? = some (.cells #[.bool s.deep, .int .i64 s.axis, .string s.name, .slice A s.preds.length c] 39 (0, 0)) := blk_new _ _
  generalize hw0 : w.alloc (.cells #[.bool s.deep, .int .i64 s.axis, .string s.name, .slice A s.preds.length c] 39) = w0 at hbox hn0
  have z1 : w0.cell? ⟨w.heap.size, 1, none⟩ = some (.int .i64 s.axis) := (blk_cell hn0 1).trans rfl
  have z2 : w0.cell? ⟨w.heap.size, 2, none⟩ = some (.string s.name) := (blk_cell hn0 2).trans rfl
  have z3 : w0.cell? ⟨w.heap.size, 3, none⟩ = some (.slice A s.preds.length c) := (blk_cell hn0 3).trans rfl
  have HP0 := Aside0.mk hp
  have HN0 := Aside0.mk hn0
  have HBOX := Aside0.mk hbox
  have HZ := Aside0.mk hz
  have HNP := Aside0.mk hnp
  have HIH := Aside0.mk IH
  have hcn := refName_any s.name w0 (by omega)
  have hnz : ¬ 9223372036854775807 < 1 + s.name.size := by omega
  clear hp hn0 hbox hnm hz hnp IH
  go_enter Tryz.func30, Tryz.ntmps30
  go_upto_region 2 with (go_at_call 47; refine hcn.mono ?_; rintro e w1 ⟨rfl, rfl⟩)
  clear hcn
  by_cases a4 : s.axis = 4
  · cases heb : (s.name.toList == []) with
    | true =>
      have he : s.name = ⟨#[]⟩ := name_beq heb
      have HH : Aside0 (headT s.axis s.name = some (tDot)) := ⟨by simp [headT, a4, he]⟩
      have HST : Aside0 (RWStepI s w0 0 (tDot) w0) := ⟨⟨by omega, by rw [stepT_eq, HH.out]; rfl, by rw [stepT_eq, HH.out]; rfl, Below.refl _ _⟩⟩
      clear HH hw0
      go_wp2
      go_loopg [5, 7] s.preds.length (fun gk ov iv wr => ∃ (i : Nat) (t : ByteArray), iv = .int .i64 i ∧ ov = .string t ∧ s.preds.length - i ≤ gk ∧ Aside0 (RWStepI s w0 i t wr))
      case atStart => exact ⟨0, _, rfl, rfl, by omega, HST⟩
      case round =>
        clear a4 he heb
        obtain ⟨i, t, rfl, rfl, hgk, HI⟩ := hrel
        have hi0 : (0 : Int) ≤ (i : Int) := by omega
        have hil := HI.out.le
        clear HST z1 z2 z3
        have y3 : wr.cell? ⟨w.heap.size, 3, none⟩ = some (.slice A s.preds.length c) := (blk_cell (blk_below HN0.out HI.out.bel) 3).trans rfl
        by_cases hlt : i < s.preds.length
        · have hlt1 : (i : Int) < (s.preds.length : Int) := by omega
          obtain ⟨x, hxi⟩ : ∃ x, s.preds[i]? = some x := ⟨_, List.getElem?_eq_getElem hlt⟩
          have hdrop : s.preds.drop i = x :: s.preds.drop (i + 1) := by rw [List.drop_eq_getElem_cons hlt]; congr 1; rw [List.getElem?_eq_getElem hlt] at hxi; exact Option.some.inj hxi
          have HBR : Aside0 (Below w.heap.size w wr) := ⟨below_step HBOX.out HI.out.bel⟩
          obtain ⟨m, ad, c', u, u', hn, he, hok, hp, ha, x0, x1, x2, x3⟩ := (predsAt_below HP0.out HBR.out).getP hxi
          simp only [Value.slice.injEq, true_and] at he
          obtain ⟨rfl, rfl⟩ := he
          obtain ⟨A1, c1, rfl, hc3, hc4⟩ := hp.slice
          obtain ⟨B1, d1, rfl, hd3, hd4⟩ := ha.slice
          have htxt := HI.out.txt
          have hok2 := HI.out.ok
          rw [hdrop, predsT_cons] at htxt hok2
          have hsz := HZ.out
          rw [← htxt] at hsz
          simp only [ByteArray.size_append] at hsz
          have hs1 : tLb.size = 1 := rfl
          have hs2 : tRb.size = 1 := rfl
          unfold szMax at hsz
          rw [hs1, hs2] at hsz
          have hnx := (nmPs_iff _).1 HNP.out x (List.mem_of_getElem? hxi)
          obtain ⟨⟨hl1, hl2⟩, _⟩ := (nmP_eq x).1 hnx
          obtain ⟨r, hr⟩ : ∃ r, r = predT x := ⟨_, rfl⟩
          rw [← hr] at htxt hok2 hsz
          have HT := Aside0.mk htxt
          have HOK := Aside0.mk hok2
          have hz1 : ¬ 9223372036854775807 < t.size + 1 := by omega
          have hbA : Below wr.heap.size wr (wr.alloc (.cells #[.int .i64 x.kind, .int .i64 x.n, .slice A1 x.path.length c1, .slice B1 x.args.length d1] 41)) := below_alloc (Below.refl _ _) _
          have HBA := Aside0.mk hbA
          clear htxt hok2 hdrop hxi
          by_cases hk : x.kind = 1
          · by_cases h1 : x.n < 1
            · have hbad : r.2 = false := by rw [hr]; unfold predT; rw [if_neg (by simp [hk]), if_pos (.inl h1)]
              have HBW : Aside0 (Below w.heap.size w (wr.alloc (.cells #[.int .i64 x.kind, .int .i64 x.n, .slice A1 x.path.length c1, .slice B1 x.args.length d1] 41))) := ⟨below_step HBR.out HBA.out⟩
              rw [hk] at HBW
              clear hbA HBA hp ha hnx hr
              have HPO : Aside0 (RWPost (stepT s) w (.returned (.tuple #[.string ⟨#[]⟩, .bool false])) (wr.alloc (.cells #[.int .i64 1, .int .i64 x.n, .slice A1 x.path.length c1, .slice B1 x.args.length d1] 41))) := ⟨⟨⟨#[]⟩, by rw [← HOK.out, hbad, Bool.false_and], (fun h => by rw [← HOK.out, hbad, Bool.false_and] at h; cases h), Nat.zero_le _, HBW.out⟩⟩
              clear hbad
              go_wp2
              go_ret2
              exact HPO.out
            · by_cases h2 : 9999999 < x.n
              · have hbad : r.2 = false := by rw [hr]; unfold predT; rw [if_neg (by simp [hk]), if_pos (.inr (.inl h2))]
                have HBW : Aside0 (Below w.heap.size w (wr.alloc (.cells #[.int .i64 x.kind, .int .i64 x.n, .slice A1 x.path.length c1, .slice B1 x.args.length d1] 41))) := ⟨below_step HBR.out HBA.out⟩
                rw [hk] at HBW
                clear hbA HBA hp ha hnx hr
                have HPO : Aside0 (RWPost (stepT s) w (.returned (.tuple #[.string ⟨#[]⟩, .bool false])) (wr.alloc (.cells #[.int .i64 1, .int .i64 x.n, .slice A1 x.path.length c1, .slice B1 x.args.length d1] 41))) := ⟨⟨⟨#[]⟩, by rw [← HOK.out, hbad, Bool.false_and], (fun h => by rw [← HOK.out, hbad, Bool.false_and] at h; cases h), Nat.zero_le _, HBW.out⟩⟩
                clear hbad
                go_wp2
                go_ret2
                exact HPO.out
              · by_cases h3 : 0 < x.path.length + x.args.length
                · have hbad : r.2 = false := by rw [hr]; unfold predT; rw [if_neg (by simp [hk]), if_pos (.inr (.inr h3))]
                  have h3' : (0 : Int) < (x.path.length : Int) + (x.args.length : Int) := by omega
                  have HBW : Aside0 (Below w.heap.size w (wr.alloc (.cells #[.int .i64 x.kind, .int .i64 x.n, .slice A1 x.path.length c1, .slice B1 x.args.length d1] 41))) := ⟨below_step HBR.out HBA.out⟩
                  rw [hk] at HBW
                  clear hbA HBA hp ha hnx hr
                  have HPO : Aside0 (RWPost (stepT s) w (.returned (.tuple #[.string ⟨#[]⟩, .bool false])) (wr.alloc (.cells #[.int .i64 1, .int .i64 x.n, .slice A1 x.path.length c1, .slice B1 x.args.length d1] 41))) := ⟨⟨⟨#[]⟩, by rw [← HOK.out, hbad, Bool.false_and], (fun h => by rw [← HOK.out, hbad, Bool.false_and] at h; cases h), Nat.zero_le _, HBW.out⟩⟩
                  clear hbad
                  go_wp2
                  go_ret2
                  exact HPO.out
                · have hrv : r = (bs (Lib.itoa x.n), true) := by rw [hr]; unfold predT; rw [if_neg (by simp [hk]), if_neg (by omega)]
                  have hgood : r.2 = true := by rw [hrv]
                  have hr1 : r.1 = bs (Lib.itoa x.n) := by rw [hrv]
                  have hdg := digits_any x.n (wr.alloc (.cells #[.int .i64 x.kind, .int .i64 x.n, .slice A1 x.path.length c1, .slice B1 x.args.length d1] 41)) (by omega) (by omega)
                  rw [← hr1] at hdg
                  have hp0 : x.path.length = 0 := by omega
                  have ha0 : x.args.length = 0 := by omega
                  rw [hk, hp0, ha0] at hdg
                  rw [hk, hp0, ha0] at HBA
                  have hz2 : ¬ 9223372036854775807 < t.size + 1 + r.1.size := by omega
                  have hz3 : ¬ 9223372036854775807 < t.size + 1 + r.1.size + 1 := by omega
                  clear hbA hp ha hnx hr hrv hr1
                  go_wp2_with fail
                  go_at_call 48
                  refine hdg.mono ?_
                  rintro e w5 ⟨rfl, hb5⟩
                  have HBW0 : Aside0 (Below w0.heap.size w0 w5) := ⟨below_step HI.out.bel (below_step HBA.out hb5)⟩
                  have HNX : Aside0 (RWStepI s w0 (i + 1) (t ++ tLb ++ r.1 ++ tRb) w5) := ⟨⟨by omega, by rw [← HT.out]; simp only [ByteArray.append_assoc], by rw [← HOK.out, hgood, Bool.true_and], HBW0.out⟩⟩
                  clear hdg hb5 x0 x1 x2 x3 y3
                  clear hgood
                  go_wp2
                  go_roundg (s.preds.length - (i + 1))
                  case measure => omega
                  case rel => exact ⟨i + 1, _, by go_num, rfl, by omega, HNX⟩
          · have hrv : r = heldT x := by rw [hr]; unfold predT; rw [if_pos hk]
            rw [hrv] at hsz
            have hcall := HIH.out m (by omega) _ (wr.alloc (.cells #[.int .i64 x.kind, .int .i64 x.n, .slice A1 x.path.length c1, .slice B1 x.args.length d1] 41)) A1 B1 c1 d1 x (stepsAt_below hp hbA) (predsAt_below ha hbA) hnx (by unfold szMax; omega)
            rw [← hrv] at hcall hsz
            have hz2 : ¬ 9223372036854775807 < t.size + 1 + r.1.size := by omega
            have hz3 : ¬ 9223372036854775807 < t.size + 1 + r.1.size + 1 := by omega
            clear hbA hp ha hnx hr hrv
            go_wp2_with fail
            go_at_call 49
            refine hcall.mono ?_
            rintro e w5 ⟨q, rfl, hq1, hq2, hb5⟩
            have HBW0 : Aside0 (Below w0.heap.size w0 w5) := ⟨below_step HI.out.bel (below_step HBA.out hb5)⟩
            have HBW : Aside0 (Below w.heap.size w w5) := ⟨below_step HBR.out (below_step HBA.out hb5)⟩
            clear hcall hb5 x0 x1 x2 x3 y3
            cases hgood : r.2 with
            | true =>
              have hqr := hq1 hgood
              subst hqr
              have HNX : Aside0 (RWStepI s w0 (i + 1) (t ++ tLb ++ r.1 ++ tRb) w5) := ⟨⟨by omega, by rw [← HT.out]; simp only [ByteArray.append_assoc], by rw [← HOK.out, hgood, Bool.true_and], HBW0.out⟩⟩
              clear hgood
              go_wp2
              go_roundg (s.preds.length - (i + 1))
              case measure => omega
              case rel => exact ⟨i + 1, _, by go_num, rfl, by omega, HNX⟩
            | false =>
              have hbad := hgood
              clear hq1 hgood
              have HPO : Aside0 (RWPost (stepT s) w (.returned (.tuple #[.string ⟨#[]⟩, .bool false])) w5) := ⟨⟨⟨#[]⟩, by rw [← HOK.out, hbad, Bool.false_and], (fun h => by rw [← HOK.out, hbad, Bool.false_and] at h; cases h), Nat.zero_le _, HBW.out⟩⟩
              clear hbad
              go_wp2
              go_ret2
              exact HPO.out
        · obtain rfl : i = s.preds.length := by omega
          have htxt := HI.out.txt
          have hok2 := HI.out.ok
          rw [List.drop_length, predsT_nil] at htxt hok2
          have HPO : Aside0 (RWPost (stepT s) w (.returned (.tuple #[.string t, .bool true])) wr) := ⟨⟨t, by rw [← hok2], (fun _ => by rw [← htxt, app_nil]), by rw [← htxt, app_nil]; exact Nat.le_refl _, below_step HBOX.out HI.out.bel⟩⟩
          clear htxt hok2
          go_wp2
          go_ret2
          exact HPO.out
    | false =>
      have he : s.name ≠ ⟨#[]⟩ := name_bne heb
      have hr : stepT s = (⟨#[]⟩, false) := by rw [stepT_eq, show headT s.axis s.name = none from (by simp [headT, a4, he])]
      have HPO : Aside0 (RWPost (stepT s) w (.returned (.tuple #[.string ⟨#[]⟩, .bool false])) w0) := ⟨by rw [hr]; exact ⟨⟨#[]⟩, rfl, (fun h => by cases h), Nat.le_refl _, HBOX.out⟩⟩
      clear hw0 hr
      go_wp2
      go_ret2
      exact HPO.out
  by_cases a5 : s.axis = 5
  · cases heb : (s.name.toList == []) with
    | true =>
      have he : s.name = ⟨#[]⟩ := name_beq heb
      have HH : Aside0 (headT s.axis s.name = some (tDd)) := ⟨by simp [headT, a5, he]⟩
      have HST : Aside0 (RWStepI s w0 0 (tDd) w0) := ⟨⟨by omega, by rw [stepT_eq, HH.out]; rfl, by rw [stepT_eq, HH.out]; rfl, Below.refl _ _⟩⟩
      clear HH hw0
      go_wp2
      go_loopg [5, 7] s.preds.length (fun gk ov iv wr => ∃ (i : Nat) (t : ByteArray), iv = .int .i64 i ∧ ov = .string t ∧ s.preds.length - i ≤ gk ∧ Aside0 (RWStepI s w0 i t wr))
      case atStart => exact ⟨0, _, rfl, rfl, by omega, HST⟩
      case round =>
        clear a5 he heb
        obtain ⟨i, t, rfl, rfl, hgk, HI⟩ := hrel
        have hi0 : (0 : Int) ≤ (i : Int) := by omega
        have hil := HI.out.le
        clear HST z1 z2 z3
        have y3 : wr.cell? ⟨w.heap.size, 3, none⟩ = some (.slice A s.preds.length c) := (blk_cell (blk_below HN0.out HI.out.bel) 3).trans rfl
        by_cases hlt : i < s.preds.length
        · have hlt1 : (i : Int) < (s.preds.length : Int) := by omega
          obtain ⟨x, hxi⟩ : ∃ x, s.preds[i]? = some x := ⟨_, List.getElem?_eq_getElem hlt⟩
          have hdrop : s.preds.drop i = x :: s.preds.drop (i + 1) := by rw [List.drop_eq_getElem_cons hlt]; congr 1; rw [List.getElem?_eq_getElem hlt] at hxi; exact Option.some.inj hxi
          have HBR : Aside0 (Below w.heap.size w wr) := ⟨below_step HBOX.out HI.out.bel⟩
          obtain ⟨m, ad, c', u, u', hn, he, hok, hp, ha, x0, x1, x2, x3⟩ := (predsAt_below HP0.out HBR.out).getP hxi
          simp only [Value.slice.injEq, true_and] at he
          obtain ⟨rfl, rfl⟩ := he
          obtain ⟨A1, c1, rfl, hc3, hc4⟩ := hp.slice
          obtain ⟨B1, d1, rfl, hd3, hd4⟩ := ha.slice
          have htxt := HI.out.txt
          have hok2 := HI.out.ok
          rw [hdrop, predsT_cons] at htxt hok2
          have hsz := HZ.out
          rw [← htxt] at hsz
          simp only [ByteArray.size_append] at hsz
          have hs1 : tLb.size = 1 := rfl
          have hs2 : tRb.size = 1 := rfl
          unfold szMax at hsz
          rw [hs1, hs2] at hsz
          have hnx := (nmPs_iff _).1 HNP.out x (List.mem_of_getElem? hxi)
          obtain ⟨⟨hl1, hl2⟩, _⟩ := (nmP_eq x).1 hnx
          obtain ⟨r, hr⟩ : ∃ r, r = predT x := ⟨_, rfl⟩
          rw [← hr] at htxt hok2 hsz
          have HT := Aside0.mk htxt
          have HOK := Aside0.mk hok2
          have hz1 : ¬ 9223372036854775807 < t.size + 1 := by omega
          have hbA : Below wr.heap.size wr (wr.alloc (.cells #[.int .i64 x.kind, .int .i64 x.n, .slice A1 x.path.length c1, .slice B1 x.args.length d1] 41)) := below_alloc (Below.refl _ _) _
          have HBA := Aside0.mk hbA
          clear htxt hok2 hdrop hxi
          by_cases hk : x.kind = 1
          · by_cases h1 : x.n < 1
            · have hbad : r.2 = false := by rw [hr]; unfold predT; rw [if_neg (by simp [hk]), if_pos (.inl h1)]
              have HBW : Aside0 (Below w.heap.size w (wr.alloc (.cells #[.int .i64 x.kind, .int .i64 x.n, .slice A1 x.path.length c1, .slice B1 x.args.length d1] 41))) := ⟨below_step HBR.out HBA.out⟩
              rw [hk] at HBW
              clear hbA HBA hp ha hnx hr
              have HPO : Aside0 (RWPost (stepT s) w (.returned (.tuple #[.string ⟨#[]⟩, .bool false])) (wr.alloc (.cells #[.int .i64 1, .int .i64 x.n, .slice A1 x.path.length c1, .slice B1 x.args.length d1] 41))) := ⟨⟨⟨#[]⟩, by rw [← HOK.out, hbad, Bool.false_and], (fun h => by rw [← HOK.out, hbad, Bool.false_and] at h; cases h), Nat.zero_le _, HBW.out⟩⟩
              clear hbad
              go_wp2
              go_ret2
              exact HPO.out
            · by_cases h2 : 9999999 < x.n
              · have hbad : r.2 = false := by rw [hr]; unfold predT; rw [if_neg (by simp [hk]), if_pos (.inr (.inl h2))]
                have HBW : Aside0 (Below w.heap.size w (wr.alloc (.cells #[.int .i64 x.kind, .int .i64 x.n, .slice A1 x.path.length c1, .slice B1 x.args.length d1] 41))) := ⟨below_step HBR.out HBA.out⟩
                rw [hk] at HBW
                clear hbA HBA hp ha hnx hr
                have HPO : Aside0 (RWPost (stepT s) w (.returned (.tuple #[.string ⟨#[]⟩, .bool false])) (wr.alloc (.cells #[.int .i64 1, .int .i64 x.n, .slice A1 x.path.length c1, .slice B1 x.args.length d1] 41))) := ⟨⟨⟨#[]⟩, by rw [← HOK.out, hbad, Bool.false_and], (fun h => by rw [← HOK.out, hbad, Bool.false_and] at h; cases h), Nat.zero_le _, HBW.out⟩⟩
                clear hbad
                go_wp2
                go_ret2
                exact HPO.out
              · by_cases h3 : 0 < x.path.length + x.args.length
                · have hbad : r.2 = false := by rw [hr]; unfold predT; rw [if_neg (by simp [hk]), if_pos (.inr (.inr h3))]
                  have h3' : (0 : Int) < (x.path.length : Int) + (x.args.length : Int) := by omega
                  have HBW : Aside0 (Below w.heap.size w (wr.alloc (.cells #[.int .i64 x.kind, .int .i64 x.n, .slice A1 x.path.length c1, .slice B1 x.args.length d1] 41))) := ⟨below_step HBR.out HBA.out⟩
                  rw [hk] at HBW
                  clear hbA HBA hp ha hnx hr
                  have HPO : Aside0 (RWPost (stepT s) w (.returned (.tuple #[.string ⟨#[]⟩, .bool false])) (wr.alloc (.cells #[.int .i64 1, .int .i64 x.n, .slice A1 x.path.length c1, .slice B1 x.args.length d1] 41))) := ⟨⟨⟨#[]⟩, by rw [← HOK.out, hbad, Bool.false_and], (fun h => by rw [← HOK.out, hbad, Bool.false_and] at h; cases h), Nat.zero_le _, HBW.out⟩⟩
                  clear hbad
                  go_wp2
                  go_ret2
                  exact HPO.out
                · have hrv : r = (bs (Lib.itoa x.n), true) := by rw [hr]; unfold predT; rw [if_neg (by simp [hk]), if_neg (by omega)]
                  have hgood : r.2 = true := by rw [hrv]
                  have hr1 : r.1 = bs (Lib.itoa x.n) := by rw [hrv]
                  have hdg := digits_any x.n (wr.alloc (.cells #[.int .i64 x.kind, .int .i64 x.n, .slice A1 x.path.length c1, .slice B1 x.args.length d1] 41)) (by omega) (by omega)
                  rw [← hr1] at hdg
                  have hp0 : x.path.length = 0 := by omega
                  have ha0 : x.args.length = 0 := by omega
                  rw [hk, hp0, ha0] at hdg
                  rw [hk, hp0, ha0] at HBA
                  have hz2 : ¬ 9223372036854775807 < t.size + 1 + r.1.size := by omega
                  have hz3 : ¬ 9223372036854775807 < t.size + 1 + r.1.size + 1 := by omega
                  clear hbA hp ha hnx hr hrv hr1
                  go_wp2_with fail
                  go_at_call 48
                  refine hdg.mono ?_
                  rintro e w5 ⟨rfl, hb5⟩
                  have HBW0 : Aside0 (Below w0.heap.size w0 w5) := ⟨below_step HI.out.bel (below_step HBA.out hb5)⟩
                  have HNX : Aside0 (RWStepI s w0 (i + 1) (t ++ tLb ++ r.1 ++ tRb) w5) := ⟨⟨by omega, by rw [← HT.out]; simp only [ByteArray.append_assoc], by rw [← HOK.out, hgood, Bool.true_and], HBW0.out⟩⟩
                  clear hdg hb5 x0 x1 x2 x3 y3
                  clear hgood
                  go_wp2
                  go_roundg (s.preds.length - (i + 1))
                  case measure => omega
                  case rel => exact ⟨i + 1, _, by go_num, rfl, by omega, HNX⟩
          · have hrv : r = heldT x := by rw [hr]; unfold predT; rw [if_pos hk]
            rw [hrv] at hsz
            have hcall := HIH.out m (by omega) _ (wr.alloc (.cells #[.int .i64 x.kind, .int .i64 x.n, .slice A1 x.path.length c1, .slice B1 x.args.length d1] 41)) A1 B1 c1 d1 x (stepsAt_below hp hbA) (predsAt_below ha hbA) hnx (by unfold szMax; omega)
            rw [← hrv] at hcall hsz
            have hz2 : ¬ 9223372036854775807 < t.size + 1 + r.1.size := by omega
            have hz3 : ¬ 9223372036854775807 < t.size + 1 + r.1.size + 1 := by omega
            clear hbA hp ha hnx hr hrv
            go_wp2_with fail
            go_at_call 49
            refine hcall.mono ?_
            rintro e w5 ⟨q, rfl, hq1, hq2, hb5⟩
            have HBW0 : Aside0 (Below w0.heap.size w0 w5) := ⟨below_step HI.out.bel (below_step HBA.out hb5)⟩
            have HBW : Aside0 (Below w.heap.size w w5) := ⟨below_step HBR.out (below_step HBA.out hb5)⟩
            clear hcall hb5 x0 x1 x2 x3 y3
            cases hgood : r.2 with
            | true =>
              have hqr := hq1 hgood
              subst hqr
              have HNX : Aside0 (RWStepI s w0 (i + 1) (t ++ tLb ++ r.1 ++ tRb) w5) := ⟨⟨by omega, by rw [← HT.out]; simp only [ByteArray.append_assoc], by rw [← HOK.out, hgood, Bool.true_and], HBW0.out⟩⟩
              clear hgood
              go_wp2
              go_roundg (s.preds.length - (i + 1))
              case measure => omega
              case rel => exact ⟨i + 1, _, by go_num, rfl, by omega, HNX⟩
            | false =>
              have hbad := hgood
              clear hq1 hgood
              have HPO : Aside0 (RWPost (stepT s) w (.returned (.tuple #[.string ⟨#[]⟩, .bool false])) w5) := ⟨⟨⟨#[]⟩, by rw [← HOK.out, hbad, Bool.false_and], (fun h => by rw [← HOK.out, hbad, Bool.false_and] at h; cases h), Nat.zero_le _, HBW.out⟩⟩
              clear hbad
              go_wp2
              go_ret2
              exact HPO.out
        · obtain rfl : i = s.preds.length := by omega
          have htxt := HI.out.txt
          have hok2 := HI.out.ok
          rw [List.drop_length, predsT_nil] at htxt hok2
          have HPO : Aside0 (RWPost (stepT s) w (.returned (.tuple #[.string t, .bool true])) wr) := ⟨⟨t, by rw [← hok2], (fun _ => by rw [← htxt, app_nil]), by rw [← htxt, app_nil]; exact Nat.le_refl _, below_step HBOX.out HI.out.bel⟩⟩
          clear htxt hok2
          go_wp2
          go_ret2
          exact HPO.out
    | false =>
      have he : s.name ≠ ⟨#[]⟩ := name_bne heb
      have hr : stepT s = (⟨#[]⟩, false) := by rw [stepT_eq, show headT s.axis s.name = none from (by simp [headT, a5, he])]
      have HPO : Aside0 (RWPost (stepT s) w (.returned (.tuple #[.string ⟨#[]⟩, .bool false])) w0) := ⟨by rw [hr]; exact ⟨⟨#[]⟩, rfl, (fun h => by cases h), Nat.le_refl _, HBOX.out⟩⟩
      clear hw0 hr
      go_wp2
      go_ret2
      exact HPO.out
  by_cases a3 : s.axis = 3
  · cases heb : (s.name.toList == []) with
    | true =>
      have he : s.name = ⟨#[]⟩ := name_beq heb
      have HH : Aside0 (headT s.axis s.name = some (⟨#[116, 101, 120, 116, 40, 41]⟩)) := ⟨by simp [headT, a3, he]⟩
      have HST : Aside0 (RWStepI s w0 0 (⟨#[116, 101, 120, 116, 40, 41]⟩) w0) := ⟨⟨by omega, by rw [stepT_eq, HH.out]; rfl, by rw [stepT_eq, HH.out]; rfl, Below.refl _ _⟩⟩
      clear HH hw0
      go_wp2
      go_loopg [5, 7] s.preds.length (fun gk ov iv wr => ∃ (i : Nat) (t : ByteArray), iv = .int .i64 i ∧ ov = .string t ∧ s.preds.length - i ≤ gk ∧ Aside0 (RWStepI s w0 i t wr))
      case atStart => exact ⟨0, _, rfl, rfl, by omega, HST⟩
      case round =>
        clear a3 he heb
        obtain ⟨i, t, rfl, rfl, hgk, HI⟩ := hrel
        have hi0 : (0 : Int) ≤ (i : Int) := by omega
        have hil := HI.out.le
        clear HST z1 z2 z3
        have y3 : wr.cell? ⟨w.heap.size, 3, none⟩ = some (.slice A s.preds.length c) := (blk_cell (blk_below HN0.out HI.out.bel) 3).trans rfl
        by_cases hlt : i < s.preds.length
        · have hlt1 : (i : Int) < (s.preds.length : Int) := by omega
          obtain ⟨x, hxi⟩ : ∃ x, s.preds[i]? = some x := ⟨_, List.getElem?_eq_getElem hlt⟩
          have hdrop : s.preds.drop i = x :: s.preds.drop (i + 1) := by rw [List.drop_eq_getElem_cons hlt]; congr 1; rw [List.getElem?_eq_getElem hlt] at hxi; exact Option.some.inj hxi
          have HBR : Aside0 (Below w.heap.size w wr) := ⟨below_step HBOX.out HI.out.bel⟩
          obtain ⟨m, ad, c', u, u', hn, he, hok, hp, ha, x0, x1, x2, x3⟩ := (predsAt_below HP0.out HBR.out).getP hxi
          simp only [Value.slice.injEq, true_and] at he
          obtain ⟨rfl, rfl⟩ := he
          obtain ⟨A1, c1, rfl, hc3, hc4⟩ := hp.slice
          obtain ⟨B1, d1, rfl, hd3, hd4⟩ := ha.slice
          have htxt := HI.out.txt
          have hok2 := HI.out.ok
          rw [hdrop, predsT_cons] at htxt hok2
          have hsz := HZ.out
          rw [← htxt] at hsz
          simp only [ByteArray.size_append] at hsz
          have hs1 : tLb.size = 1 := rfl
          have hs2 : tRb.size = 1 := rfl
          unfold szMax at hsz
          rw [hs1, hs2] at hsz
          have hnx := (nmPs_iff _).1 HNP.out x (List.mem_of_getElem? hxi)
          obtain ⟨⟨hl1, hl2⟩, _⟩ := (nmP_eq x).1 hnx
          obtain ⟨r, hr⟩ : ∃ r, r = predT x := ⟨_, rfl⟩
          rw [← hr] at htxt hok2 hsz
          have HT := Aside0.mk htxt
          have HOK := Aside0.mk hok2
          have hz1 : ¬ 9223372036854775807 < t.size + 1 := by omega
          have hbA : Below wr.heap.size wr (wr.alloc (.cells #[.int .i64 x.kind, .int .i64 x.n, .slice A1 x.path.length c1, .slice B1 x.args.length d1] 41)) := below_alloc (Below.refl _ _) _
          have HBA := Aside0.mk hbA
          clear htxt hok2 hdrop hxi
          by_cases hk : x.kind = 1
          · by_cases h1 : x.n < 1
            · have hbad : r.2 = false := by rw [hr]; unfold predT; rw [if_neg (by simp [hk]), if_pos (.inl h1)]
              have HBW : Aside0 (Below w.heap.size w (wr.alloc (.cells #[.int .i64 x.kind, .int .i64 x.n, .slice A1 x.path.length c1, .slice B1 x.args.length d1] 41))) := ⟨below_step HBR.out HBA.out⟩
              rw [hk] at HBW
              clear hbA HBA hp ha hnx hr
              have HPO : Aside0 (RWPost (stepT s) w (.returned (.tuple #[.string ⟨#[]⟩, .bool false])) (wr.alloc (.cells #[.int .i64 1, .int .i64 x.n, .slice A1 x.path.length c1, .slice B1 x.args.length d1] 41))) := ⟨⟨⟨#[]⟩, by rw [← HOK.out, hbad, Bool.false_and], (fun h => by rw [← HOK.out, hbad, Bool.false_and] at h; cases h), Nat.zero_le _, HBW.out⟩⟩
              clear hbad
              go_wp2
              go_ret2
              exact HPO.out
            · by_cases h2 : 9999999 < x.n
              · have hbad : r.2 = false := by rw [hr]; unfold predT; rw [if_neg (by simp [hk]), if_pos (.inr (.inl h2))]
                have HBW : Aside0 (Below w.heap.size w (wr.alloc (.cells #[.int .i64 x.kind, .int .i64 x.n, .slice A1 x.path.length c1, .slice B1 x.args.length d1] 41))) := ⟨below_step HBR.out HBA.out⟩
                rw [hk] at HBW
                clear hbA HBA hp ha hnx hr
                have HPO : Aside0 (RWPost (stepT s) w (.returned (.tuple #[.string ⟨#[]⟩, .bool false])) (wr.alloc (.cells #[.int .i64 1, .int .i64 x.n, .slice A1 x.path.length c1, .slice B1 x.args.length d1] 41))) := ⟨⟨⟨#[]⟩, by rw [← HOK.out, hbad, Bool.false_and], (fun h => by rw [← HOK.out, hbad, Bool.false_and] at h; cases h), Nat.zero_le _, HBW.out⟩⟩
                clear hbad
                go_wp2
                go_ret2
                exact HPO.out
              · by_cases h3 : 0 < x.path.length + x.args.length
                · have hbad : r.2 = false := by rw [hr]; unfold predT; rw [if_neg (by simp [hk]), if_pos (.inr (.inr h3))]
                  have h3' : (0 : Int) < (x.path.length : Int) + (x.args.length : Int) := by omega
                  have HBW : Aside0 (Below w.heap.size w (wr.alloc (.cells #[.int .i64 x.kind, .int .i64 x.n, .slice A1 x.path.length c1, .slice B1 x.args.length d1] 41))) := ⟨below_step HBR.out HBA.out⟩
                  rw [hk] at HBW
                  clear hbA HBA hp ha hnx hr
                  have HPO : Aside0 (RWPost (stepT s) w (.returned (.tuple #[.string ⟨#[]⟩, .bool false])) (wr.alloc (.cells #[.int .i64 1, .int .i64 x.n, .slice A1 x.path.length c1, .slice B1 x.args.length d1] 41))) := ⟨⟨⟨#[]⟩, by rw [← HOK.out, hbad, Bool.false_and], (fun h => by rw [← HOK.out, hbad, Bool.false_and] at h; cases h), Nat.zero_le _, HBW.out⟩⟩
                  clear hbad
                  go_wp2
                  go_ret2
                  exact HPO.out
                · have hrv : r = (bs (Lib.itoa x.n), true) := by rw [hr]; unfold predT; rw [if_neg (by simp [hk]), if_neg (by omega)]
                  have hgood : r.2 = true := by rw [hrv]
                  have hr1 : r.1 = bs (Lib.itoa x.n) := by rw [hrv]
                  have hdg := digits_any x.n (wr.alloc (.cells #[.int .i64 x.kind, .int .i64 x.n, .slice A1 x.path.length c1, .slice B1 x.args.length d1] 41)) (by omega) (by omega)
                  rw [← hr1] at hdg
                  have hp0 : x.path.length = 0 := by omega
                  have ha0 : x.args.length = 0 := by omega
                  rw [hk, hp0, ha0] at hdg
                  rw [hk, hp0, ha0] at HBA
                  have hz2 : ¬ 9223372036854775807 < t.size + 1 + r.1.size := by omega
                  have hz3 : ¬ 9223372036854775807 < t.size + 1 + r.1.size + 1 := by omega
                  clear hbA hp ha hnx hr hrv hr1
                  go_wp2_with fail
                  go_at_call 48
                  refine hdg.mono ?_
                  rintro e w5 ⟨rfl, hb5⟩
                  have HBW0 : Aside0 (Below w0.heap.size w0 w5) := ⟨below_step HI.out.bel (below_step HBA.out hb5)⟩
                  have HNX : Aside0 (RWStepI s w0 (i + 1) (t ++ tLb ++ r.1 ++ tRb) w5) := ⟨⟨by omega, by rw [← HT.out]; simp only [ByteArray.append_assoc], by rw [← HOK.out, hgood, Bool.true_and], HBW0.out⟩⟩
                  clear hdg hb5 x0 x1 x2 x3 y3
                  clear hgood
                  go_wp2
                  go_roundg (s.preds.length - (i + 1))
                  case measure => omega
                  case rel => exact ⟨i + 1, _, by go_num, rfl, by omega, HNX⟩
          · have hrv : r = heldT x := by rw [hr]; unfold predT; rw [if_pos hk]
            rw [hrv] at hsz
            have hcall := HIH.out m (by omega) _ (wr.alloc (.cells #[.int .i64 x.kind, .int .i64 x.n, .slice A1 x.path.length c1, .slice B1 x.args.length d1] 41)) A1 B1 c1 d1 x (stepsAt_below hp hbA) (predsAt_below ha hbA) hnx (by unfold szMax; omega)
            rw [← hrv] at hcall hsz
            have hz2 : ¬ 9223372036854775807 < t.size + 1 + r.1.size := by omega
            have hz3 : ¬ 9223372036854775807 < t.size + 1 + r.1.size + 1 := by omega
            clear hbA hp ha hnx hr hrv
            go_wp2_with fail
            go_at_call 49
            refine hcall.mono ?_
            rintro e w5 ⟨q, rfl, hq1, hq2, hb5⟩
            have HBW0 : Aside0 (Below w0.heap.size w0 w5) := ⟨below_step HI.out.bel (below_step HBA.out hb5)⟩
            have HBW : Aside0 (Below w.heap.size w w5) := ⟨below_step HBR.out (below_step HBA.out hb5)⟩
            clear hcall hb5 x0 x1 x2 x3 y3
            cases hgood : r.2 with
            | true =>
              have hqr := hq1 hgood
              subst hqr
              have HNX : Aside0 (RWStepI s w0 (i + 1) (t ++ tLb ++ r.1 ++ tRb) w5) := ⟨⟨by omega, by rw [← HT.out]; simp only [ByteArray.append_assoc], by rw [← HOK.out, hgood, Bool.true_and], HBW0.out⟩⟩
              clear hgood
              go_wp2
              go_roundg (s.preds.length - (i + 1))
              case measure => omega
              case rel => exact ⟨i + 1, _, by go_num, rfl, by omega, HNX⟩
            | false =>
              have hbad := hgood
              clear hq1 hgood
              have HPO : Aside0 (RWPost (stepT s) w (.returned (.tuple #[.string ⟨#[]⟩, .bool false])) w5) := ⟨⟨⟨#[]⟩, by rw [← HOK.out, hbad, Bool.false_and], (fun h => by rw [← HOK.out, hbad, Bool.false_and] at h; cases h), Nat.zero_le _, HBW.out⟩⟩
              clear hbad
              go_wp2
              go_ret2
              exact HPO.out
        · obtain rfl : i = s.preds.length := by omega
          have htxt := HI.out.txt
          have hok2 := HI.out.ok
          rw [List.drop_length, predsT_nil] at htxt hok2
          have HPO : Aside0 (RWPost (stepT s) w (.returned (.tuple #[.string t, .bool true])) wr) := ⟨⟨t, by rw [← hok2], (fun _ => by rw [← htxt, app_nil]), by rw [← htxt, app_nil]; exact Nat.le_refl _, below_step HBOX.out HI.out.bel⟩⟩
          clear htxt hok2
          go_wp2
          go_ret2
          exact HPO.out
    | false =>
      have he : s.name ≠ ⟨#[]⟩ := name_bne heb
      have hr : stepT s = (⟨#[]⟩, false) := by rw [stepT_eq, show headT s.axis s.name = none from (by simp [headT, a3, he])]
      have HPO : Aside0 (RWPost (stepT s) w (.returned (.tuple #[.string ⟨#[]⟩, .bool false])) w0) := ⟨by rw [hr]; exact ⟨⟨#[]⟩, rfl, (fun h => by cases h), Nat.le_refl _, HBOX.out⟩⟩
      clear hw0 hr
      go_wp2
      go_ret2
      exact HPO.out
  by_cases a2 : s.axis = 2
  · cases hsb : (s.name.toList == [42]) with
    | true =>
      have hn : s.name = tStar ∨ isNm s.name = true := .inl (name_beq hsb)
      have HH : Aside0 (headT s.axis s.name = some (tAt ++ s.name)) := ⟨by rw [headT, if_neg (by simp [a2]), if_neg (by simp [a2]), if_neg (by simp [a2]), if_pos ⟨a2, hn⟩]⟩
      have HST : Aside0 (RWStepI s w0 0 (tAt ++ s.name) w0) := ⟨⟨by omega, by rw [stepT_eq, HH.out]; rfl, by rw [stepT_eq, HH.out]; rfl, Below.refl _ _⟩⟩
      clear HH hw0
      go_wp2
      go_loopg [5, 7] s.preds.length (fun gk ov iv wr => ∃ (i : Nat) (t : ByteArray), iv = .int .i64 i ∧ ov = .string t ∧ s.preds.length - i ≤ gk ∧ Aside0 (RWStepI s w0 i t wr))
      case atStart => exact ⟨0, _, rfl, rfl, by omega, HST⟩
      case round =>
        clear a2 hn hsb
        obtain ⟨i, t, rfl, rfl, hgk, HI⟩ := hrel
        have hi0 : (0 : Int) ≤ (i : Int) := by omega
        have hil := HI.out.le
        clear HST z1 z2 z3
        have y3 : wr.cell? ⟨w.heap.size, 3, none⟩ = some (.slice A s.preds.length c) := (blk_cell (blk_below HN0.out HI.out.bel) 3).trans rfl
        by_cases hlt : i < s.preds.length
        · have hlt1 : (i : Int) < (s.preds.length : Int) := by omega
          obtain ⟨x, hxi⟩ : ∃ x, s.preds[i]? = some x := ⟨_, List.getElem?_eq_getElem hlt⟩
          have hdrop : s.preds.drop i = x :: s.preds.drop (i + 1) := by rw [List.drop_eq_getElem_cons hlt]; congr 1; rw [List.getElem?_eq_getElem hlt] at hxi; exact Option.some.inj hxi
          have HBR : Aside0 (Below w.heap.size w wr) := ⟨below_step HBOX.out HI.out.bel⟩
          obtain ⟨m, ad, c', u, u', hn, he, hok, hp, ha, x0, x1, x2, x3⟩ := (predsAt_below HP0.out HBR.out).getP hxi
          simp only [Value.slice.injEq, true_and] at he
          obtain ⟨rfl, rfl⟩ := he
          obtain ⟨A1, c1, rfl, hc3, hc4⟩ := hp.slice
          obtain ⟨B1, d1, rfl, hd3, hd4⟩ := ha.slice
          have htxt := HI.out.txt
          have hok2 := HI.out.ok
          rw [hdrop, predsT_cons] at htxt hok2
          have hsz := HZ.out
          rw [← htxt] at hsz
          simp only [ByteArray.size_append] at hsz
          have hs1 : tLb.size = 1 := rfl
          have hs2 : tRb.size = 1 := rfl
          unfold szMax at hsz
          rw [hs1, hs2] at hsz
          have hnx := (nmPs_iff _).1 HNP.out x (List.mem_of_getElem? hxi)
          obtain ⟨⟨hl1, hl2⟩, _⟩ := (nmP_eq x).1 hnx
          obtain ⟨r, hr⟩ : ∃ r, r = predT x := ⟨_, rfl⟩
          rw [← hr] at htxt hok2 hsz
          have HT := Aside0.mk htxt
          have HOK := Aside0.mk hok2
          have hz1 : ¬ 9223372036854775807 < t.size + 1 := by omega
          have hbA : Below wr.heap.size wr (wr.alloc (.cells #[.int .i64 x.kind, .int .i64 x.n, .slice A1 x.path.length c1, .slice B1 x.args.length d1] 41)) := below_alloc (Below.refl _ _) _
          have HBA := Aside0.mk hbA
          clear htxt hok2 hdrop hxi
          by_cases hk : x.kind = 1
          · by_cases h1 : x.n < 1
            · have hbad : r.2 = false := by rw [hr]; unfold predT; rw [if_neg (by simp [hk]), if_pos (.inl h1)]
              have HBW : Aside0 (Below w.heap.size w (wr.alloc (.cells #[.int .i64 x.kind, .int .i64 x.n, .slice A1 x.path.length c1, .slice B1 x.args.length d1] 41))) := ⟨below_step HBR.out HBA.out⟩
              rw [hk] at HBW
              clear hbA HBA hp ha hnx hr
              have HPO : Aside0 (RWPost (stepT s) w (.returned (.tuple #[.string ⟨#[]⟩, .bool false])) (wr.alloc (.cells #[.int .i64 1, .int .i64 x.n, .slice A1 x.path.length c1, .slice B1 x.args.length d1] 41))) := ⟨⟨⟨#[]⟩, by rw [← HOK.out, hbad, Bool.false_and], (fun h => by rw [← HOK.out, hbad, Bool.false_and] at h; cases h), Nat.zero_le _, HBW.out⟩⟩
              clear hbad
              go_wp2
              go_ret2
              exact HPO.out
            · by_cases h2 : 9999999 < x.n
              · have hbad : r.2 = false := by rw [hr]; unfold predT; rw [if_neg (by simp [hk]), if_pos (.inr (.inl h2))]
                have HBW : Aside0 (Below w.heap.size w (wr.alloc (.cells #[.int .i64 x.kind, .int .i64 x.n, .slice A1 x.path.length c1, .slice B1 x.args.length d1] 41))) := ⟨below_step HBR.out HBA.out⟩
                rw [hk] at HBW
                clear hbA HBA hp ha hnx hr
                have HPO : Aside0 (RWPost (stepT s) w (.returned (.tuple #[.string ⟨#[]⟩, .bool false])) (wr.alloc (.cells #[.int .i64 1, .int .i64 x.n, .slice A1 x.path.length c1, .slice B1 x.args.length d1] 41))) := ⟨⟨⟨#[]⟩, by rw [← HOK.out, hbad, Bool.false_and], (fun h => by rw [← HOK.out, hbad, Bool.false_and] at h; cases h), Nat.zero_le _, HBW.out⟩⟩
                clear hbad
                go_wp2
                go_ret2
                exact HPO.out
              · by_cases h3 : 0 < x.path.length + x.args.length
                · have hbad : r.2 = false := by rw [hr]; unfold predT; rw [if_neg (by simp [hk]), if_pos (.inr (.inr h3))]
                  have h3' : (0 : Int) < (x.path.length : Int) + (x.args.length : Int) := by omega
                  have HBW : Aside0 (Below w.heap.size w (wr.alloc (.cells #[.int .i64 x.kind, .int .i64 x.n, .slice A1 x.path.length c1, .slice B1 x.args.length d1] 41))) := ⟨below_step HBR.out HBA.out⟩
                  rw [hk] at HBW
                  clear hbA HBA hp ha hnx hr
                  have HPO : Aside0 (RWPost (stepT s) w (.returned (.tuple #[.string ⟨#[]⟩, .bool false])) (wr.alloc (.cells #[.int .i64 1, .int .i64 x.n, .slice A1 x.path.length c1, .slice B1 x.args.length d1] 41))) := ⟨⟨⟨#[]⟩, by rw [← HOK.out, hbad, Bool.false_and], (fun h => by rw [← HOK.out, hbad, Bool.false_and] at h; cases h), Nat.zero_le _, HBW.out⟩⟩
                  clear hbad
                  go_wp2
                  go_ret2
                  exact HPO.out
                · have hrv : r = (bs (Lib.itoa x.n), true) := by rw [hr]; unfold predT; rw [if_neg (by simp [hk]), if_neg (by omega)]
                  have hgood : r.2 = true := by rw [hrv]
                  have hr1 : r.1 = bs (Lib.itoa x.n) := by rw [hrv]
                  have hdg := digits_any x.n (wr.alloc (.cells #[.int .i64 x.kind, .int .i64 x.n, .slice A1 x.path.length c1, .slice B1 x.args.length d1] 41)) (by omega) (by omega)
                  rw [← hr1] at hdg
                  have hp0 : x.path.length = 0 := by omega
                  have ha0 : x.args.length = 0 := by omega
                  rw [hk, hp0, ha0] at hdg
                  rw [hk, hp0, ha0] at HBA
                  have hz2 : ¬ 9223372036854775807 < t.size + 1 + r.1.size := by omega
                  have hz3 : ¬ 9223372036854775807 < t.size + 1 + r.1.size + 1 := by omega
                  clear hbA hp ha hnx hr hrv hr1
                  go_wp2_with fail
                  go_at_call 48
                  refine hdg.mono ?_
                  rintro e w5 ⟨rfl, hb5⟩
                  have HBW0 : Aside0 (Below w0.heap.size w0 w5) := ⟨below_step HI.out.bel (below_step HBA.out hb5)⟩
                  have HNX : Aside0 (RWStepI s w0 (i + 1) (t ++ tLb ++ r.1 ++ tRb) w5) := ⟨⟨by omega, by rw [← HT.out]; simp only [ByteArray.append_assoc], by rw [← HOK.out, hgood, Bool.true_and], HBW0.out⟩⟩
                  clear hdg hb5 x0 x1 x2 x3 y3
                  clear hgood
                  go_wp2
                  go_roundg (s.preds.length - (i + 1))
                  case measure => omega
                  case rel => exact ⟨i + 1, _, by go_num, rfl, by omega, HNX⟩
          · have hrv : r = heldT x := by rw [hr]; unfold predT; rw [if_pos hk]
            rw [hrv] at hsz
            have hcall := HIH.out m (by omega) _ (wr.alloc (.cells #[.int .i64 x.kind, .int .i64 x.n, .slice A1 x.path.length c1, .slice B1 x.args.length d1] 41)) A1 B1 c1 d1 x (stepsAt_below hp hbA) (predsAt_below ha hbA) hnx (by unfold szMax; omega)
            rw [← hrv] at hcall hsz
            have hz2 : ¬ 9223372036854775807 < t.size + 1 + r.1.size := by omega
            have hz3 : ¬ 9223372036854775807 < t.size + 1 + r.1.size + 1 := by omega
            clear hbA hp ha hnx hr hrv
            go_wp2_with fail
            go_at_call 49
            refine hcall.mono ?_
            rintro e w5 ⟨q, rfl, hq1, hq2, hb5⟩
            have HBW0 : Aside0 (Below w0.heap.size w0 w5) := ⟨below_step HI.out.bel (below_step HBA.out hb5)⟩
            have HBW : Aside0 (Below w.heap.size w w5) := ⟨below_step HBR.out (below_step HBA.out hb5)⟩
            clear hcall hb5 x0 x1 x2 x3 y3
            cases hgood : r.2 with
            | true =>
              have hqr := hq1 hgood
              subst hqr
              have HNX : Aside0 (RWStepI s w0 (i + 1) (t ++ tLb ++ r.1 ++ tRb) w5) := ⟨⟨by omega, by rw [← HT.out]; simp only [ByteArray.append_assoc], by rw [← HOK.out, hgood, Bool.true_and], HBW0.out⟩⟩
              clear hgood
              go_wp2
              go_roundg (s.preds.length - (i + 1))
              case measure => omega
              case rel => exact ⟨i + 1, _, by go_num, rfl, by omega, HNX⟩
            | false =>
              have hbad := hgood
              clear hq1 hgood
              have HPO : Aside0 (RWPost (stepT s) w (.returned (.tuple #[.string ⟨#[]⟩, .bool false])) w5) := ⟨⟨⟨#[]⟩, by rw [← HOK.out, hbad, Bool.false_and], (fun h => by rw [← HOK.out, hbad, Bool.false_and] at h; cases h), Nat.zero_le _, HBW.out⟩⟩
              clear hbad
              go_wp2
              go_ret2
              exact HPO.out
        · obtain rfl : i = s.preds.length := by omega
          have htxt := HI.out.txt
          have hok2 := HI.out.ok
          rw [List.drop_length, predsT_nil] at htxt hok2
          have HPO : Aside0 (RWPost (stepT s) w (.returned (.tuple #[.string t, .bool true])) wr) := ⟨⟨t, by rw [← hok2], (fun _ => by rw [← htxt, app_nil]), by rw [← htxt, app_nil]; exact Nat.le_refl _, below_step HBOX.out HI.out.bel⟩⟩
          clear htxt hok2
          go_wp2
          go_ret2
          exact HPO.out
    | false =>
      cases hnb : isNm s.name with
      | true =>
        have hn : s.name = tStar ∨ isNm s.name = true := .inr hnb
        have HH : Aside0 (headT s.axis s.name = some (tAt ++ s.name)) := ⟨by rw [headT, if_neg (by simp [a2]), if_neg (by simp [a2]), if_neg (by simp [a2]), if_pos ⟨a2, hn⟩]⟩
        have HST : Aside0 (RWStepI s w0 0 (tAt ++ s.name) w0) := ⟨⟨by omega, by rw [stepT_eq, HH.out]; rfl, by rw [stepT_eq, HH.out]; rfl, Below.refl _ _⟩⟩
        clear HH hw0
        go_wp2
        go_loopg [5, 7] s.preds.length (fun gk ov iv wr => ∃ (i : Nat) (t : ByteArray), iv = .int .i64 i ∧ ov = .string t ∧ s.preds.length - i ≤ gk ∧ Aside0 (RWStepI s w0 i t wr))
        case atStart => exact ⟨0, _, rfl, rfl, by omega, HST⟩
        case round =>
          clear a2 hn hsb hnb
          obtain ⟨i, t, rfl, rfl, hgk, HI⟩ := hrel
          have hi0 : (0 : Int) ≤ (i : Int) := by omega
          have hil := HI.out.le
          clear HST z1 z2 z3
          have y3 : wr.cell? ⟨w.heap.size, 3, none⟩ = some (.slice A s.preds.length c) := (blk_cell (blk_below HN0.out HI.out.bel) 3).trans rfl
          by_cases hlt : i < s.preds.length
          · have hlt1 : (i : Int) < (s.preds.length : Int) := by omega
            obtain ⟨x, hxi⟩ : ∃ x, s.preds[i]? = some x := ⟨_, List.getElem?_eq_getElem hlt⟩
            have hdrop : s.preds.drop i = x :: s.preds.drop (i + 1) := by rw [List.drop_eq_getElem_cons hlt]; congr 1; rw [List.getElem?_eq_getElem hlt] at hxi; exact Option.some.inj hxi
            have HBR : Aside0 (Below w.heap.size w wr) := ⟨below_step HBOX.out HI.out.bel⟩
            obtain ⟨m, ad, c', u, u', hn, he, hok, hp, ha, x0, x1, x2, x3⟩ := (predsAt_below HP0.out HBR.out).getP hxi
            simp only [Value.slice.injEq, true_and] at he
            obtain ⟨rfl, rfl⟩ := he
            obtain ⟨A1, c1, rfl, hc3, hc4⟩ := hp.slice
            obtain ⟨B1, d1, rfl, hd3, hd4⟩ := ha.slice
            have htxt := HI.out.txt
            have hok2 := HI.out.ok
            rw [hdrop, predsT_cons] at htxt hok2
            have hsz := HZ.out
            rw [← htxt] at hsz
            simp only [ByteArray.size_append] at hsz
            have hs1 : tLb.size = 1 := rfl
            have hs2 : tRb.size = 1 := rfl
            unfold szMax at hsz
            rw [hs1, hs2] at hsz
            have hnx := (nmPs_iff _).1 HNP.out x (List.mem_of_getElem? hxi)
            obtain ⟨⟨hl1, hl2⟩, _⟩ := (nmP_eq x).1 hnx
            obtain ⟨r, hr⟩ : ∃ r, r = predT x := ⟨_, rfl⟩
            rw [← hr] at htxt hok2 hsz
            have HT := Aside0.mk htxt
            have HOK := Aside0.mk hok2
            have hz1 : ¬ 9223372036854775807 < t.size + 1 := by omega
            have hbA : Below wr.heap.size wr (wr.alloc (.cells #[.int .i64 x.kind, .int .i64 x.n, .slice A1 x.path.length c1, .slice B1 x.args.length d1] 41)) := below_alloc (Below.refl _ _) _
            have HBA := Aside0.mk hbA
            clear htxt hok2 hdrop hxi
            by_cases hk : x.kind = 1
            · by_cases h1 : x.n < 1
              · have hbad : r.2 = false := by rw [hr]; unfold predT; rw [if_neg (by simp [hk]), if_pos (.inl h1)]
                have HBW : Aside0 (Below w.heap.size w (wr.alloc (.cells #[.int .i64 x.kind, .int .i64 x.n, .slice A1 x.path.length c1, .slice B1 x.args.length d1] 41))) := ⟨below_step HBR.out HBA.out⟩
                rw [hk] at HBW
                clear hbA HBA hp ha hnx hr
                have HPO : Aside0 (RWPost (stepT s) w (.returned (.tuple #[.string ⟨#[]⟩, .bool false])) (wr.alloc (.cells #[.int .i64 1, .int .i64 x.n, .slice A1 x.path.length c1, .slice B1 x.args.length d1] 41))) := ⟨⟨⟨#[]⟩, by rw [← HOK.out, hbad, Bool.false_and], (fun h => by rw [← HOK.out, hbad, Bool.false_and] at h; cases h), Nat.zero_le _, HBW.out⟩⟩
                clear hbad
                go_wp2
                go_ret2
                exact HPO.out
              · by_cases h2 : 9999999 < x.n
                · have hbad : r.2 = false := by rw [hr]; unfold predT; rw [if_neg (by simp [hk]), if_pos (.inr (.inl h2))]
                  have HBW : Aside0 (Below w.heap.size w (wr.alloc (.cells #[.int .i64 x.kind, .int .i64 x.n, .slice A1 x.path.length c1, .slice B1 x.args.length d1] 41))) := ⟨below_step HBR.out HBA.out⟩
                  rw [hk] at HBW
                  clear hbA HBA hp ha hnx hr
                  have HPO : Aside0 (RWPost (stepT s) w (.returned (.tuple #[.string ⟨#[]⟩, .bool false])) (wr.alloc (.cells #[.int .i64 1, .int .i64 x.n, .slice A1 x.path.length c1, .slice B1 x.args.length d1] 41))) := ⟨⟨⟨#[]⟩, by rw [← HOK.out, hbad, Bool.false_and], (fun h => by rw [← HOK.out, hbad, Bool.false_and] at h; cases h), Nat.zero_le _, HBW.out⟩⟩
                  clear hbad
                  go_wp2
                  go_ret2
                  exact HPO.out
                · by_cases h3 : 0 < x.path.length + x.args.length
                  · have hbad : r.2 = false := by rw [hr]; unfold predT; rw [if_neg (by simp [hk]), if_pos (.inr (.inr h3))]
                    have h3' : (0 : Int) < (x.path.length : Int) + (x.args.length : Int) := by omega
                    have HBW : Aside0 (Below w.heap.size w (wr.alloc (.cells #[.int .i64 x.kind, .int .i64 x.n, .slice A1 x.path.length c1, .slice B1 x.args.length d1] 41))) := ⟨below_step HBR.out HBA.out⟩
                    rw [hk] at HBW
                    clear hbA HBA hp ha hnx hr
                    have HPO : Aside0 (RWPost (stepT s) w (.returned (.tuple #[.string ⟨#[]⟩, .bool false])) (wr.alloc (.cells #[.int .i64 1, .int .i64 x.n, .slice A1 x.path.length c1, .slice B1 x.args.length d1] 41))) := ⟨⟨⟨#[]⟩, by rw [← HOK.out, hbad, Bool.false_and], (fun h => by rw [← HOK.out, hbad, Bool.false_and] at h; cases h), Nat.zero_le _, HBW.out⟩⟩
                    clear hbad
                    go_wp2
                    go_ret2
                    exact HPO.out
                  · have hrv : r = (bs (Lib.itoa x.n), true) := by rw [hr]; unfold predT; rw [if_neg (by simp [hk]), if_neg (by omega)]
                    have hgood : r.2 = true := by rw [hrv]
                    have hr1 : r.1 = bs (Lib.itoa x.n) := by rw [hrv]
                    have hdg := digits_any x.n (wr.alloc (.cells #[.int .i64 x.kind, .int .i64 x.n, .slice A1 x.path.length c1, .slice B1 x.args.length d1] 41)) (by omega) (by omega)
                    rw [← hr1] at hdg
                    have hp0 : x.path.length = 0 := by omega
                    have ha0 : x.args.length = 0 := by omega
                    rw [hk, hp0, ha0] at hdg
                    rw [hk, hp0, ha0] at HBA
                    have hz2 : ¬ 9223372036854775807 < t.size + 1 + r.1.size := by omega
                    have hz3 : ¬ 9223372036854775807 < t.size + 1 + r.1.size + 1 := by omega
                    clear hbA hp ha hnx hr hrv hr1
                    go_wp2_with fail
                    go_at_call 48
                    refine hdg.mono ?_
                    rintro e w5 ⟨rfl, hb5⟩
                    have HBW0 : Aside0 (Below w0.heap.size w0 w5) := ⟨below_step HI.out.bel (below_step HBA.out hb5)⟩
                    have HNX : Aside0 (RWStepI s w0 (i + 1) (t ++ tLb ++ r.1 ++ tRb) w5) := ⟨⟨by omega, by rw [← HT.out]; simp only [ByteArray.append_assoc], by rw [← HOK.out, hgood, Bool.true_and], HBW0.out⟩⟩
                    clear hdg hb5 x0 x1 x2 x3 y3
                    clear hgood
                    go_wp2
                    go_roundg (s.preds.length - (i + 1))
                    case measure => omega
                    case rel => exact ⟨i + 1, _, by go_num, rfl, by omega, HNX⟩
            · have hrv : r = heldT x := by rw [hr]; unfold predT; rw [if_pos hk]
              rw [hrv] at hsz
              have hcall := HIH.out m (by omega) _ (wr.alloc (.cells #[.int .i64 x.kind, .int .i64 x.n, .slice A1 x.path.length c1, .slice B1 x.args.length d1] 41)) A1 B1 c1 d1 x (stepsAt_below hp hbA) (predsAt_below ha hbA) hnx (by unfold szMax; omega)
              rw [← hrv] at hcall hsz
              have hz2 : ¬ 9223372036854775807 < t.size + 1 + r.1.size := by omega
              have hz3 : ¬ 9223372036854775807 < t.size + 1 + r.1.size + 1 := by omega
              clear hbA hp ha hnx hr hrv
              go_wp2_with fail
              go_at_call 49
              refine hcall.mono ?_
              rintro e w5 ⟨q, rfl, hq1, hq2, hb5⟩
              have HBW0 : Aside0 (Below w0.heap.size w0 w5) := ⟨below_step HI.out.bel (below_step HBA.out hb5)⟩
              have HBW : Aside0 (Below w.heap.size w w5) := ⟨below_step HBR.out (below_step HBA.out hb5)⟩
              clear hcall hb5 x0 x1 x2 x3 y3
              cases hgood : r.2 with
              | true =>
                have hqr := hq1 hgood
                subst hqr
                have HNX : Aside0 (RWStepI s w0 (i + 1) (t ++ tLb ++ r.1 ++ tRb) w5) := ⟨⟨by omega, by rw [← HT.out]; simp only [ByteArray.append_assoc], by rw [← HOK.out, hgood, Bool.true_and], HBW0.out⟩⟩
                clear hgood
                go_wp2
                go_roundg (s.preds.length - (i + 1))
                case measure => omega
                case rel => exact ⟨i + 1, _, by go_num, rfl, by omega, HNX⟩
              | false =>
                have hbad := hgood
                clear hq1 hgood
                have HPO : Aside0 (RWPost (stepT s) w (.returned (.tuple #[.string ⟨#[]⟩, .bool false])) w5) := ⟨⟨⟨#[]⟩, by rw [← HOK.out, hbad, Bool.false_and], (fun h => by rw [← HOK.out, hbad, Bool.false_and] at h; cases h), Nat.zero_le _, HBW.out⟩⟩
                clear hbad
                go_wp2
                go_ret2
                exact HPO.out
          · obtain rfl : i = s.preds.length := by omega
            have htxt := HI.out.txt
            have hok2 := HI.out.ok
            rw [List.drop_length, predsT_nil] at htxt hok2
            have HPO : Aside0 (RWPost (stepT s) w (.returned (.tuple #[.string t, .bool true])) wr) := ⟨⟨t, by rw [← hok2], (fun _ => by rw [← htxt, app_nil]), by rw [← htxt, app_nil]; exact Nat.le_refl _, below_step HBOX.out HI.out.bel⟩⟩
            clear htxt hok2
            go_wp2
            go_ret2
            exact HPO.out
      | false =>
        have hn : ¬ (s.name = tStar ∨ isNm s.name = true) := by rw [hnb]; have := name_bne hsb; simp; exact this
        have hr : stepT s = (⟨#[]⟩, false) := by rw [stepT_eq, show headT s.axis s.name = none from (by rw [headT, if_neg (by simp [a2]), if_neg (by simp [a2]), if_neg (by simp [a2]), if_neg (fun h => hn h.2), if_neg (by simp [a2])])]
        have HPO : Aside0 (RWPost (stepT s) w (.returned (.tuple #[.string ⟨#[]⟩, .bool false])) w0) := ⟨by rw [hr]; exact ⟨⟨#[]⟩, rfl, (fun h => by cases h), Nat.le_refl _, HBOX.out⟩⟩
        clear hw0 hr
        go_wp2
        go_ret2
        exact HPO.out
  by_cases a1 : s.axis = 1
  · cases hsb : (s.name.toList == [42]) with
    | true =>
      have hn : s.name = tStar ∨ isNm s.name = true := .inl (name_beq hsb)
      have HH : Aside0 (headT s.axis s.name = some (s.name)) := ⟨by rw [headT, if_neg (by simp [a1]), if_neg (by simp [a1]), if_neg (by simp [a1]), if_neg (by simp [a1]), if_pos ⟨a1, hn⟩]⟩
      have HST : Aside0 (RWStepI s w0 0 (s.name) w0) := ⟨⟨by omega, by rw [stepT_eq, HH.out]; rfl, by rw [stepT_eq, HH.out]; rfl, Below.refl _ _⟩⟩
      clear HH hw0
      go_wp2
      go_loopg [5, 7] s.preds.length (fun gk ov iv wr => ∃ (i : Nat) (t : ByteArray), iv = .int .i64 i ∧ ov = .string t ∧ s.preds.length - i ≤ gk ∧ Aside0 (RWStepI s w0 i t wr))
      case atStart => exact ⟨0, _, rfl, rfl, by omega, HST⟩
      case round =>
        clear a1 hn hsb
        obtain ⟨i, t, rfl, rfl, hgk, HI⟩ := hrel
        have hi0 : (0 : Int) ≤ (i : Int) := by omega
        have hil := HI.out.le
        clear HST z1 z2 z3
        have y3 : wr.cell? ⟨w.heap.size, 3, none⟩ = some (.slice A s.preds.length c) := (blk_cell (blk_below HN0.out HI.out.bel) 3).trans rfl
        by_cases hlt : i < s.preds.length
        · have hlt1 : (i : Int) < (s.preds.length : Int) := by omega
          obtain ⟨x, hxi⟩ : ∃ x, s.preds[i]? = some x := ⟨_, List.getElem?_eq_getElem hlt⟩
          have hdrop : s.preds.drop i = x :: s.preds.drop (i + 1) := by rw [List.drop_eq_getElem_cons hlt]; congr 1; rw [List.getElem?_eq_getElem hlt] at hxi; exact Option.some.inj hxi
          have HBR : Aside0 (Below w.heap.size w wr) := ⟨below_step HBOX.out HI.out.bel⟩
          obtain ⟨m, ad, c', u, u', hn, he, hok, hp, ha, x0, x1, x2, x3⟩ := (predsAt_below HP0.out HBR.out).getP hxi
          simp only [Value.slice.injEq, true_and] at he
          obtain ⟨rfl, rfl⟩ := he
          obtain ⟨A1, c1, rfl, hc3, hc4⟩ := hp.slice
          obtain ⟨B1, d1, rfl, hd3, hd4⟩ := ha.slice
          have htxt := HI.out.txt
          have hok2 := HI.out.ok
          rw [hdrop, predsT_cons] at htxt hok2
          have hsz := HZ.out
          rw [← htxt] at hsz
          simp only [ByteArray.size_append] at hsz
          have hs1 : tLb.size = 1 := rfl
          have hs2 : tRb.size = 1 := rfl
          unfold szMax at hsz
          rw [hs1, hs2] at hsz
          have hnx := (nmPs_iff _).1 HNP.out x (List.mem_of_getElem? hxi)
          obtain ⟨⟨hl1, hl2⟩, _⟩ := (nmP_eq x).1 hnx
          obtain ⟨r, hr⟩ : ∃ r, r = predT x := ⟨_, rfl⟩
          rw [← hr] at htxt hok2 hsz
          have HT := Aside0.mk htxt
          have HOK := Aside0.mk hok2
          have hz1 : ¬ 9223372036854775807 < t.size + 1 := by omega
          have hbA : Below wr.heap.size wr (wr.alloc (.cells #[.int .i64 x.kind, .int .i64 x.n, .slice A1 x.path.length c1, .slice B1 x.args.length d1] 41)) := below_alloc (Below.refl _ _) _
          have HBA := Aside0.mk hbA
          clear htxt hok2 hdrop hxi
          by_cases hk : x.kind = 1
          · by_cases h1 : x.n < 1
            · have hbad : r.2 = false := by rw [hr]; unfold predT; rw [if_neg (by simp [hk]), if_pos (.inl h1)]
              have HBW : Aside0 (Below w.heap.size w (wr.alloc (.cells #[.int .i64 x.kind, .int .i64 x.n, .slice A1 x.path.length c1, .slice B1 x.args.length d1] 41))) := ⟨below_step HBR.out HBA.out⟩
              rw [hk] at HBW
              clear hbA HBA hp ha hnx hr
              have HPO : Aside0 (RWPost (stepT s) w (.returned (.tuple #[.string ⟨#[]⟩, .bool false])) (wr.alloc (.cells #[.int .i64 1, .int .i64 x.n, .slice A1 x.path.length c1, .slice B1 x.args.length d1] 41))) := ⟨⟨⟨#[]⟩, by rw [← HOK.out, hbad, Bool.false_and], (fun h => by rw [← HOK.out, hbad, Bool.false_and] at h; cases h), Nat.zero_le _, HBW.out⟩⟩
              clear hbad
              go_wp2
              go_ret2
              exact HPO.out
            · by_cases h2 : 9999999 < x.n
              · have hbad : r.2 = false := by rw [hr]; unfold predT; rw [if_neg (by simp [hk]), if_pos (.inr (.inl h2))]
                have HBW : Aside0 (Below w.heap.size w (wr.alloc (.cells #[.int .i64 x.kind, .int .i64 x.n, .slice A1 x.path.length c1, .slice B1 x.args.length d1] 41))) := ⟨below_step HBR.out HBA.out⟩
                rw [hk] at HBW
                clear hbA HBA hp ha hnx hr
                have HPO : Aside0 (RWPost (stepT s) w (.returned (.tuple #[.string ⟨#[]⟩, .bool false])) (wr.alloc (.cells #[.int .i64 1, .int .i64 x.n, .slice A1 x.path.length c1, .slice B1 x.args.length d1] 41))) := ⟨⟨⟨#[]⟩, by rw [← HOK.out, hbad, Bool.false_and], (fun h => by rw [← HOK.out, hbad, Bool.false_and] at h; cases h), Nat.zero_le _, HBW.out⟩⟩
                clear hbad
                go_wp2
                go_ret2
                exact HPO.out
              · by_cases h3 : 0 < x.path.length + x.args.length
                · have hbad : r.2 = false := by rw [hr]; unfold predT; rw [if_neg (by simp [hk]), if_pos (.inr (.inr h3))]
                  have h3' : (0 : Int) < (x.path.length : Int) + (x.args.length : Int) := by omega
                  have HBW : Aside0 (Below w.heap.size w (wr.alloc (.cells #[.int .i64 x.kind, .int .i64 x.n, .slice A1 x.path.length c1, .slice B1 x.args.length d1] 41))) := ⟨below_step HBR.out HBA.out⟩
                  rw [hk] at HBW
                  clear hbA HBA hp ha hnx hr
                  have HPO : Aside0 (RWPost (stepT s) w (.returned (.tuple #[.string ⟨#[]⟩, .bool false])) (wr.alloc (.cells #[.int .i64 1, .int .i64 x.n, .slice A1 x.path.length c1, .slice B1 x.args.length d1] 41))) := ⟨⟨⟨#[]⟩, by rw [← HOK.out, hbad, Bool.false_and], (fun h => by rw [← HOK.out, hbad, Bool.false_and] at h; cases h), Nat.zero_le _, HBW.out⟩⟩
                  clear hbad
                  go_wp2
                  go_ret2
                  exact HPO.out
                · have hrv : r = (bs (Lib.itoa x.n), true) := by rw [hr]; unfold predT; rw [if_neg (by simp [hk]), if_neg (by omega)]
                  have hgood : r.2 = true := by rw [hrv]
                  have hr1 : r.1 = bs (Lib.itoa x.n) := by rw [hrv]
                  have hdg := digits_any x.n (wr.alloc (.cells #[.int .i64 x.kind, .int .i64 x.n, .slice A1 x.path.length c1, .slice B1 x.args.length d1] 41)) (by omega) (by omega)
                  rw [← hr1] at hdg
                  have hp0 : x.path.length = 0 := by omega
                  have ha0 : x.args.length = 0 := by omega
                  rw [hk, hp0, ha0] at hdg
                  rw [hk, hp0, ha0] at HBA
                  have hz2 : ¬ 9223372036854775807 < t.size + 1 + r.1.size := by omega
                  have hz3 : ¬ 9223372036854775807 < t.size + 1 + r.1.size + 1 := by omega
                  clear hbA hp ha hnx hr hrv hr1
                  go_wp2_with fail
                  go_at_call 48
                  refine hdg.mono ?_
                  rintro e w5 ⟨rfl, hb5⟩
                  have HBW0 : Aside0 (Below w0.heap.size w0 w5) := ⟨below_step HI.out.bel (below_step HBA.out hb5)⟩
                  have HNX : Aside0 (RWStepI s w0 (i + 1) (t ++ tLb ++ r.1 ++ tRb) w5) := ⟨⟨by omega, by rw [← HT.out]; simp only [ByteArray.append_assoc], by rw [← HOK.out, hgood, Bool.true_and], HBW0.out⟩⟩
                  clear hdg hb5 x0 x1 x2 x3 y3
                  clear hgood
                  go_wp2
                  go_roundg (s.preds.length - (i + 1))
                  case measure => omega
                  case rel => exact ⟨i + 1, _, by go_num, rfl, by omega, HNX⟩
          · have hrv : r = heldT x := by rw [hr]; unfold predT; rw [if_pos hk]
            rw [hrv] at hsz
            have hcall := HIH.out m (by omega) _ (wr.alloc (.cells #[.int .i64 x.kind, .int .i64 x.n, .slice A1 x.path.length c1, .slice B1 x.args.length d1] 41)) A1 B1 c1 d1 x (stepsAt_below hp hbA) (predsAt_below ha hbA) hnx (by unfold szMax; omega)
            rw [← hrv] at hcall hsz
            have hz2 : ¬ 9223372036854775807 < t.size + 1 + r.1.size := by omega
            have hz3 : ¬ 9223372036854775807 < t.size + 1 + r.1.size + 1 := by omega
            clear hbA hp ha hnx hr hrv
            go_wp2_with fail
            go_at_call 49
            refine hcall.mono ?_
            rintro e w5 ⟨q, rfl, hq1, hq2, hb5⟩
            have HBW0 : Aside0 (Below w0.heap.size w0 w5) := ⟨below_step HI.out.bel (below_step HBA.out hb5)⟩
            have HBW : Aside0 (Below w.heap.size w w5) := ⟨below_step HBR.out (below_step HBA.out hb5)⟩
            clear hcall hb5 x0 x1 x2 x3 y3
            cases hgood : r.2 with
            | true =>
              have hqr := hq1 hgood
              subst hqr
              have HNX : Aside0 (RWStepI s w0 (i + 1) (t ++ tLb ++ r.1 ++ tRb) w5) := ⟨⟨by omega, by rw [← HT.out]; simp only [ByteArray.append_assoc], by rw [← HOK.out, hgood, Bool.true_and], HBW0.out⟩⟩
              clear hgood
              go_wp2
              go_roundg (s.preds.length - (i + 1))
              case measure => omega
              case rel => exact ⟨i + 1, _, by go_num, rfl, by omega, HNX⟩
            | false =>
              have hbad := hgood
              clear hq1 hgood
              have HPO : Aside0 (RWPost (stepT s) w (.returned (.tuple #[.string ⟨#[]⟩, .bool false])) w5) := ⟨⟨⟨#[]⟩, by rw [← HOK.out, hbad, Bool.false_and], (fun h => by rw [← HOK.out, hbad, Bool.false_and] at h; cases h), Nat.zero_le _, HBW.out⟩⟩
              clear hbad
              go_wp2
              go_ret2
              exact HPO.out
        · obtain rfl : i = s.preds.length := by omega
          have htxt := HI.out.txt
          have hok2 := HI.out.ok
          rw [List.drop_length, predsT_nil] at htxt hok2
          have HPO : Aside0 (RWPost (stepT s) w (.returned (.tuple #[.string t, .bool true])) wr) := ⟨⟨t, by rw [← hok2], (fun _ => by rw [← htxt, app_nil]), by rw [← htxt, app_nil]; exact Nat.le_refl _, below_step HBOX.out HI.out.bel⟩⟩
          clear htxt hok2
          go_wp2
          go_ret2
          exact HPO.out
    | false =>
      cases hnb : isNm s.name with
      | true =>
        have hn : s.name = tStar ∨ isNm s.name = true := .inr hnb
        have HH : Aside0 (headT s.axis s.name = some (s.name)) := ⟨by rw [headT, if_neg (by simp [a1]), if_neg (by simp [a1]), if_neg (by simp [a1]), if_neg (by simp [a1]), if_pos ⟨a1, hn⟩]⟩
        have HST : Aside0 (RWStepI s w0 0 (s.name) w0) := ⟨⟨by omega, by rw [stepT_eq, HH.out]; rfl, by rw [stepT_eq, HH.out]; rfl, Below.refl _ _⟩⟩
        clear HH hw0
        go_wp2
        go_loopg [5, 7] s.preds.length (fun gk ov iv wr => ∃ (i : Nat) (t : ByteArray), iv = .int .i64 i ∧ ov = .string t ∧ s.preds.length - i ≤ gk ∧ Aside0 (RWStepI s w0 i t wr))
        case atStart => exact ⟨0, _, rfl, rfl, by omega, HST⟩
        case round =>
          clear a1 hn hsb hnb
          obtain ⟨i, t, rfl, rfl, hgk, HI⟩ := hrel
          have hi0 : (0 : Int) ≤ (i : Int) := by omega
          have hil := HI.out.le
          clear HST z1 z2 z3
          have y3 : wr.cell? ⟨w.heap.size, 3, none⟩ = some (.slice A s.preds.length c) := (blk_cell (blk_below HN0.out HI.out.bel) 3).trans rfl
          by_cases hlt : i < s.preds.length
          · have hlt1 : (i : Int) < (s.preds.length : Int) := by omega
            obtain ⟨x, hxi⟩ : ∃ x, s.preds[i]? = some x := ⟨_, List.getElem?_eq_getElem hlt⟩
            have hdrop : s.preds.drop i = x :: s.preds.drop (i + 1) := by rw [List.drop_eq_getElem_cons hlt]; congr 1; rw [List.getElem?_eq_getElem hlt] at hxi; exact Option.some.inj hxi
            have HBR : Aside0 (Below w.heap.size w wr) := ⟨below_step HBOX.out HI.out.bel⟩
            obtain ⟨m, ad, c', u, u', hn, he, hok, hp, ha, x0, x1, x2, x3⟩ := (predsAt_below HP0.out HBR.out).getP hxi
            simp only [Value.slice.injEq, true_and] at he
            obtain ⟨rfl, rfl⟩ := he
            obtain ⟨A1, c1, rfl, hc3, hc4⟩ := hp.slice
            obtain ⟨B1, d1, rfl, hd3, hd4⟩ := ha.slice
            have htxt := HI.out.txt
            have hok2 := HI.out.ok
            rw [hdrop, predsT_cons] at htxt hok2
            have hsz := HZ.out
            rw [← htxt] at hsz
            simp only [ByteArray.size_append] at hsz
            have hs1 : tLb.size = 1 := rfl
            have hs2 : tRb.size = 1 := rfl
            unfold szMax at hsz
            rw [hs1, hs2] at hsz
            have hnx := (nmPs_iff _).1 HNP.out x (List.mem_of_getElem? hxi)
            obtain ⟨⟨hl1, hl2⟩, _⟩ := (nmP_eq x).1 hnx
            obtain ⟨r, hr⟩ : ∃ r, r = predT x := ⟨_, rfl⟩
            rw [← hr] at htxt hok2 hsz
            have HT := Aside0.mk htxt
            have HOK := Aside0.mk hok2
            have hz1 : ¬ 9223372036854775807 < t.size + 1 := by omega
            have hbA : Below wr.heap.size wr (wr.alloc (.cells #[.int .i64 x.kind, .int .i64 x.n, .slice A1 x.path.length c1, .slice B1 x.args.length d1] 41)) := below_alloc (Below.refl _ _) _
            have HBA := Aside0.mk hbA
            clear htxt hok2 hdrop hxi
            by_cases hk : x.kind = 1
            · by_cases h1 : x.n < 1
              · have hbad : r.2 = false := by rw [hr]; unfold predT; rw [if_neg (by simp [hk]), if_pos (.inl h1)]
                have HBW : Aside0 (Below w.heap.size w (wr.alloc (.cells #[.int .i64 x.kind, .int .i64 x.n, .slice A1 x.path.length c1, .slice B1 x.args.length d1] 41))) := ⟨below_step HBR.out HBA.out⟩
                rw [hk] at HBW
                clear hbA HBA hp ha hnx hr
                have HPO : Aside0 (RWPost (stepT s) w (.returned (.tuple #[.string ⟨#[]⟩, .bool false])) (wr.alloc (.cells #[.int .i64 1, .int .i64 x.n, .slice A1 x.path.length c1, .slice B1 x.args.length d1] 41))) := ⟨⟨⟨#[]⟩, by rw [← HOK.out, hbad, Bool.false_and], (fun h => by rw [← HOK.out, hbad, Bool.false_and] at h; cases h), Nat.zero_le _, HBW.out⟩⟩
                clear hbad
                go_wp2
                go_ret2
                exact HPO.out
              · by_cases h2 : 9999999 < x.n
                · have hbad : r.2 = false := by rw [hr]; unfold predT; rw [if_neg (by simp [hk]), if_pos (.inr (.inl h2))]
                  have HBW : Aside0 (Below w.heap.size w (wr.alloc (.cells #[.int .i64 x.kind, .int .i64 x.n, .slice A1 x.path.length c1, .slice B1 x.args.length d1] 41))) := ⟨below_step HBR.out HBA.out⟩
                  rw [hk] at HBW
                  clear hbA HBA hp ha hnx hr
                  have HPO : Aside0 (RWPost (stepT s) w (.returned (.tuple #[.string ⟨#[]⟩, .bool false])) (wr.alloc (.cells #[.int .i64 1, .int .i64 x.n, .slice A1 x.path.length c1, .slice B1 x.args.length d1] 41))) := ⟨⟨⟨#[]⟩, by rw [← HOK.out, hbad, Bool.false_and], (fun h => by rw [← HOK.out, hbad, Bool.false_and] at h; cases h), Nat.zero_le _, HBW.out⟩⟩
                  clear hbad
                  go_wp2
                  go_ret2
                  exact HPO.out
                · by_cases h3 : 0 < x.path.length + x.args.length
                  · have hbad : r.2 = false := by rw [hr]; unfold predT; rw [if_neg (by simp [hk]), if_pos (.inr (.inr h3))]
                    have h3' : (0 : Int) < (x.path.length : Int) + (x.args.length : Int) := by omega
                    have HBW : Aside0 (Below w.heap.size w (wr.alloc (.cells #[.int .i64 x.kind, .int .i64 x.n, .slice A1 x.path.length c1, .slice B1 x.args.length d1] 41))) := ⟨below_step HBR.out HBA.out⟩
                    rw [hk] at HBW
                    clear hbA HBA hp ha hnx hr
                    have HPO : Aside0 (RWPost (stepT s) w (.returned (.tuple #[.string ⟨#[]⟩, .bool false])) (wr.alloc (.cells #[.int .i64 1, .int .i64 x.n, .slice A1 x.path.length c1, .slice B1 x.args.length d1] 41))) := ⟨⟨⟨#[]⟩, by rw [← HOK.out, hbad, Bool.false_and], (fun h => by rw [← HOK.out, hbad, Bool.false_and] at h; cases h), Nat.zero_le _, HBW.out⟩⟩
                    clear hbad
                    go_wp2
                    go_ret2
                    exact HPO.out
                  · have hrv : r = (bs (Lib.itoa x.n), true) := by rw [hr]; unfold predT; rw [if_neg (by simp [hk]), if_neg (by omega)]
                    have hgood : r.2 = true := by rw [hrv]
                    have hr1 : r.1 = bs (Lib.itoa x.n) := by rw [hrv]
                    have hdg := digits_any x.n (wr.alloc (.cells #[.int .i64 x.kind, .int .i64 x.n, .slice A1 x.path.length c1, .slice B1 x.args.length d1] 41)) (by omega) (by omega)
                    rw [← hr1] at hdg
                    have hp0 : x.path.length = 0 := by omega
                    have ha0 : x.args.length = 0 := by omega
                    rw [hk, hp0, ha0] at hdg
                    rw [hk, hp0, ha0] at HBA
                    have hz2 : ¬ 9223372036854775807 < t.size + 1 + r.1.size := by omega
                    have hz3 : ¬ 9223372036854775807 < t.size + 1 + r.1.size + 1 := by omega
                    clear hbA hp ha hnx hr hrv hr1
                    go_wp2_with fail
                    go_at_call 48
                    refine hdg.mono ?_
                    rintro e w5 ⟨rfl, hb5⟩
                    have HBW0 : Aside0 (Below w0.heap.size w0 w5) := ⟨below_step HI.out.bel (below_step HBA.out hb5)⟩
                    have HNX : Aside0 (RWStepI s w0 (i + 1) (t ++ tLb ++ r.1 ++ tRb) w5) := ⟨⟨by omega, by rw [← HT.out]; simp only [ByteArray.append_assoc], by rw [← HOK.out, hgood, Bool.true_and], HBW0.out⟩⟩
                    clear hdg hb5 x0 x1 x2 x3 y3
                    clear hgood
                    go_wp2
                    go_roundg (s.preds.length - (i + 1))
                    case measure => omega
                    case rel => exact ⟨i + 1, _, by go_num, rfl, by omega, HNX⟩
            · have hrv : r = heldT x := by rw [hr]; unfold predT; rw [if_pos hk]
              rw [hrv] at hsz
              have hcall := HIH.out m (by omega) _ (wr.alloc (.cells #[.int .i64 x.kind, .int .i64 x.n, .slice A1 x.path.length c1, .slice B1 x.args.length d1] 41)) A1 B1 c1 d1 x (stepsAt_below hp hbA) (predsAt_below ha hbA) hnx (by unfold szMax; omega)
              rw [← hrv] at hcall hsz
              have hz2 : ¬ 9223372036854775807 < t.size + 1 + r.1.size := by omega
              have hz3 : ¬ 9223372036854775807 < t.size + 1 + r.1.size + 1 := by omega
              clear hbA hp ha hnx hr hrv
              go_wp2_with fail
              go_at_call 49
              refine hcall.mono ?_
              rintro e w5 ⟨q, rfl, hq1, hq2, hb5⟩
              have HBW0 : Aside0 (Below w0.heap.size w0 w5) := ⟨below_step HI.out.bel (below_step HBA.out hb5)⟩
              have HBW : Aside0 (Below w.heap.size w w5) := ⟨below_step HBR.out (below_step HBA.out hb5)⟩
              clear hcall hb5 x0 x1 x2 x3 y3
              cases hgood : r.2 with
              | true =>
                have hqr := hq1 hgood
                subst hqr
                have HNX : Aside0 (RWStepI s w0 (i + 1) (t ++ tLb ++ r.1 ++ tRb) w5) := ⟨⟨by omega, by rw [← HT.out]; simp only [ByteArray.append_assoc], by rw [← HOK.out, hgood, Bool.true_and], HBW0.out⟩⟩
                clear hgood
                go_wp2
                go_roundg (s.preds.length - (i + 1))
                case measure => omega
                case rel => exact ⟨i + 1, _, by go_num, rfl, by omega, HNX⟩
              | false =>
                have hbad := hgood
                clear hq1 hgood
                have HPO : Aside0 (RWPost (stepT s) w (.returned (.tuple #[.string ⟨#[]⟩, .bool false])) w5) := ⟨⟨⟨#[]⟩, by rw [← HOK.out, hbad, Bool.false_and], (fun h => by rw [← HOK.out, hbad, Bool.false_and] at h; cases h), Nat.zero_le _, HBW.out⟩⟩
                clear hbad
                go_wp2
                go_ret2
                exact HPO.out
          · obtain rfl : i = s.preds.length := by omega
            have htxt := HI.out.txt
            have hok2 := HI.out.ok
            rw [List.drop_length, predsT_nil] at htxt hok2
            have HPO : Aside0 (RWPost (stepT s) w (.returned (.tuple #[.string t, .bool true])) wr) := ⟨⟨t, by rw [← hok2], (fun _ => by rw [← htxt, app_nil]), by rw [← htxt, app_nil]; exact Nat.le_refl _, below_step HBOX.out HI.out.bel⟩⟩
            clear htxt hok2
            go_wp2
            go_ret2
            exact HPO.out
      | false =>
        have hn : ¬ (s.name = tStar ∨ isNm s.name = true) := by rw [hnb]; have := name_bne hsb; simp; exact this
        have hr : stepT s = (⟨#[]⟩, false) := by rw [stepT_eq, show headT s.axis s.name = none from (by rw [headT, if_neg (by simp [a1]), if_neg (by simp [a1]), if_neg (by simp [a1]), if_neg (by simp [a1]), if_neg (fun h => hn h.2)])]
        have HPO : Aside0 (RWPost (stepT s) w (.returned (.tuple #[.string ⟨#[]⟩, .bool false])) w0) := ⟨by rw [hr]; exact ⟨⟨#[]⟩, rfl, (fun h => by cases h), Nat.le_refl _, HBOX.out⟩⟩
        clear hw0 hr
        go_wp2
        go_ret2
        exact HPO.out
  have hr : stepT s = (⟨#[]⟩, false) := by rw [stepT_eq, show headT s.axis s.name = none from (by rw [headT, if_neg (fun h => a4 h.1), if_neg (fun h => a5 h.1), if_neg (fun h => a3 h.1), if_neg (fun h => a2 h.1), if_neg (fun h => a1 h.1)])]
  have HPO : Aside0 (RWPost (stepT s) w (.returned (.tuple #[.string ⟨#[]⟩, .bool false])) w0) := ⟨by rw [hr]; exact ⟨⟨#[]⟩, rfl, (fun h => by cases h), Nat.le_refl _, HBOX.out⟩⟩
  clear hw0 hr
  go_wp2
  go_ret2
  exact HPO.out
end Go.Proofs.YtoanmoddppmffaaGreatDoor.T
