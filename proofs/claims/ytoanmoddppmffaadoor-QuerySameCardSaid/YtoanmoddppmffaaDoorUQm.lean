/- pred: a number, or a choice. -/
import Derived.Test.YtoanmoddppmffaaDoorUQl
namespace Go.Proofs.YtoanmoddppmffaaDoor.T
open Go.RowKit Go.Shelf Go.Proofs.YtoanmoddppmffaaDoorW.PrintWords
set_option linter.unusedVariables false
set_option linter.unusedSimpArgs false
theorem valL_ge (l : List UInt8) : ∀ (n : Nat), n ≤ valL n l := by
  induction l with
  | nil => intro n; exact Nat.le_refl _
  | cons c l ih =>
    intro n
    have h := ih (n * 10 + (c.toNat - 48))
    have e : valL n (c :: l) = valL (n * 10 + (c.toNat - 48)) l := rfl
    rw [e]
    generalize c.toNat - 48 = d at h ⊢
    exact Nat.le_trans (by omega) h
theorem dig_uint (l : List UInt8) : ∀ (acc : Nat), digL l = l.length → acc < 18446744073709551616 →
    (Lib.parseUint10 acc l = .ok (valL acc l) ∧ valL acc l < 18446744073709551616) ∨ (Lib.parseUint10 acc l = .range ∧ 18446744073709551616 ≤ valL acc l) := by
  induction l with
  | nil =>
    intro acc _ ha
    have e1 : Lib.parseUint10 acc [] = .ok acc := by unfold Lib.parseUint10; rfl
    have e2 : valL acc [] = acc := by unfold valL; rfl
    rw [e1, e2]
    exact .inl ⟨rfl, ha⟩
  | cons c l ih =>
    intro acc hd ha
    have hd' : (if isDg c = true then digL l + 1 else 0) = l.length + 1 := hd
    by_cases hc : isDg c = true
    · rw [if_pos hc] at hd'
      have hc' := (dg_iff c).1 hc
      have hl : digL l = l.length := Nat.succ.inj hd'
      have e1 : valL acc (c :: l) = valL (acc * 10 + (c.toNat - 48)) l := rfl
      rw [e1]
      have hge := valL_ge l (acc * 10 + (c.toNat - 48))
      have ih' := ih (acc * 10 + (c.toNat - 48)) hl
      have e2 : Lib.parseUint10 acc (c :: l) = if 48 ≤ c.toNat ∧ c.toNat ≤ 57 then (if 1844674407370955162 ≤ acc then .range else if 18446744073709551616 ≤ acc * 10 + (c.toNat - 48) then .range else Lib.parseUint10 (acc * 10 + (c.toNat - 48)) l) else Lib.NumEnd.syntax := by
        rw [Lib.parseUint10]
      rw [e2, if_pos ⟨by omega, by omega⟩]
      generalize valL (acc * 10 + (c.toNat - 48)) l = V at *
      by_cases h1 : 1844674407370955162 ≤ acc
      · rw [if_pos h1]
        exact .inr ⟨rfl, by omega⟩
      · rw [if_neg h1]
        by_cases h2 : 18446744073709551616 ≤ acc * 10 + (c.toNat - 48)
        · rw [if_pos h2]
          exact .inr ⟨rfl, by omega⟩
        · rw [if_neg h2]
          exact ih' (by omega)
    · rw [if_neg hc] at hd'
      cases hd'
theorem dig_atoi {l : List UInt8} (hd : digL l = l.length) (h0 : 0 < l.length) : (Lib.atoiAll l = .ok (valL 0 l : Int)) ∨ (Lib.atoiAll l = .range ∧ 9999999 < valL 0 l) := by
  cases l with
  | nil => simp at h0
  | cons c l =>
    have hc : isDg c = true := by
      simp only [digL] at hd
      split at hd
      · assumption
      · simp at hd
    have hc' := (dg_iff c).1 hc
    have e1 : ¬ (c.toNat = 43 ∨ c.toNat = 45) := by omega
    have e2 : ¬ c.toNat = 45 := by omega
    simp only [Lib.atoiAll, Lib.parseMag]
    rw [if_neg e1, if_neg (by simp)]
    rcases dig_uint (c :: l) 0 hd (by omega) with ⟨h1, h2⟩ | ⟨h1, h2⟩
    · rw [h1]
      simp only [e2, not_false_eq_true, true_and, false_and, if_false]
      by_cases h3 : 9223372036854775808 ≤ valL 0 (c :: l)
      · rw [if_pos h3]; exact .inr ⟨rfl, by omega⟩
      · rw [if_neg h3]; exact .inl rfl
    · rw [h1]; exact .inr ⟨rfl, by omega⟩
set_option maxHeartbeats 1000000 in
set_option maxRecDepth 100000 in
theorem pred_choice (b : Bool) (g k : Nat) (hg : 4 < g) (IH : PartC 57 (choiceG b) b g k) (i : Int) (ts : List Tok) (o : Option (Pred × List Tok)) (w : World) (h0 : 0 ≤ i) (hi : i + (k : Int) ≤ 100000) (hV : Vr w) (h : StT b w g i ts)
    (hn : ∀ t ts', ts = t :: ts' → digL t.data.toList = 0) (hr : choiceG b k i ts = some o) : Calls Tryd.prog 47 #[.pointer (some ⟨g, 0, none⟩)] w (PredPost b g i o w) := by
  have hlt : g < w.heap.size := by obtain ⟨_, _, ho, _⟩ := h; exact blk_lt ho
  have hb : Below w.heap.size w (w.alloc (.cells #[.int .i64 0, .int .i64 0, .slice none 0 0, .slice none 0 0] 37)) := below_alloc (Below.refl _ _) _
  obtain ⟨l, s, ho, hl, hs⟩ : ∃ l s, (w.alloc (.cells #[.int .i64 0, .int .i64 0, .slice none 0 0, .slice none 0 0] 37)).heap[g]? = some (rdO l s i false) ∧ s.size ≤ 400 ∧ digL s.data.toList = 0 := by
    obtain ⟨l, s, ho, hl, hd⟩ := h
    refine ⟨l, s, blk_alloc ho _, ?_, ?_⟩
    · cases ts with
      | nil => rw [hd.2]; decide
      | cons t ts =>
        obtain ⟨rfl, _, _, rest, he, _⟩ := hd
        have := congrArg List.length he
        rw [List.length_append, size_length, size_length] at this
        omega
    · cases ts with
      | nil => rw [hd.2]; rfl
      | cons t ts => rw [hd.1]; exact hn t ts rfl
  have c1 : (w.alloc (.cells #[.int .i64 0, .int .i64 0, .slice none 0 0, .slice none 0 0] 37)).cell? ⟨g, 1, none⟩ = some (.string s) := (blk_cell ho 1).trans rfl
  have hnum := number_any s (w.alloc (.cells #[.int .i64 0, .int .i64 0, .slice none 0 0, .slice none 0 0] 37)) (by omega)
  rw [hs] at hnum
  have HH := Aside0.mk (h.below hb)
  have HV := Aside0.mk (hV.move (World.grownBy_alloc w (.cells #[.int .i64 0, .int .i64 0, .slice none 0 0, .slice none 0 0] 37) none) (fun _ e => by cases e))
  have HLT := Aside0.mk hlt
  have HIH := Aside0.mk IH
  have HR := Aside0.mk hr
  clear hV h hb hlt IH hr ho hs hn
  go_enter Tryd.func47, Tryd.ntmps47
  go_wp2_with fail
  go_at_call 30
  refine hnum.mono ?_
  rintro e w1 ⟨rfl, hb1⟩
  have hcall := HIH.out i ts o w1 h0 hi (HV.out.move (grown_of_below hb1 none) (fun _ e => by cases e)) (HH.out.below hb1) HR.out
  have HB1 := Aside0.mk hb1
  clear hb1 hnum c1
  go_wp2_with fail
  go_at_call 57
  refine hcall.mono ?_
  rintro e w3 ⟨x, A, c, B, d, rfl, hx⟩
  have hr3 := blk_grown (blk_below (blk_new w _) HB1.out) hx.2.2.1 (fun e => by injection e; have := HLT.out; omega)
  have e0 : w3.cell? ⟨w.heap.size, 0, none⟩ = some (.int .i64 0) := (blk_cell hr3 0).trans rfl
  have e1 : w3.cell? ⟨w.heap.size, 1, none⟩ = some (.int .i64 0) := (blk_cell hr3 1).trans rfl
  have e2 : w3.cell? ⟨w.heap.size, 2, none⟩ = some (.slice none 0 0) := (blk_cell hr3 2).trans rfl
  have e3 : w3.cell? ⟨w.heap.size, 3, none⟩ = some (.slice none 0 0) := (blk_cell hr3 3).trans rfl
  have f0 := blk_frozen hr3 0
  have f1 := blk_frozen hr3 1
  have f2 := blk_frozen hr3 2
  have f3 := blk_frozen hr3 3
  have HX := Aside0.mk hx
  have HR3 := Aside0.mk hr3
  clear hr3 hx hcall
  go_wp2
  obtain ⟨a1, a2, a3, a4⟩ := HX.out
  have hz1 := HB1.out.size
  simp only [World.size_alloc] at hz1
  have a1' : StepsR (fun k => w.heap.size < k) w3 (.slice A x.path.length c) x.path := a1.imp_ (fun _ _ => rfl) (fun k hk => by omega)
  have a2' : PredsR (fun k => w.heap.size < k) w3 (.slice B x.args.length d) x.args := a2.imp_ (fun _ _ => rfl) (fun k hk => by omega)
  have hgb : w.grownBy w3 (some g) := gb_then (gb_below (World.grownBy_alloc _ _ _) HB1.out) a3
  have hw9 := put4_at HR3.out (.int .i64 x.kind) (.int .i64 x.n) (.slice A x.path.length c) (.slice B x.args.length d)
  have hgot := pred_done HLT.out a1' a2' hgb a4
  change bodyPost _ _ _ _ _ (put4 w3 w.heap.size (.int .i64 x.kind) (.int .i64 x.n) (.slice A x.path.length c) (.slice B x.args.length d))
  generalize put4 w3 w.heap.size (.int .i64 x.kind) (.int .i64 x.n) (.slice A x.path.length c) (.slice B x.args.length d) = w9 at hw9 hgot ⊢
  have q0 : w9.cell? ⟨w.heap.size, 0, none⟩ = some (.int .i64 x.kind) := (blk_cell hw9 0).trans rfl
  have q1 : w9.cell? ⟨w.heap.size, 1, none⟩ = some (.int .i64 x.n) := (blk_cell hw9 1).trans rfl
  have q2 : w9.cell? ⟨w.heap.size, 2, none⟩ = some (.slice A x.path.length c) := (blk_cell hw9 2).trans rfl
  have q3 : w9.cell? ⟨w.heap.size, 3, none⟩ = some (.slice B x.args.length d) := (blk_cell hw9 3).trans rfl
  refine bodyPost_ret (v := .agg #[.int .i64 x.kind, .int .i64 x.n, .slice A x.path.length c, .slice B x.args.length d]) (by simp [results, Tryd.results47, go_sem, q0, q1, q2, q3]) rfl ?_
  exact ⟨x, A, c, B, d, rfl, hgot⟩
def AtoiPost (t : Tok) (w : World) (e : Ending) (w' : World) : Prop :=
  Below w.heap.size w w' ∧ ((e = .returned (.tuple #[.int .i64 (valL 0 t.data.toList : Int), .nilIface])) ∨ (9999999 < valL 0 t.data.toList ∧ ∃ n u p, e = .returned (.tuple #[.int .i64 n, .iface u (.pointer p)])))
theorem atoi_any (t : Tok) (w : World) (hd : digL t.data.toList = t.size) (h1 : 1 ≤ t.size) (hz : t.size ≤ 400) (hV : Vr w) : Calls Tryd.prog 58 #[.string t] w (AtoiPost t w) := by
  rcases dig_atoi (l := t.data.toList) (by rw [size_length]; exact hd) (by rw [size_length]; omega) with h | ⟨h, h2⟩
  · refine (Tryd.strconv_Atoi_ok t (by omega) _ h w).mono ?_
    rintro e w' ⟨rfl, rfl | ⟨s, rfl⟩⟩
    · exact ⟨Below.refl _ _, .inl rfl⟩
    · exact ⟨bytes_below (Below.refl _ _) (Nat.le_refl _) _ _, .inl rfl⟩
  · obtain ⟨ev, hc, he⟩ := hV
    refine (Tryd.strconv_Atoi_range t (by omega) h ev w hc he).mono ?_
    rintro e w' ⟨N, rfl, _, _, hb⟩
    exact ⟨hb, .inr ⟨h2, _, _, _, rfl⟩⟩
set_option maxHeartbeats 1000000 in
set_option maxRecDepth 100000 in
theorem pred_number (b : Bool) (g : Nat) (hg : 4 < g) (i : Int) (t : Tok) (ts : List Tok) (w : World) (hV : Vr w) (h : StT b w g i (t :: ts)) (hd : 0 < digL t.data.toList) :
    Calls Tryd.prog 47 #[.pointer (some ⟨g, 0, none⟩)] w (PredPost b g i ((numG t).bind fun n => (adv b (t :: ts)).map fun t1 => (⟨1, n, [], []⟩, t1)) w) := by
  have hlt : g < w.heap.size := by obtain ⟨_, _, ho, _⟩ := h; exact blk_lt ho
  have hb : Below w.heap.size w (w.alloc (.cells #[.int .i64 0, .int .i64 0, .slice none 0 0, .slice none 0 0] 37)) := below_alloc (Below.refl _ _) _
  obtain ⟨l, rest, ho, hl, h1, h2, hdg, _⟩ := (h.below hb).open_
  have hall := hdg hd
  have c1 : (w.alloc (.cells #[.int .i64 0, .int .i64 0, .slice none 0 0, .slice none 0 0] 37)).cell? ⟨g, 1, none⟩ = some (.string t) := (blk_cell ho 1).trans rfl
  have hnum := number_any t (w.alloc (.cells #[.int .i64 0, .int .i64 0, .slice none 0 0, .slice none 0 0] 37)) (by omega)
  have HAT := Aside0.mk (fun w1 hV => atoi_any t w1 hall h1 (by omega) hV)
  have hpos : ((digL t.data.toList : Nat) : Int) ≠ 0 := by omega
  have hposb : (((digL t.data.toList : Nat) : Int) == 0) = false := beq_eq_false_iff_ne.mpr hpos
  have ht0 : 0 < t.size := by omega
  have HH := Aside0.mk (h.below hb)
  have HO := Aside0.mk ho
  have HV := Aside0.mk (hV.move (World.grownBy_alloc w (.cells #[.int .i64 0, .int .i64 0, .slice none 0 0, .slice none 0 0] 37) none) (fun _ e => by cases e))
  have HLT := Aside0.mk hlt
  have HD0 : Aside0 (t.data.toList.head? = some t[0]) := ⟨by
    have := drop_at t 0 ht0
    rw [List.drop_zero] at this
    rw [this]; rfl⟩
  clear hV h hb hlt ho hdg hall hd
  generalize digL t.data.toList = dg at *
  go_enter Tryd.func47, Tryd.ntmps47
  go_wp2_with fail
  go_at_call 30
  refine hnum.mono ?_
  rintro e w1 ⟨rfl, hb1⟩
  have HB1 := Aside0.mk hb1
  have c2 : w1.cell? ⟨g, 1, none⟩ = some (.string t) := (blk_cell (blk_below HO.out hb1) 1).trans rfl
  have hV1 := HV.out.move (grown_of_below hb1 none) (fun _ e => by cases e)
  have hat := HAT.out w1 hV1
  clear hb1 hnum c1 hV1
  go_wp2_with fail
  go_at_call 58
  refine hat.mono ?_
  rintro e w2 ⟨hb2, he⟩
  have HB2 := Aside0.mk hb2
  have HO2 := Aside0.mk (blk_below (blk_below HO.out HB1.out) hb2)
  have c3 : w2.cell? ⟨g, 1, none⟩ = some (.string t) := (blk_cell HO2.out 1).trans rfl
  have HR2 := Aside0.mk (blk_below (blk_below (blk_new w _) HB1.out) hb2)
  have HG2 := Aside0.mk (show w.grownBy w2 (some g) from gb_below (gb_below (World.grownBy_alloc _ _ _) HB1.out) hb2)
  have HH2 := Aside0.mk ((HH.out.below HB1.out).below hb2)
  clear hb2 hat c2
  -- something is wrong
  have HF := Aside0.mk (fails_any g _ _ i _ w2 HO2.out)
  have hlt := HLT.out
  have bad : ∀ w3, StW w3 g i → w2.grownBy w3 (some g) → numG t = none → PGot b g i ((numG t).bind fun n => (adv b (t :: ts)).map fun t1 => ((⟨1, n, [], []⟩ : Pred), t1)) w (⟨0, 0, [], []⟩ : Pred) (.slice none 0 0) (.slice none 0 0) (put4 w3 w.heap.size (.int .i64 (⟨0, 0, [], []⟩ : Pred).kind) (.int .i64 (⟨0, 0, [], []⟩ : Pred).n) (.slice none 0 0) (.slice none 0 0)) := by
    intro w3 h3 h4 h5
    rw [h5]
    exact pred_done hlt (StepsR.nil _ _) (PredsR.nil _ _) (gb_then HG2.out h4) (show Ends b g i none (⟨0, 0, [], []⟩ : Pred) w3 from h3)
  have HBAD := Aside0.mk bad
  clear bad
  rcases he with rfl | ⟨h9, n9, u9, p9, rfl⟩
  · by_cases hz : t[0] = 48
    · have hzb : ((t[0].toNat : Int) == 48) = true := by rw [hz]; rfl
      have HNG := Aside0.mk (show numG t = none by unfold numG; rw [HD0.out, hz, if_pos rfl])
      go_wp2_with fail
      go_at_call 31
      refine HF.out.mono ?_
      rintro e w3 ⟨⟨v3, rfl⟩, hw3, hg3⟩
      have hr3 := blk_grown HR2.out hg3 (fun e => by injection e; omega)
      have e0 : w3.cell? ⟨w.heap.size, 0, none⟩ = some (.int .i64 0) := (blk_cell hr3 0).trans rfl
      have e1 : w3.cell? ⟨w.heap.size, 1, none⟩ = some (.int .i64 0) := (blk_cell hr3 1).trans rfl
      have e2 : w3.cell? ⟨w.heap.size, 2, none⟩ = some (.slice none 0 0) := (blk_cell hr3 2).trans rfl
      have e3 : w3.cell? ⟨w.heap.size, 3, none⟩ = some (.slice none 0 0) := (blk_cell hr3 3).trans rfl
      have f0 := blk_frozen hr3 0
      have f1 := blk_frozen hr3 1
      have f2 := blk_frozen hr3 2
      have f3 := blk_frozen hr3 3
      have HR3 := Aside0.mk hr3
      have HP3 := Aside0.mk (HBAD.out w3 hw3 hg3 HNG.out)
      clear hr3 hw3 hg3
      go_wp2
      have hw9 := put4_at HR3.out (.int .i64 (⟨0, 0, [], []⟩ : Pred).kind) (.int .i64 (⟨0, 0, [], []⟩ : Pred).n) (.slice none (⟨0, 0, [], []⟩ : Pred).path.length 0) (.slice none (⟨0, 0, [], []⟩ : Pred).args.length 0)
      have hgot := HP3.out
      change bodyPost _ _ _ _ _ (put4 w3 w.heap.size (.int .i64 (⟨0, 0, [], []⟩ : Pred).kind) (.int .i64 (⟨0, 0, [], []⟩ : Pred).n) (.slice none (⟨0, 0, [], []⟩ : Pred).path.length 0) (.slice none (⟨0, 0, [], []⟩ : Pred).args.length 0))
      generalize put4 w3 w.heap.size (.int .i64 (⟨0, 0, [], []⟩ : Pred).kind) (.int .i64 (⟨0, 0, [], []⟩ : Pred).n) (.slice none (⟨0, 0, [], []⟩ : Pred).path.length 0) (.slice none (⟨0, 0, [], []⟩ : Pred).args.length 0) = w9 at hw9 hgot ⊢
      have q0 : w9.cell? ⟨w.heap.size, 0, none⟩ = some (.int .i64 (⟨0, 0, [], []⟩ : Pred).kind) := (blk_cell hw9 0).trans rfl
      have q1 : w9.cell? ⟨w.heap.size, 1, none⟩ = some (.int .i64 (⟨0, 0, [], []⟩ : Pred).n) := (blk_cell hw9 1).trans rfl
      have q2 : w9.cell? ⟨w.heap.size, 2, none⟩ = some (.slice none (⟨0, 0, [], []⟩ : Pred).path.length 0) := (blk_cell hw9 2).trans rfl
      have q3 : w9.cell? ⟨w.heap.size, 3, none⟩ = some (.slice none (⟨0, 0, [], []⟩ : Pred).args.length 0) := (blk_cell hw9 3).trans rfl
      refine bodyPost_ret (v := .agg #[.int .i64 (⟨0, 0, [], []⟩ : Pred).kind, .int .i64 (⟨0, 0, [], []⟩ : Pred).n, .slice none (⟨0, 0, [], []⟩ : Pred).path.length 0, .slice none (⟨0, 0, [], []⟩ : Pred).args.length 0]) (by simp [results, Tryd.results47, go_sem, q0, q1, q2, q3]) rfl ?_
      exact ⟨(⟨0, 0, [], []⟩ : Pred), none, 0, none, 0, rfl, hgot⟩
    · have hzb : ((t[0].toNat : Int) == 48) = false := beq_eq_false_iff_ne.mpr (fun e => hz (by rw [← UInt8.toNat_inj]; have : (48 : UInt8).toNat = 48 := rfl; omega))
      by_cases hm : 9999999 < valL 0 t.data.toList
      · have hmb : decide ((9999999 : Int) < (valL 0 t.data.toList : Int)) = true := decide_eq_true (by omega)
        have HNG := Aside0.mk (show numG t = none by unfold numG; rw [HD0.out, if_neg (fun e => hz (Option.some.inj e)), if_pos hm])
        go_wp2_with fail
        go_at_call 31
        refine HF.out.mono ?_
        rintro e w3 ⟨⟨v3, rfl⟩, hw3, hg3⟩
        have hr3 := blk_grown HR2.out hg3 (fun e => by injection e; omega)
        have e0 : w3.cell? ⟨w.heap.size, 0, none⟩ = some (.int .i64 0) := (blk_cell hr3 0).trans rfl
        have e1 : w3.cell? ⟨w.heap.size, 1, none⟩ = some (.int .i64 0) := (blk_cell hr3 1).trans rfl
        have e2 : w3.cell? ⟨w.heap.size, 2, none⟩ = some (.slice none 0 0) := (blk_cell hr3 2).trans rfl
        have e3 : w3.cell? ⟨w.heap.size, 3, none⟩ = some (.slice none 0 0) := (blk_cell hr3 3).trans rfl
        have f0 := blk_frozen hr3 0
        have f1 := blk_frozen hr3 1
        have f2 := blk_frozen hr3 2
        have f3 := blk_frozen hr3 3
        have HR3 := Aside0.mk hr3
        have HP3 := Aside0.mk (HBAD.out w3 hw3 hg3 HNG.out)
        clear hr3 hw3 hg3
        go_wp2
        have hw9 := put4_at HR3.out (.int .i64 (⟨0, 0, [], []⟩ : Pred).kind) (.int .i64 (⟨0, 0, [], []⟩ : Pred).n) (.slice none (⟨0, 0, [], []⟩ : Pred).path.length 0) (.slice none (⟨0, 0, [], []⟩ : Pred).args.length 0)
        have hgot := HP3.out
        change bodyPost _ _ _ _ _ (put4 w3 w.heap.size (.int .i64 (⟨0, 0, [], []⟩ : Pred).kind) (.int .i64 (⟨0, 0, [], []⟩ : Pred).n) (.slice none (⟨0, 0, [], []⟩ : Pred).path.length 0) (.slice none (⟨0, 0, [], []⟩ : Pred).args.length 0))
        generalize put4 w3 w.heap.size (.int .i64 (⟨0, 0, [], []⟩ : Pred).kind) (.int .i64 (⟨0, 0, [], []⟩ : Pred).n) (.slice none (⟨0, 0, [], []⟩ : Pred).path.length 0) (.slice none (⟨0, 0, [], []⟩ : Pred).args.length 0) = w9 at hw9 hgot ⊢
        have q0 : w9.cell? ⟨w.heap.size, 0, none⟩ = some (.int .i64 (⟨0, 0, [], []⟩ : Pred).kind) := (blk_cell hw9 0).trans rfl
        have q1 : w9.cell? ⟨w.heap.size, 1, none⟩ = some (.int .i64 (⟨0, 0, [], []⟩ : Pred).n) := (blk_cell hw9 1).trans rfl
        have q2 : w9.cell? ⟨w.heap.size, 2, none⟩ = some (.slice none (⟨0, 0, [], []⟩ : Pred).path.length 0) := (blk_cell hw9 2).trans rfl
        have q3 : w9.cell? ⟨w.heap.size, 3, none⟩ = some (.slice none (⟨0, 0, [], []⟩ : Pred).args.length 0) := (blk_cell hw9 3).trans rfl
        refine bodyPost_ret (v := .agg #[.int .i64 (⟨0, 0, [], []⟩ : Pred).kind, .int .i64 (⟨0, 0, [], []⟩ : Pred).n, .slice none (⟨0, 0, [], []⟩ : Pred).path.length 0, .slice none (⟨0, 0, [], []⟩ : Pred).args.length 0]) (by simp [results, Tryd.results47, go_sem, q0, q1, q2, q3]) rfl ?_
        exact ⟨(⟨0, 0, [], []⟩ : Pred), none, 0, none, 0, rfl, hgot⟩
      · have hmb : decide ((9999999 : Int) < (valL 0 t.data.toList : Int)) = false := decide_eq_false (by omega)
        have HNG := Aside0.mk (show numG t = some (valL 0 t.data.toList : Int) by unfold numG; rw [HD0.out, if_neg (fun e => hz (Option.some.inj e)), if_neg hm])
        have HN := Aside0.mk (next_st b g i t ts w2 HH2.out)
        go_wp2_with fail
        go_at_call 13
        refine HN.out.mono ?_
        rintro e w3 ⟨⟨v3, rfl⟩, hg3, hs3⟩
        have hr3 := blk_grown HR2.out hg3 (fun e => by injection e; omega)
        have e0 : w3.cell? ⟨w.heap.size, 0, none⟩ = some (.int .i64 0) := (blk_cell hr3 0).trans rfl
        have e1 : w3.cell? ⟨w.heap.size, 1, none⟩ = some (.int .i64 0) := (blk_cell hr3 1).trans rfl
        have e2 : w3.cell? ⟨w.heap.size, 2, none⟩ = some (.slice none 0 0) := (blk_cell hr3 2).trans rfl
        have e3 : w3.cell? ⟨w.heap.size, 3, none⟩ = some (.slice none 0 0) := (blk_cell hr3 3).trans rfl
        have f0 := blk_frozen hr3 0
        have f1 := blk_frozen hr3 1
        have f2 := blk_frozen hr3 2
        have f3 := blk_frozen hr3 3
        have HR3 := Aside0.mk hr3
        have HG3 := Aside0.mk (gb_then HG2.out hg3)
        have HE3 := Aside0.mk (show Ends b g i ((numG t).bind fun n => (adv b (t :: ts)).map fun t1 => ((⟨1, n, [], []⟩ : Pred), t1)) (⟨1, (valL 0 t.data.toList : Int), [], []⟩ : Pred) w3 by
          rw [HNG.out]
          simp only [Option.bind_some]
          cases ha : adv b (t :: ts) with
          | none => rw [ha] at hs3; exact hs3
          | some r => rw [ha] at hs3; exact ⟨rfl, hs3⟩)
        clear hr3 hs3 hg3
        go_wp2
        have hw9 := put4_at HR3.out (.int .i64 (⟨1, (valL 0 t.data.toList : Int), [], []⟩ : Pred).kind) (.int .i64 (⟨1, (valL 0 t.data.toList : Int), [], []⟩ : Pred).n) (.slice none (⟨1, (valL 0 t.data.toList : Int), [], []⟩ : Pred).path.length 0) (.slice none (⟨1, (valL 0 t.data.toList : Int), [], []⟩ : Pred).args.length 0)
        have hgot := pred_done hlt (StepsR.nil _ _) (PredsR.nil _ _) HG3.out HE3.out
        change bodyPost _ _ _ _ _ (put4 w3 w.heap.size (.int .i64 (⟨1, (valL 0 t.data.toList : Int), [], []⟩ : Pred).kind) (.int .i64 (⟨1, (valL 0 t.data.toList : Int), [], []⟩ : Pred).n) (.slice none (⟨1, (valL 0 t.data.toList : Int), [], []⟩ : Pred).path.length 0) (.slice none (⟨1, (valL 0 t.data.toList : Int), [], []⟩ : Pred).args.length 0))
        generalize put4 w3 w.heap.size (.int .i64 (⟨1, (valL 0 t.data.toList : Int), [], []⟩ : Pred).kind) (.int .i64 (⟨1, (valL 0 t.data.toList : Int), [], []⟩ : Pred).n) (.slice none (⟨1, (valL 0 t.data.toList : Int), [], []⟩ : Pred).path.length 0) (.slice none (⟨1, (valL 0 t.data.toList : Int), [], []⟩ : Pred).args.length 0) = w9 at hw9 hgot ⊢
        have q0 : w9.cell? ⟨w.heap.size, 0, none⟩ = some (.int .i64 (⟨1, (valL 0 t.data.toList : Int), [], []⟩ : Pred).kind) := (blk_cell hw9 0).trans rfl
        have q1 : w9.cell? ⟨w.heap.size, 1, none⟩ = some (.int .i64 (⟨1, (valL 0 t.data.toList : Int), [], []⟩ : Pred).n) := (blk_cell hw9 1).trans rfl
        have q2 : w9.cell? ⟨w.heap.size, 2, none⟩ = some (.slice none (⟨1, (valL 0 t.data.toList : Int), [], []⟩ : Pred).path.length 0) := (blk_cell hw9 2).trans rfl
        have q3 : w9.cell? ⟨w.heap.size, 3, none⟩ = some (.slice none (⟨1, (valL 0 t.data.toList : Int), [], []⟩ : Pred).args.length 0) := (blk_cell hw9 3).trans rfl
        refine bodyPost_ret (v := .agg #[.int .i64 (⟨1, (valL 0 t.data.toList : Int), [], []⟩ : Pred).kind, .int .i64 (⟨1, (valL 0 t.data.toList : Int), [], []⟩ : Pred).n, .slice none (⟨1, (valL 0 t.data.toList : Int), [], []⟩ : Pred).path.length 0, .slice none (⟨1, (valL 0 t.data.toList : Int), [], []⟩ : Pred).args.length 0]) (by simp [results, Tryd.results47, go_sem, q0, q1, q2, q3]) rfl ?_
        exact ⟨(⟨1, (valL 0 t.data.toList : Int), [], []⟩ : Pred), none, 0, none, 0, rfl, hgot⟩
  · have HNG : Aside0 (numG t = none) := ⟨by
      unfold numG
      by_cases hz : t.data.toList.head? = some 48
      · rw [if_pos hz]
      · rw [if_neg hz, if_pos h9]⟩
    clear h9
    go_wp2_with fail
    go_at_call 31
    refine HF.out.mono ?_
    rintro e w3 ⟨⟨v3, rfl⟩, hw3, hg3⟩
    have hr3 := blk_grown HR2.out hg3 (fun e => by injection e; omega)
    have e0 : w3.cell? ⟨w.heap.size, 0, none⟩ = some (.int .i64 0) := (blk_cell hr3 0).trans rfl
    have e1 : w3.cell? ⟨w.heap.size, 1, none⟩ = some (.int .i64 0) := (blk_cell hr3 1).trans rfl
    have e2 : w3.cell? ⟨w.heap.size, 2, none⟩ = some (.slice none 0 0) := (blk_cell hr3 2).trans rfl
    have e3 : w3.cell? ⟨w.heap.size, 3, none⟩ = some (.slice none 0 0) := (blk_cell hr3 3).trans rfl
    have f0 := blk_frozen hr3 0
    have f1 := blk_frozen hr3 1
    have f2 := blk_frozen hr3 2
    have f3 := blk_frozen hr3 3
    have HR3 := Aside0.mk hr3
    have HP3 := Aside0.mk (HBAD.out w3 hw3 hg3 HNG.out)
    clear hr3 hw3 hg3
    go_wp2
    have hw9 := put4_at HR3.out (.int .i64 (⟨0, 0, [], []⟩ : Pred).kind) (.int .i64 (⟨0, 0, [], []⟩ : Pred).n) (.slice none (⟨0, 0, [], []⟩ : Pred).path.length 0) (.slice none (⟨0, 0, [], []⟩ : Pred).args.length 0)
    have hgot := HP3.out
    change bodyPost _ _ _ _ _ (put4 w3 w.heap.size (.int .i64 (⟨0, 0, [], []⟩ : Pred).kind) (.int .i64 (⟨0, 0, [], []⟩ : Pred).n) (.slice none (⟨0, 0, [], []⟩ : Pred).path.length 0) (.slice none (⟨0, 0, [], []⟩ : Pred).args.length 0))
    generalize put4 w3 w.heap.size (.int .i64 (⟨0, 0, [], []⟩ : Pred).kind) (.int .i64 (⟨0, 0, [], []⟩ : Pred).n) (.slice none (⟨0, 0, [], []⟩ : Pred).path.length 0) (.slice none (⟨0, 0, [], []⟩ : Pred).args.length 0) = w9 at hw9 hgot ⊢
    have q0 : w9.cell? ⟨w.heap.size, 0, none⟩ = some (.int .i64 (⟨0, 0, [], []⟩ : Pred).kind) := (blk_cell hw9 0).trans rfl
    have q1 : w9.cell? ⟨w.heap.size, 1, none⟩ = some (.int .i64 (⟨0, 0, [], []⟩ : Pred).n) := (blk_cell hw9 1).trans rfl
    have q2 : w9.cell? ⟨w.heap.size, 2, none⟩ = some (.slice none (⟨0, 0, [], []⟩ : Pred).path.length 0) := (blk_cell hw9 2).trans rfl
    have q3 : w9.cell? ⟨w.heap.size, 3, none⟩ = some (.slice none (⟨0, 0, [], []⟩ : Pred).args.length 0) := (blk_cell hw9 3).trans rfl
    refine bodyPost_ret (v := .agg #[.int .i64 (⟨0, 0, [], []⟩ : Pred).kind, .int .i64 (⟨0, 0, [], []⟩ : Pred).n, .slice none (⟨0, 0, [], []⟩ : Pred).path.length 0, .slice none (⟨0, 0, [], []⟩ : Pred).args.length 0]) (by simp [results, Tryd.results47, go_sem, q0, q1, q2, q3]) rfl ?_
    exact ⟨(⟨0, 0, [], []⟩ : Pred), none, 0, none, 0, rfl, hgot⟩
theorem pred_step (b : Bool) (g k : Nat) (hg : 4 < g) (IH : PartC 57 (choiceG b) b g k) : PartC 47 (predG b) b g (k + 1) := by
  intro i ts o w h0 hi hV h hr
  cases ts with
  | nil => exact pred_choice b g k hg IH i [] o w h0 (by omega) hV h (fun t ts' e => by cases e) hr
  | cons t ts =>
    simp only [predG] at hr
    by_cases hd : 0 < digL t.data.toList
    · rw [if_pos hd] at hr
      have e : o = (numG t).bind fun n => (adv b (t :: ts)).map fun t1 => ((⟨1, n, [], []⟩ : Pred), t1) := by
        rcases Opt_some hr with ⟨h1, rfl⟩ | ⟨n, h1, h2⟩
        · rw [h1]; rfl
        · rw [h1]
          rcases Opt_some h2 with ⟨h3, rfl⟩ | ⟨t1, h3, h4⟩
          · simp [h3]
          · simp only [Option.bind_some, h3]; exact (Option.some.inj h4).symm
      rw [e]
      exact pred_number b g hg i t ts w hV h hd
    · rw [if_neg hd] at hr
      exact pred_choice b g k hg IH i (t :: ts) o w h0 (by omega) hV h (fun t' ts' e => by injection e with e1 e2; rw [← e1]; omega) hr
end Go.Proofs.YtoanmoddppmffaaDoor.T
