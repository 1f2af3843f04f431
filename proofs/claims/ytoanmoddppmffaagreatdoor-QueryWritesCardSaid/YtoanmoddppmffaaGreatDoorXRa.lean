/- What the laws share: awake, short. -/
import Derived.Test.YtoanmoddppmffaaGreatDoorXQn
import Derived.Test.YtoanmoddppmffaaGreatDoorXRj
import Derived.Test.YtoanmoddppmffaaGreatDoorXFc
import Derived.Test.YtoanmoddppmffaaGreatDoorXQc
import Derived.LoopN
namespace Go.Proofs.YtoanmoddppmffaaGreatDoor.T
open Go.RowKit Go.Shelf Go.Proofs.YtoanmoddppmffaaGreatDoorW.PrintWords
set_option linter.unusedVariables false
set_option linter.unusedSimpArgs false
def awakeL : List Step := [⟨true, 1, ⟨#[97]⟩, [⟨4, 0, [], [⟨2, 0, [⟨false, 2, ⟨#[98]⟩, []⟩], []⟩, ⟨5, 0, [], [⟨2, 0, [⟨false, 1, ⟨#[99]⟩, []⟩], []⟩]⟩]⟩]⟩, ⟨false, 3, ⟨#[]⟩, []⟩]
theorem awake1 : parseG 5000 ⟨#[47, 47, 97, 91, 64, 98, 32, 111, 114, 32, 110, 111, 116, 40, 99, 41, 93, 47, 116, 101, 120, 116, 40, 41]⟩ = some (some awakeL) := by kernel_rfl
theorem awake2 : parseG 5000 ⟨#[47, 97, 91, 48, 93]⟩ = some none := by kernel_rfl
theorem awake3 : parseG 5000 ⟨#[97]⟩ = some none := by kernel_rfl
theorem awake4 : parseG 5000 ⟨#[47, 97, 91]⟩ = some none := by kernel_rfl
def shortB (s : ByteArray) (n : Nat) : ByteArray := if n < s.size then s.extract 0 n else s
theorem shortB_size (s : ByteArray) (n : Nat) : (shortB s n).size ≤ n := by
  unfold shortB
  split
  · rw [ByteArray.size_extract]; omega
  · omega
theorem short_any (s : ByteArray) (n : Nat) (w : World) (hn : n ≤ 1000) : Calls Tryz.prog 13 #[.string s, .int .i64 n] w fun e w' => e = .returned (.string (shortB s n)) ∧ w = w' := by
  have hn0 : (0 : Int) ≤ (n : Int) := by omega
  unfold shortB
  by_cases h : n < s.size
  · have h' : (n : Int) < (s.size : Int) := by omega
    rw [if_pos h]
    go_enter Tryz.func13, Tryz.ntmps13
    go_wp2
    go_ret
    exact ⟨rfl, rfl⟩
  · have h' : ¬ (n : Int) < (s.size : Int) := by omega
    rw [if_neg h]
    go_enter Tryz.func13, Tryz.ntmps13
    go_wp2
    go_ret
    exact ⟨rfl, rfl⟩
theorem Vr.below {w w' : World} (h : Vr w) (hb : Below w.heap.size w w') : Vr w' := by
  obtain ⟨ev, hc, he⟩ := h
  exact ⟨ev, pw_cell_below hb hc, he⟩
set_option maxHeartbeats 4000000 in
set_option maxRecDepth 100000 in
theorem awake_any (w : World) (hV : Vr w) (hw : 4 < w.heap.size) : Calls Tryz.prog 6 #[] w fun e w' => e = .returned (.bool true) ∧ Below w.heap.size w w' := by
  have h1 := parse_any ⟨#[47, 47, 97, 91, 64, 98, 32, 111, 114, 32, 110, 111, 116, 40, 99, 41, 93, 47, 116, 101, 120, 116, 40, 41]⟩ 5000 (some awakeL) w (by decide) awake1 hV hw (by decide)
  have HV := Aside0.mk hV
  have HW := Aside0.mk hw
  clear hV hw
  go_enter Tryz.func6, Tryz.ntmps6
  go_wp2_with fail
  go_at_call 11
  refine h1.mono ?_
  rintro e w1 ⟨hb1, A, c, rfl, hc, hs⟩
  obtain ⟨n, hs⟩ := hs
  obtain ⟨m, ad, c', u, rfl, he, hok, hp, x0, x1, x2, x3⟩ := hs.getS (j := 0) (x := ⟨true, 1, ⟨#[97]⟩, [⟨4, 0, [], [⟨2, 0, [⟨false, 2, ⟨#[98]⟩, []⟩], []⟩, ⟨5, 0, [], [⟨2, 0, [⟨false, 1, ⟨#[99]⟩, []⟩], []⟩]⟩]⟩]⟩) rfl
  obtain ⟨m', ad', c'', u', he0, he', _, _, y0, y1, y2, y3⟩ := hs.getS (j := 1) (x := ⟨false, 3, ⟨#[]⟩, []⟩) rfl
  obtain ⟨A2, c2, rfl, hc2, hc3⟩ := hp.slice
  obtain ⟨m2, ad2, c4, p4, a4, rfl, he2, hok2, _, _, z0, _, _, _⟩ := hp.getP (j := 0) rfl
  simp only [Value.slice.injEq, true_and] at he he' he2
  obtain ⟨rfl, rfl⟩ := he
  obtain ⟨rfl, rfl⟩ := he2
  obtain ⟨he3, rfl⟩ := he'
  obtain rfl := Option.some.inj he3
  have HB1 := Aside0.mk hb1
  have HC := Aside0.mk (And.intro x0 (And.intro x2 (And.intro x3 (And.intro z0 y1))))
  have h2 := parse_any ⟨#[47, 97, 91, 48, 93]⟩ 5000 none w1 (by decide) awake2 (HV.out.below hb1) (Nat.lt_of_lt_of_le HW.out hb1.size) (by decide)
  clear hb1 hs hp h1 he0 x0 x1 x2 x3 y0 y1 y2 y3 z0
  go_wp2_with fail
  go_at_call 11
  refine h2.mono ?_
  rintro e w2 ⟨hb2, rfl⟩
  have HB2 := Aside0.mk (below_step HB1.out hb2)
  have h3 := parse_any ⟨#[97]⟩ 5000 none w2 (by decide) awake3 (HV.out.below HB2.out) (Nat.lt_of_lt_of_le HW.out HB2.out.size) (by decide)
  have HC2 := Aside0.mk (And.intro (pw_cell_below hb2 HC.out.1) (And.intro (pw_cell_below hb2 HC.out.2.1) (And.intro (pw_cell_below hb2 HC.out.2.2.1) (And.intro (pw_cell_below hb2 HC.out.2.2.2.1) (pw_cell_below hb2 HC.out.2.2.2.2)))))
  clear hb2 h2
  go_wp2_with fail
  go_at_call 11
  refine h3.mono ?_
  rintro e w3 ⟨hb3, rfl⟩
  have HB3 := Aside0.mk (below_step HB2.out hb3)
  have h4 := parse_any ⟨#[47, 97, 91]⟩ 5000 none w3 (by decide) awake4 (HV.out.below HB3.out) (Nat.lt_of_lt_of_le HW.out HB3.out.size) (by decide)
  have HC3 := Aside0.mk (And.intro (pw_cell_below hb3 HC2.out.1) (And.intro (pw_cell_below hb3 HC2.out.2.1) (And.intro (pw_cell_below hb3 HC2.out.2.2.1) (And.intro (pw_cell_below hb3 HC2.out.2.2.2.1) (pw_cell_below hb3 HC2.out.2.2.2.2)))))
  clear hb3 h3
  go_wp2_with fail
  go_at_call 11
  refine h4.mono ?_
  rintro e w4 ⟨hb4, rfl⟩
  have HB4 := Aside0.mk (below_step HB3.out hb4)
  have x0 := pw_cell_below hb4 HC3.out.1
  have x2 := pw_cell_below hb4 HC3.out.2.1
  have x3 := pw_cell_below hb4 HC3.out.2.2.1
  have z0 := pw_cell_below hb4 HC3.out.2.2.2.1
  have y1 := pw_cell_below hb4 HC3.out.2.2.2.2
  have hl : (awakeL.length : Nat) = 2 := rfl
  have a0 : ∀ d : Addr, d.add (0 * 4) = d := fun d => by simp [Addr.add]
  have a4 : ∀ d : Addr, d.add (1 * 4) = ⟨d.block, d.off + 4, none⟩ := fun d => by simp [Addr.add]
  simp only [a0, a4] at x0 x2 x3 z0 y1
  simp only [hl, List.length_cons, List.length_nil, Nat.zero_add] at x3 ⊢
  clear a0 a4
  clear hb4 h4
  go_wp2
  go_ret
  exact ⟨rfl, HB4.out⟩
theorem StepsR.below {ok : Nat → Prop} {w w' : World} {v : Value} {xs : List Step} (h : StepsR ok w v xs) (hb : Below w.heap.size w w') : StepsR (fun k => ok k ∧ k < w.heap.size) w' v xs :=
  h.bound.imp_ (fun k hk => hb.block k hk.2) (fun k hk => hk)
end Go.Proofs.YtoanmoddppmffaaGreatDoor.T
namespace Go.Proofs.YtoanmoddppmffaaGreatDoor.T
open Go.RowKit Go.Shelf Go.Proofs.YtoanmoddppmffaaGreatDoorW.PrintWords
set_option linter.unusedVariables false
set_option linter.unusedSimpArgs false
theorem sp_iff (c : UInt8) : isSp c = true ↔ (c.toNat : Int) = 32 ∨ (c.toNat : Int) = 9 ∨ (c.toNat : Int) = 10 ∨ (c.toNat : Int) = 13 := by
  simp only [isSp, Bool.or_eq_true, beq_iff_eq, ← UInt8.toNat_inj]
  have e1 : (32 : UInt8).toNat = 32 := rfl
  have e2 : (9 : UInt8).toNat = 9 := rfl
  have e3 : (10 : UInt8).toNat = 10 := rfl
  have e4 : (13 : UInt8).toNat = 13 := rfl
  omega
set_option maxHeartbeats 1000000 in
theorem rSpace_any (c : UInt8) (w : World) : Calls Tryz.prog 67 #[.int .u8 (c.toNat : Int)] w fun e w' => e = .returned (.bool (isSp c)) ∧ w = w' := by
  have HA := Aside0.mk (sp_iff c)
  go_enter Tryz.func67, Tryz.ntmps67
  go_wp2
  all_goals
    go_ret
    refine ⟨congrArg Ending.returned (show Value.bool _ = _ from congrArg Value.bool ?_), rfl⟩
    rw [Bool.eq_iff_iff, HA.out]
    try simp only [decide_eq_true_eq, Bool.or_eq_true, beq_iff_eq, true_iff, iff_true, Bool.false_eq_true, false_iff, iff_false]
    try simp only [ge_iff_le, gt_iff_lt, beq_iff_eq, beq_eq_false_iff_ne, ne_eq, Bool.not_eq_true, decide_eq_false_iff_not, decide_eq_true_eq] at *
    first | omega | trace_state
set_option maxHeartbeats 1000000 in
theorem rSkip_any (s : ByteArray) (n r : Nat) (w : World) (hs : s.size ≤ 100000) (hn : n ≤ s.size) (hr : n + skipL (s.data.toList.drop n) = r) :
    Calls Tryz.prog 50 #[.string s, .int .i64 (n : Int)] w fun e w' => e = .returned (.int .i64 (r : Int)) ∧ w = w' := by
  have HR := Aside0.mk hr
  clear hr
  go_enter Tryz.func50, Tryz.ntmps50
  go_wp2
  go_loop [1] (fun i => ∃ k : Nat, k ≤ s.size ∧ i = .int .i64 k ∧ Aside0 (k + skipL (s.data.toList.drop k) = r)) (fun i => s.size - (intOf i).toNat)
  case atStart => exact ⟨n, hn, rfl, HR⟩
  case round =>
    obtain ⟨k, hk, rfl, H⟩ := hrel
    have hk0 : (0 : Int) ≤ (k : Int) := by omega
    by_cases hlt : k < s.size
    · have HD := Aside0.mk (drop_at s k hlt)
      have hk1 : (k : Int) < (s.size : Int) := by omega
      by_cases hsp : isSp s[k] = true
      · go_wp2_with (go_at_call 67; refine (rSpace_any s[k] _).mono ?_; rintro e w' ⟨rfl, rfl⟩)
        go_round
        case rel => exact ⟨k + 1, by omega, by go_num, ⟨by rw [← H.out, HD.out, skipL, if_pos hsp]; omega⟩⟩
        case measure => simp [intOf]; omega
      · have hsp : isSp s[k] = false := by simpa using hsp
        go_wp2_with (go_at_call 67; refine (rSpace_any s[k] _).mono ?_; rintro e w' ⟨rfl, rfl⟩)
        go_ret
        have h2 : k = r := by rw [← H.out, HD.out, skipL, if_neg (by simp [hsp])]; rfl
        exact ⟨congrArg Ending.returned (congrArg (Value.int IntKind.i64) (congrArg Nat.cast h2)), rfl⟩
    · obtain rfl : k = s.size := by omega
      go_wp2
      go_ret
      have h2 : s.size = r := by rw [← H.out, drop_all _ _ (Nat.le_refl _), skipL]; rfl
      exact ⟨congrArg Ending.returned (congrArg (Value.int IntKind.i64) (congrArg Nat.cast h2)), rfl⟩
theorem nmAt_same (n : Nat) (c : UInt8) : nmAt n n c = isAl c := by simp [nmAt]
theorem nmAt_gt (n k : Nat) (c : UInt8) (h : n < k) : nmAt n k c = isMo c := by
  simp only [nmAt, decide_eq_true h, Bool.and_true, isMo]
  cases isAl c <;> simp
set_option maxHeartbeats 4000000 in
theorem rNameEnd_any (s : ByteArray) (n r : Nat) (w : World) (hs : s.size ≤ 100000) (hn : n ≤ s.size) (hr : n + nameL (s.data.toList.drop n) = r) :
    Calls Tryz.prog 51 #[.string s, .int .i64 (n : Int)] w fun e w' => e = .returned (.int .i64 (r : Int)) ∧ w = w' := by
  have HR := Aside0.mk hr
  clear hr
  go_enter Tryz.func51, Tryz.ntmps51
  go_wp2
  go_loop [5, 6, 7, 8] (fun i _ _ _ => ∃ k : Nat, k ≤ s.size ∧ i = .int .i64 k ∧ Aside0 ((k = n ∧ n + nameL (s.data.toList.drop n) = r) ∨ (n < k ∧ k + moreL (s.data.toList.drop k) = r))) (fun i _ _ _ => s.size - (intOf i).toNat)
  case atStart => exact ⟨n, hn, rfl, ⟨.inl ⟨rfl, HR.out⟩⟩⟩
  case round =>
    obtain ⟨k, hk, rfl, H⟩ := hrel
    have hk0 : (0 : Int) ≤ (k : Int) := by omega
    have hnk : n ≤ k := by rcases H.out with ⟨h, _⟩ | ⟨h, _⟩ <;> omega
    by_cases hlt : k < s.size
    · have HD := Aside0.mk (drop_at s k hlt)
      have hk1 : (k : Int) < (s.size : Int) := by omega
      have HA := Aside0.mk (nmAt_iff n k s[k])
      have HY : Aside0 (nmAt n k s[k] = true → (k + 1) + moreL (s.data.toList.drop (k + 1)) = r) := ⟨fun hm => by
        rcases H.out with ⟨rfl, h⟩ | ⟨h0, h⟩
        · rw [← h, HD.out, nameL, if_pos (by rwa [nmAt_same] at hm)]; omega
        · rw [← h, HD.out, moreL, if_pos (by rwa [nmAt_gt _ _ _ h0] at hm)]; omega⟩
      have HN : Aside0 (¬ nmAt n k s[k] = true → k = r) := ⟨fun hm => by
        rcases H.out with ⟨rfl, h⟩ | ⟨h0, h⟩
        · rw [← h, HD.out, nameL, if_neg (by rwa [nmAt_same] at hm)]; rfl
        · rw [← h, HD.out, moreL, if_neg (by rwa [nmAt_gt _ _ _ h0] at hm)]; rfl⟩
      go_wp2
      all_goals first
        | (go_ret
           refine ⟨congrArg Ending.returned (show Value.int _ _ = _ from congrArg (Value.int IntKind.i64) (congrArg Nat.cast (HN.out ?_))), rfl⟩
           rw [HA.out]
           try simp only [Bool.not_eq_true', Bool.not_eq_false', Bool.and_eq_true, Bool.and_eq_false_iff, decide_eq_true_eq, beq_iff_eq, beq_eq_false_iff_ne, ne_eq, decide_eq_false_iff_not] at *
           omega)
        | (go_round
           case rel =>
             refine ⟨k + 1, by omega, by go_num, ⟨.inr ⟨by omega, HY.out ?_⟩⟩⟩
             rw [HA.out]
             try simp only [Bool.not_eq_true', Bool.not_eq_false', Bool.and_eq_true, Bool.and_eq_false_iff, decide_eq_true_eq, beq_iff_eq, beq_eq_false_iff_ne, ne_eq, decide_eq_false_iff_not] at *
             omega
           case measure => simp [intOf]; omega)
        | trace_state
    · obtain rfl : k = s.size := by omega
      go_wp2
      go_ret
      have h2 : s.size = r := by
        rcases H.out with ⟨h0, h⟩ | ⟨h0, h⟩
        · subst h0
          rw [drop_all _ _ (Nat.le_refl _), nameL] at h; omega
        · rw [drop_all _ _ (Nat.le_refl _), moreL] at h; omega
      exact ⟨congrArg Ending.returned (congrArg (Value.int IntKind.i64) (congrArg Nat.cast h2)), rfl⟩
set_option maxHeartbeats 400000 in
theorem refName_any (s : ByteArray) (w : World) (hs : s.size ≤ 100000) :
    Calls Tryz.prog 47 #[.string s] w fun e w' => e = .returned (.bool (isNm s)) ∧ w = w' := by
  by_cases h0 : s = ⟨#[]⟩
  · subst h0
    go_enter Tryz.func47, Tryz.ntmps47
    go_wp2
    go_ret
    exact ⟨rfl, rfl⟩
  · have hl := (nonempty_list h0).2
    have HS := Aside0.mk (show 0 < s.size by
      rcases Nat.eq_zero_or_pos s.size with h | h
      · exact absurd (bs_ext (List.eq_nil_of_length_eq_zero (by rw [Array.length_toList]; exact h))) h0
      · exact h)
    have hcon := rNameEnd_any s 0 (nameL s.data.toList) w hs (Nat.zero_le _) (by simp)
    have hcon' : Calls Tryz.prog 51 #[.string s, .int .i64 0] w _ := hcon
    clear hcon
    go_enter Tryz.func47, Tryz.ntmps47
    go_wp2_with (go_at_call 51; refine hcon'.mono ?_; rintro e w' ⟨rfl, rfl⟩)
    go_ret
    refine ⟨congrArg Ending.returned (show Value.bool _ = _ from congrArg Value.bool ?_), rfl⟩
    rw [isNm, decide_eq_true HS.out, Bool.true_and, Bool.eq_iff_iff, beq_iff_eq]
    simp only [decide_eq_true_eq, beq_iff_eq]
    omega
def TokR (w : World) (A : Option Addr) (l : List Tok) : Prop := ∀ k (h : k < l.length), ∃ g, A = some ⟨g, 0, none⟩ ∧ w.cell? ⟨g, k, none⟩ = some (.string l[k])
theorem TokR.below {w w' : World} {A : Option Addr} {l : List Tok} (h : TokR w A l) (hb : Below w.heap.size w w') : TokR w' A l := fun k hk => by
  obtain ⟨g, rfl, hc⟩ := h k hk
  exact ⟨g, rfl, pw_cell_below hb hc⟩
def atL (l : List Tok) (j : Nat) : Tok := (l[j]?).getD ⟨#[]⟩
set_option maxHeartbeats 400000 in
theorem at_any (l : List Tok) (A : Option Addr) (c j : Nat) (w : World) (hT : TokR w A l) :
    Calls Tryz.prog 32 #[.slice A l.length c, .int .i64 (j : Int)] w fun e w' => e = .returned (.string (atL l j)) ∧ w = w' := by
  by_cases hj : j < l.length
  · obtain ⟨g, rfl, hc⟩ := hT j hj
    have HA := Aside0.mk (show atL l j = l[j] by simp [atL, hj])
    generalize l[j] = x at *
    have hj0 : (0 : Int) ≤ (j : Int) := by omega
    have hj1 : (j : Int) < (l.length : Int) := by omega
    clear hT
    go_enter Tryz.func32, Tryz.ntmps32
    go_wp2
    go_ret
    exact ⟨congrArg (fun x => Ending.returned (Value.string x)) HA.out.symm, rfl⟩
  · have HA := Aside0.mk (show atL l j = ⟨#[]⟩ by simp [atL, hj])
    have hj1 : ¬ (j : Int) < (l.length : Int) := by omega
    clear hT
    go_enter Tryz.func32, Tryz.ntmps32
    go_wp2
    go_ret
    exact ⟨congrArg (fun x => Ending.returned (Value.string x)) HA.out.symm, rfl⟩
end Go.Proofs.YtoanmoddppmffaaGreatDoor.T
