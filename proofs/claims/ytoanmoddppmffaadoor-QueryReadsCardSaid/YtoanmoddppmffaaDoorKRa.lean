/- The reference: spaces, names, the sign at a place. -/
import Derived.Test.YtoanmoddppmffaaDoorKQc
import Derived.LoopN
namespace Go.Proofs.YtoanmoddppmffaaDoor.T
open Go.RowKit Go.Shelf Go.Proofs.YtoanmoddppmffaaDoorW.PrintWords
set_option linter.unusedVariables false
set_option linter.unusedSimpArgs false
theorem sp_iff (c : UInt8) : isSp c = true ↔ (c.toNat : Int) = 32 ∨ (c.toNat : Int) = 9 ∨ (c.toNat : Int) = 10 ∨ (c.toNat : Int) = 13 := by
  simp only [isSp, Bool.or_eq_true, beq_iff_eq, ← UInt8.toNat_inj]
  have e1 : (32 : UInt8).toNat = 32 := rfl
  have e2 : (9 : UInt8).toNat = 9 := rfl
  have e3 : (10 : UInt8).toNat = 10 := rfl
  have e4 : (13 : UInt8).toNat = 13 := rfl
  omega
set_option maxHeartbeats 1000000 in
theorem rSpace_any (c : UInt8) (w : World) : Calls Tryd.prog 48 #[.int .u8 (c.toNat : Int)] w fun e w' => e = .returned (.bool (isSp c)) ∧ w = w' := by
  have HA := Aside0.mk (sp_iff c)
  go_enter Tryd.func48, Tryd.ntmps48
  go_wp2
  all_goals
    go_ret
    refine ⟨congrArg Ending.returned (show Value.bool _ = _ from congrArg Value.bool ?_), rfl⟩
    rw [Bool.eq_iff_iff, HA.out]
    try simp only [decide_eq_true_eq, Bool.or_eq_true, beq_iff_eq, true_iff, iff_true, Bool.false_eq_true, false_iff, iff_false]
    try simp only [ge_iff_le, gt_iff_lt, beq_iff_eq, beq_eq_false_iff_ne, ne_eq, Bool.not_eq_true, decide_eq_false_iff_not, decide_eq_true_eq] at *
    first | omega | trace_state
set_option maxHeartbeats 1000000 in
theorem rSkip_any (s : ByteArray) (n r : Nat) (w : World) (hs : s.size ≤ 100000) (hn : n ≤ s.size) (hr : n + skipL (s.data.toList.drop n) = r) :
    Calls Tryd.prog 34 #[.string s, .int .i64 (n : Int)] w fun e w' => e = .returned (.int .i64 (r : Int)) ∧ w = w' := by
  have HR := Aside0.mk hr
  clear hr
  go_enter Tryd.func34, Tryd.ntmps34
  go_wp2
  go_loop [1] (fun i => ∃ k : Nat, k ≤ s.size ∧ i = .int .i64 k ∧ Aside0 (k + skipL (s.data.toList.drop k) = r)) (fun i => s.size - (intOf i).toNat)
  case atStart => exact ⟨n, hn, rfl, HR⟩
  case round =>
    obtain ⟨k, hk, rfl, H⟩ := hrel
    have hk0 : (0 : Int) ≤ (k : Int) := by omega
    by_cases hlt : k < s.size
    · have HD := Aside0.mk (drop_at s k hlt)
      have hk1 : (k : Int) < (s.size : Int) := by omega
      by_cases hsp : isSp s[k] = true
      · go_wp2_with (go_at_call 48; refine (rSpace_any s[k] _).mono ?_; rintro e w' ⟨rfl, rfl⟩)
        go_round
        case rel => exact ⟨k + 1, by omega, by go_num, ⟨by rw [← H.out, HD.out, skipL, if_pos hsp]; omega⟩⟩
        case measure => simp [intOf]; omega
      · have hsp : isSp s[k] = false := by simpa using hsp
        go_wp2_with (go_at_call 48; refine (rSpace_any s[k] _).mono ?_; rintro e w' ⟨rfl, rfl⟩)
        go_ret
        have h2 : k = r := by rw [← H.out, HD.out, skipL, if_neg (by simp [hsp])]; rfl
        exact ⟨congrArg Ending.returned (congrArg (Value.int IntKind.i64) (congrArg Nat.cast h2)), rfl⟩
    · obtain rfl : k = s.size := by omega
      go_wp2
      go_ret
      have h2 : s.size = r := by rw [← H.out, drop_all _ _ (Nat.le_refl _), skipL]; rfl
      exact ⟨congrArg Ending.returned (congrArg (Value.int IntKind.i64) (congrArg Nat.cast h2)), rfl⟩
theorem nmAt_same (n : Nat) (c : UInt8) : nmAt n n c = isAl c := by simp [nmAt]
theorem nmAt_gt (n k : Nat) (c : UInt8) (h : n < k) : nmAt n k c = isMo c := by
  simp only [nmAt, decide_eq_true h, Bool.and_true, isMo]
  cases isAl c <;> simp
set_option maxHeartbeats 4000000 in
theorem rNameEnd_any (s : ByteArray) (n r : Nat) (w : World) (hs : s.size ≤ 100000) (hn : n ≤ s.size) (hr : n + nameL (s.data.toList.drop n) = r) :
    Calls Tryd.prog 35 #[.string s, .int .i64 (n : Int)] w fun e w' => e = .returned (.int .i64 (r : Int)) ∧ w = w' := by
  have HR := Aside0.mk hr
  clear hr
  go_enter Tryd.func35, Tryd.ntmps35
  go_wp2
  go_loop [5, 6, 7, 8] (fun i _ _ _ => ∃ k : Nat, k ≤ s.size ∧ i = .int .i64 k ∧ Aside0 ((k = n ∧ n + nameL (s.data.toList.drop n) = r) ∨ (n < k ∧ k + moreL (s.data.toList.drop k) = r))) (fun i _ _ _ => s.size - (intOf i).toNat)
  case atStart => exact ⟨n, hn, rfl, ⟨.inl ⟨rfl, HR.out⟩⟩⟩
  case round =>
    obtain ⟨k, hk, rfl, H⟩ := hrel
    have hk0 : (0 : Int) ≤ (k : Int) := by omega
    have hnk : n ≤ k := by rcases H.out with ⟨h, _⟩ | ⟨h, _⟩ <;> omega
    by_cases hlt : k < s.size
    · have HD := Aside0.mk (drop_at s k hlt)
      have hk1 : (k : Int) < (s.size : Int) := by omega
      have HA := Aside0.mk (nmAt_iff n k s[k])
      have HY : Aside0 (nmAt n k s[k] = true → (k + 1) + moreL (s.data.toList.drop (k + 1)) = r) := ⟨fun hm => by
        rcases H.out with ⟨rfl, h⟩ | ⟨h0, h⟩
        · rw [← h, HD.out, nameL, if_pos (by rwa [nmAt_same] at hm)]; omega
        · rw [← h, HD.out, moreL, if_pos (by rwa [nmAt_gt _ _ _ h0] at hm)]; omega⟩
      have HN : Aside0 (¬ nmAt n k s[k] = true → k = r) := ⟨fun hm => by
        rcases H.out with ⟨rfl, h⟩ | ⟨h0, h⟩
        · rw [← h, HD.out, nameL, if_neg (by rwa [nmAt_same] at hm)]; rfl
        · rw [← h, HD.out, moreL, if_neg (by rwa [nmAt_gt _ _ _ h0] at hm)]; rfl⟩
      go_wp2
      all_goals first
        | (go_ret
           refine ⟨congrArg Ending.returned (show Value.int _ _ = _ from congrArg (Value.int IntKind.i64) (congrArg Nat.cast (HN.out ?_))), rfl⟩
           rw [HA.out]
           try simp only [Bool.not_eq_true', Bool.not_eq_false', Bool.and_eq_true, Bool.and_eq_false_iff, decide_eq_true_eq, beq_iff_eq, beq_eq_false_iff_ne, ne_eq, decide_eq_false_iff_not] at *
           omega)
        | (go_round
           case rel =>
             refine ⟨k + 1, by omega, by go_num, ⟨.inr ⟨by omega, HY.out ?_⟩⟩⟩
             rw [HA.out]
             try simp only [Bool.not_eq_true', Bool.not_eq_false', Bool.and_eq_true, Bool.and_eq_false_iff, decide_eq_true_eq, beq_iff_eq, beq_eq_false_iff_ne, ne_eq, decide_eq_false_iff_not] at *
             omega
           case measure => simp [intOf]; omega)
        | trace_state
    · obtain rfl : k = s.size := by omega
      go_wp2
      go_ret
      have h2 : s.size = r := by
        rcases H.out with ⟨h0, h⟩ | ⟨h0, h⟩
        · subst h0
          rw [drop_all _ _ (Nat.le_refl _), nameL] at h; omega
        · rw [drop_all _ _ (Nat.le_refl _), moreL] at h; omega
      exact ⟨congrArg Ending.returned (congrArg (Value.int IntKind.i64) (congrArg Nat.cast h2)), rfl⟩
set_option maxHeartbeats 400000 in
theorem refName_any (s : ByteArray) (w : World) (hs : s.size ≤ 100000) :
    Calls Tryd.prog 49 #[.string s] w fun e w' => e = .returned (.bool (isNm s)) ∧ w = w' := by
  by_cases h0 : s = ⟨#[]⟩
  · subst h0
    go_enter Tryd.func49, Tryd.ntmps49
    go_wp2
    go_ret
    exact ⟨rfl, rfl⟩
  · have hl := (nonempty_list h0).2
    have HS := Aside0.mk (show 0 < s.size by
      rcases Nat.eq_zero_or_pos s.size with h | h
      · exact absurd (bs_ext (List.eq_nil_of_length_eq_zero (by rw [Array.length_toList]; exact h))) h0
      · exact h)
    have hcon := rNameEnd_any s 0 (nameL s.data.toList) w hs (Nat.zero_le _) (by simp)
    have hcon' : Calls Tryd.prog 35 #[.string s, .int .i64 0] w _ := hcon
    clear hcon
    go_enter Tryd.func49, Tryd.ntmps49
    go_wp2_with (go_at_call 35; refine hcon'.mono ?_; rintro e w' ⟨rfl, rfl⟩)
    go_ret
    refine ⟨congrArg Ending.returned (show Value.bool _ = _ from congrArg Value.bool ?_), rfl⟩
    rw [isNm, decide_eq_true HS.out, Bool.true_and, Bool.eq_iff_iff, beq_iff_eq]
    simp only [decide_eq_true_eq, beq_iff_eq]
    omega
def TokR (w : World) (A : Option Addr) (l : List Tok) : Prop := ∀ k (h : k < l.length), ∃ g, A = some ⟨g, 0, none⟩ ∧ w.cell? ⟨g, k, none⟩ = some (.string l[k])
theorem TokR.below {w w' : World} {A : Option Addr} {l : List Tok} (h : TokR w A l) (hb : Below w.heap.size w w') : TokR w' A l := fun k hk => by
  obtain ⟨g, rfl, hc⟩ := h k hk
  exact ⟨g, rfl, pw_cell_below hb hc⟩
def atL (l : List Tok) (j : Nat) : Tok := (l[j]?).getD ⟨#[]⟩
set_option maxHeartbeats 400000 in
theorem at_any (l : List Tok) (A : Option Addr) (c j : Nat) (w : World) (hT : TokR w A l) :
    Calls Tryd.prog 16 #[.slice A l.length c, .int .i64 (j : Int)] w fun e w' => e = .returned (.string (atL l j)) ∧ w = w' := by
  by_cases hj : j < l.length
  · obtain ⟨g, rfl, hc⟩ := hT j hj
    have HA := Aside0.mk (show atL l j = l[j] by simp [atL, hj])
    generalize l[j] = x at *
    have hj0 : (0 : Int) ≤ (j : Int) := by omega
    have hj1 : (j : Int) < (l.length : Int) := by omega
    clear hT
    go_enter Tryd.func16, Tryd.ntmps16
    go_wp2
    go_ret
    exact ⟨congrArg (fun x => Ending.returned (Value.string x)) HA.out.symm, rfl⟩
  · have HA := Aside0.mk (show atL l j = ⟨#[]⟩ by simp [atL, hj])
    have hj1 : ¬ (j : Int) < (l.length : Int) := by omega
    clear hT
    go_enter Tryd.func16, Tryd.ntmps16
    go_wp2
    go_ret
    exact ⟨congrArg (fun x => Ending.returned (Value.string x)) HA.out.symm, rfl⟩
end Go.Proofs.YtoanmoddppmffaaDoor.T
