/- Spaces, names and numbers at a text's head: what the program's functions answer. -/
import Derived.Test.YtoanmoddppmffaaGreatDoorXQg
import Derived.Test.YtoanmoddppmffaaGreatDoorXSh
import Derived.WalkKit
import Derived.Below
import Derived.KernelRfl
import Derived.RowKit3
import Derived.OwnWalk
import Derived.Outline
import Derived.BigRegion
import Derived.WalkLawsBesides
import Derived.Deep.QuietTactic
import Derived.BigQuiet
import Derived.Deep.LoopGhost
import Derived.Shelf.Strings.SlTrimAscii
namespace Go.Proofs.YtoanmoddppmffaaGreatDoor.T
open Go.RowKit Go.Shelf Go.Proofs.YtoanmoddppmffaaGreatDoorW.PrintWords
set_option linter.unusedVariables false
set_option linter.unusedSimpArgs false
theorem space_idx (c : UInt8) : decide (0 ≤ Lib.indexByte [32, 9, 10, 13] c) = isSp c := by
  simp only [Lib.indexByte, isSp]
  by_cases h1 : c = 32
  · subst h1; decide
  by_cases h2 : c = 9
  · subst h2; decide
  by_cases h3 : c = 10
  · subst h3; decide
  by_cases h4 : c = 13
  · subst h4; decide
  simp [h1, h2, h3, h4, Ne.symm h1, Ne.symm h2, Ne.symm h3, Ne.symm h4]
set_option maxHeartbeats 400000 in
theorem space_any (c : UInt8) (w : World) : Calls Tryz.prog 55 #[.int .u8 (c.toNat : Int)] w fun e w' => e = .returned (.bool (isSp c)) ∧ w = w' := by
  have hs := space_idx c
  have HS := Aside0.mk hs
  clear hs
  have hcon := Tryz.strings_IndexByte ⟨#[32, 9, 10, 13]⟩ (c.toNat : Int) w
  go_enter Tryz.func55, Tryz.ntmps55
  go_wp2_with (go_at_call 69; refine hcon.mono ?_; rintro e w' ⟨rfl, rfl⟩)
  go_ret
  exact ⟨congrArg Ending.returned (show Value.bool _ = _ by rw [HS.out]), rfl⟩
theorem drop_at (s : ByteArray) (k : Nat) (h : k < s.size) : s.data.toList.drop k = s[k] :: s.data.toList.drop (k + 1) := by
  rw [List.drop_eq_getElem_cons (by rw [Array.length_toList]; exact h)]
  rfl
theorem drop_all (s : ByteArray) (k : Nat) (h : s.size ≤ k) : s.data.toList.drop k = [] := List.drop_of_length_le (by rw [Array.length_toList]; exact h)
set_option maxHeartbeats 400000 in
theorem skip1_any (s : ByteArray) (p : Addr) (k : Nat) (w : World) (hc : w.cell? p = some (.string s)) (hk : k < s.size) :
    Calls Tryz.prog 54 #[.int .i64 (k : Int), .pointer (some p)] w fun e w' => e = .returned (.bool (isSp s[k])) ∧ w = w' := by
  have hk0 : (0 : Int) ≤ (k : Int) := by omega
  have hk1 : (k : Int) < (s.size : Int) := by omega
  go_enter Tryz.func54, Tryz.ntmps54
  go_wp2_with (go_at_call 55; refine (space_any _ _).mono ?_; rintro e w' ⟨rfl, rfl⟩)
  go_ret
  exact ⟨rfl, rfl⟩
set_option maxHeartbeats 400000 in
theorem fromSkip_any (s : ByteArray) (p : Addr) (n r : Nat) (w : World) (hs : s.size ≤ 100000) (hc : w.cell? p = some (.string s)) (hn : n ≤ s.size) (hr : n + skipL (s.data.toList.drop n) = r) :
    Calls Tryz.prog 53 #[.string s, .int .i64 (n : Int), .func (.func 54) #[] #[.pointer (some p)]] w fun e w' => e = .returned (.int .i64 (r : Int)) ∧ w = w' := by
  have HR := Aside0.mk hr
  clear hr
  go_enter Tryz.func53, Tryz.ntmps53
  go_wp2
  go_loop [1] (fun i => ∃ k : Nat, k ≤ s.size ∧ i = .int .i64 k ∧ Aside0 (k + skipL (s.data.toList.drop k) = r)) (fun i => s.size - (intOf i).toNat)
  case atStart => exact ⟨n, hn, rfl, HR⟩
  case round =>
    obtain ⟨k, hk, rfl, H⟩ := hrel
    have hk0 : (0 : Int) ≤ (k : Int) := by omega
    by_cases hlt : k < s.size
    · have HD := Aside0.mk (drop_at s k hlt)
      by_cases hsp : isSp s[k] = true
      · go_wp2_with (go_at_call 54; refine (skip1_any s p k _ hc hlt).mono ?_; rintro e w' ⟨rfl, rfl⟩)
        go_round
        case rel => exact ⟨k + 1, by omega, by go_num, ⟨by rw [← H.out, HD.out, skipL, if_pos hsp]; omega⟩⟩
        case measure => simp [intOf]; omega
      · have hsp : isSp s[k] = false := by simpa using hsp
        go_wp2_with (go_at_call 54; refine (skip1_any s p k _ hc hlt).mono ?_; rintro e w' ⟨rfl, rfl⟩)
        go_ret
        have h2 : k = r := by rw [← H.out, HD.out, skipL, if_neg (by simp [hsp])]; rfl
        exact ⟨congrArg Ending.returned (congrArg (Value.int IntKind.i64) (congrArg Nat.cast h2)), rfl⟩
    · obtain rfl : k = s.size := by omega
      go_wp2
      go_ret
      have h2 : s.size = r := by rw [← H.out, drop_all _ _ (Nat.le_refl _), skipL]; rfl
      exact ⟨congrArg Ending.returned (congrArg (Value.int IntKind.i64) (congrArg Nat.cast h2)), rfl⟩
theorem cell_new (w : World) (v : Value) (t : TypeId) : (w.alloc (.cells #[v] t)).cell? ⟨w.heap.size, 0, none⟩ = some v := (blk_cell (blk_new w _) 0).trans rfl
set_option maxHeartbeats 400000 in
theorem skip_any (s : ByteArray) (w : World) (hs : s.size ≤ 100000) :
    Calls Tryz.prog 34 #[.string s, .int .i64 0] w fun e w' => e = .returned (.int .i64 ((skipL s.data.toList : Nat) : Int)) ∧ Below w.heap.size w w' := by
  have hcon := fromSkip_any s ⟨w.heap.size, 0, none⟩ 0 (skipL s.data.toList) (w.alloc (.cells #[.string s] 9)) hs (cell_new _ _ _) (Nat.zero_le _) (by simp)
  go_enter Tryz.func34, Tryz.ntmps34
  go_wp2_with (go_at_call 53; refine hcon.mono ?_; rintro e w' ⟨rfl, rfl⟩)
  go_ret
  exact ⟨rfl, below_alloc (Below.refl _ _) _⟩
theorem al_iff (c : UInt8) : isAl c = true ↔ (97 ≤ (c.toNat : Int) ∧ (c.toNat : Int) ≤ 122) ∨ (65 ≤ (c.toNat : Int) ∧ (c.toNat : Int) ≤ 90) ∨ (c.toNat : Int) = 95 := by
  simp only [isAl, Bool.or_eq_true, Bool.and_eq_true, decide_eq_true_eq, beq_iff_eq, UInt8.le_iff_toNat_le, ← UInt8.toNat_inj]
  have e1 : (97 : UInt8).toNat = 97 := rfl
  have e2 : (122 : UInt8).toNat = 122 := rfl
  have e3 : (65 : UInt8).toNat = 65 := rfl
  have e4 : (90 : UInt8).toNat = 90 := rfl
  have e5 : (95 : UInt8).toNat = 95 := rfl
  omega
theorem dg_iff (c : UInt8) : isDg c = true ↔ (48 ≤ (c.toNat : Int) ∧ (c.toNat : Int) ≤ 57) := by
  simp only [isDg, Bool.and_eq_true, decide_eq_true_eq, UInt8.le_iff_toNat_le]
  have e1 : (48 : UInt8).toNat = 48 := rfl
  have e2 : (57 : UInt8).toNat = 57 := rfl
  omega
theorem mo_iff (c : UInt8) : isMo c = true ↔ isAl c = true ∨ (48 ≤ (c.toNat : Int) ∧ (c.toNat : Int) ≤ 57) ∨ (c.toNat : Int) = 45 ∨ (c.toNat : Int) = 46 := by
  have e1 : (45 : UInt8).toNat = 45 := rfl
  have e2 : (46 : UInt8).toNat = 46 := rfl
  simp only [isMo, Bool.or_eq_true, dg_iff, beq_iff_eq, ← UInt8.toNat_inj]
  generalize isAl c = b
  cases b
  · simp only [Bool.false_eq_true, false_or]; omega
  · simp
def nmAt (n i : Nat) (c : UInt8) : Bool := isAl c || (isMo c && decide (n < i))
theorem nmAt_iff (n i : Nat) (c : UInt8) : nmAt n i c = true ↔ ((97 ≤ (c.toNat : Int) ∧ (c.toNat : Int) ≤ 122) ∨ (65 ≤ (c.toNat : Int) ∧ (c.toNat : Int) ≤ 90) ∨ (c.toNat : Int) = 95) ∨
    (((48 ≤ (c.toNat : Int) ∧ (c.toNat : Int) ≤ 57) ∨ (c.toNat : Int) = 45 ∨ (c.toNat : Int) = 46) ∧ (n : Int) < (i : Int)) := by
  simp only [nmAt, Bool.or_eq_true, Bool.and_eq_true, decide_eq_true_eq, mo_iff, al_iff]
  omega
set_option maxHeartbeats 1000000 in
theorem nameEnd1_any (s : ByteArray) (p q : Addr) (n k : Nat) (w : World) (hc : w.cell? p = some (.string s)) (hd : w.cell? q = some (.int .i64 (n : Int))) (hk : k < s.size) :
    Calls Tryz.prog 57 #[.int .i64 (k : Int), .pointer (some p), .pointer (some q)] w fun e w' => e = .returned (.bool (nmAt n k s[k])) ∧ w = w' := by
  have hk0 : (0 : Int) ≤ (k : Int) := by omega
  have hk1 : (k : Int) < (s.size : Int) := by omega
  have HA := Aside0.mk (nmAt_iff n k s[k])
  go_enter Tryz.func57, Tryz.ntmps57
  go_wp2
  all_goals
    go_ret
    refine ⟨congrArg Ending.returned (show Value.bool _ = _ from congrArg Value.bool ?_), rfl⟩
    rw [Bool.eq_iff_iff, HA.out]
    simp only [decide_eq_true_eq, true_iff, iff_true, Bool.false_eq_true, false_iff, iff_false]
    try simp only [ge_iff_le, gt_iff_lt, beq_iff_eq, beq_eq_false_iff_ne, ne_eq, Bool.not_eq_true, decide_eq_false_iff_not, decide_eq_true_eq] at *
    omega
theorem nmAt_zero (c : UInt8) : nmAt 0 0 c = isAl c := by simp [nmAt]
theorem nmAt_more (k : Nat) (c : UInt8) (h : 0 < k) : nmAt 0 k c = isMo c := by
  simp only [nmAt, decide_eq_true h, Bool.and_true, isMo]
  cases isAl c <;> simp
set_option maxHeartbeats 400000 in
theorem fromName_any (s : ByteArray) (p q : Addr) (r : Nat) (w : World) (hs : s.size ≤ 100000) (hc : w.cell? p = some (.string s)) (hd : w.cell? q = some (.int .i64 ((0 : Nat) : Int))) (hr : nameL s.data.toList = r) :
    Calls Tryz.prog 53 #[.string s, .int .i64 0, .func (.func 57) #[] #[.pointer (some p), .pointer (some q)]] w fun e w' => e = .returned (.int .i64 (r : Int)) ∧ w = w' := by
  have HR := Aside0.mk hr
  have HD := Aside0.mk hd
  clear hr hd
  go_enter Tryz.func53, Tryz.ntmps53
  go_wp2
  go_loop [1] (fun i => ∃ k : Nat, k ≤ s.size ∧ i = .int .i64 k ∧ Aside0 ((k = 0 ∧ nameL s.data.toList = r) ∨ (0 < k ∧ k + moreL (s.data.toList.drop k) = r))) (fun i => s.size - (intOf i).toNat)
  case atStart => exact ⟨0, Nat.zero_le _, rfl, ⟨.inl ⟨rfl, HR.out⟩⟩⟩
  case round =>
    obtain ⟨k, hk, rfl, H⟩ := hrel
    have hk0 : (0 : Int) ≤ (k : Int) := by omega
    by_cases hlt : k < s.size
    · have HX := Aside0.mk (drop_at s k hlt)
      cases hnm : nmAt 0 k s[k] with
      | true =>
        have HN := Aside0.mk hnm
        go_wp2_with (go_at_call 57; refine (nameEnd1_any s p q 0 k _ hc HD.out hlt).mono ?_; rintro e w' ⟨rfl, rfl⟩)
        go_round
        case rel =>
          refine ⟨k + 1, by omega, by go_num, ⟨.inr ⟨by omega, ?_⟩⟩⟩
          rcases H.out with ⟨rfl, h⟩ | ⟨h0, h⟩
          · rw [← h, ← List.drop_zero (l := s.data.toList), HX.out, nameL, if_pos (by have := HN.out; rwa [nmAt_zero] at this), List.drop_succ_cons, List.drop_zero]; omega
          · rw [← h, HX.out, moreL, if_pos (by have := HN.out; rwa [nmAt_more k _ h0] at this)]; omega
        case measure => simp [intOf]; omega
      | false =>
        have HN := Aside0.mk hnm
        go_wp2_with (go_at_call 57; refine (nameEnd1_any s p q 0 k _ hc HD.out hlt).mono ?_; rintro e w' ⟨rfl, rfl⟩)
        go_ret
        have h2 : k = r := by
          rcases H.out with ⟨rfl, h⟩ | ⟨h0, h⟩
          · rw [← h, ← List.drop_zero (l := s.data.toList), HX.out, nameL, if_neg (by have := HN.out; rw [nmAt_zero] at this; simp [this])]
          · rw [← h, HX.out, moreL, if_neg (by have := HN.out; rw [nmAt_more k _ h0] at this; simp [this])]; rfl
        exact ⟨congrArg Ending.returned (congrArg (Value.int IntKind.i64) (congrArg Nat.cast h2)), rfl⟩
    · obtain rfl : k = s.size := by omega
      go_wp2
      go_ret
      have h2 : s.size = r := by
        rcases H.out with ⟨h0, h⟩ | ⟨h0, h⟩
        · have h3 := drop_all s 0 (by omega)
          rw [List.drop_zero] at h3
          rw [← h, h3, h0]; rfl
        · rw [← h, drop_all _ _ (Nat.le_refl _), moreL]; rfl
      exact ⟨congrArg Ending.returned (congrArg (Value.int IntKind.i64) (congrArg Nat.cast h2)), rfl⟩
set_option maxHeartbeats 400000 in
theorem nameEnd_any (s : ByteArray) (w : World) (hs : s.size ≤ 100000) :
    Calls Tryz.prog 39 #[.string s, .int .i64 0] w fun e w' => e = .returned (.int .i64 ((nameL s.data.toList : Nat) : Int)) ∧ Below w.heap.size w w' := by
  have hcon := fromName_any s ⟨w.heap.size, 0, none⟩ ⟨w.heap.size + 1, 0, none⟩ (nameL s.data.toList) ((w.alloc (.cells #[.string s] 9)).alloc (.cells #[.int .i64 0] 3)) hs
    ((blk_cell (blk_alloc (blk_new _ _) _) 0).trans rfl) (by have := cell_new (w.alloc (.cells #[.string s] 9)) (.int .i64 0) 3; simp) rfl
  go_enter Tryz.func39, Tryz.ntmps39
  go_wp2_with (go_at_call 53; refine hcon.mono ?_; rintro e w' ⟨rfl, rfl⟩)
  go_ret
  exact ⟨rfl, below_alloc (below_alloc (Below.refl _ _) _) _⟩
end Go.Proofs.YtoanmoddppmffaaGreatDoor.T
