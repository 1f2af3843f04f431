/- What each function of the program comes to, and its walk: laid by a program. -/
import Derived.Test.YtoanmoddppmffaaJTx0
import Derived.Test.YtoanmoddppmffaaJTx4
namespace Go.Proofs.Ytoanmoddppmffaa.T
open Go.RowKit Go.Proofs.YtoanmoddppmffaaW.PrintWords Go.Proofs.YtoanmoddppmffaaW.PrintLast Go.Proofs.YtoanmoddppmffaaW.PrintMore
set_option linter.unusedVariables false
set_option linter.unusedSimpArgs false
mutual
def topiaryref11_Skip.l0 : Nat → ByteArray → Int → Option (Int)
 | 0, _, _ => none
 | k + 1, x0, x1 => if x1 ≥ 0 then (topiaryref11_Skip.j1 k x0 x1 (decide (x1 < (x0.size : Int)))) else (topiaryref11_Skip.j1 k x0 x1 false)
def topiaryref11_Skip.j1 : Nat → ByteArray → Int → Bool → Option (Int)
 | 0, _, _, _ => none
 | k + 1, x0, x1, x13 => if x13 = true then (if 0 ≤ x1 then (if x1 < (x0.size : Int) then ((topiaryref11_Space.f (bt x0 x1)).bind fun t136 => (if t136 = true then (topiaryref11_Skip.l0 k x0 (wrap64 (x1 + 1))) else (some x1))) else (none)) else (none)) else (some x1)
end
def topiaryref11_Skip.f (k : Nat) (a0 : ByteArray) (a1 : Int) : Option (Int) := topiaryref11_Skip.l0 k a0 a1
set_option maxHeartbeats 8000000 in
set_option maxRecDepth 100000 in
theorem topiaryref11_Skip.calls (k : Nat) (a0 : ByteArray) (a1 : Int) (r : Int) (w : World) (h : topiaryref11_Skip.f k a0 a1 = some r) :
  Calls Try.prog 43 #[.string a0, .int .i64 a1] w fun e w' => e = .returned (.int .i64 r) ∧ Drawn0 w w' := by
 have H : (topiaryref11_Skip.l0 k a0 a1) = some r := h
 clear h
 have H' := Aside0.mk H
 clear H
 go_enter Try.func43, Try.ntmps43
 go_wp2
 go_loopg [1] k (fun kq v1 w' => ∃ (x1_1 : Int), v1 = .int .i64 x1_1 ∧ Aside0 (topiaryref11_Skip.l0 kq a0 x1_1 = some r) ∧ Aside0 (kq ≤ k) ∧ Drawn0 w w')
 case atStart => exact ⟨(a1), sm_, H', ⟨Nat.le_refl _⟩, dd_⟩
 case round =>
  clear H'
  try clear p2
  obtain ⟨x1_1, rfl, HA, HK1, ⟨m1, rfl⟩⟩ := hrel
  cases gk with
  | zero => exact absurd HA.out (by simp [topiaryref11_Skip.l0])
  | succ k1 =>
   have H := HA.out
   clear HA
   simp only [topiaryref11_Skip.l0] at H
   have HC3 := Aside0.mk H
   clear H
   go_upto_region 1 with (fail)
   go_cut [13] (fun v13 wc => ∃ (kq : Nat) (x13_2 : Bool), v13 = .bool x13_2 ∧ Aside0 (topiaryref11_Skip.j1 kq a0 x1_1 x13_2 = some r) ∧ Aside0 (kq ≤ k1) ∧ Drawn0 w wc)
   case first =>
    have H := HC3.out
    clear HC3
    by_cases c4 : x1_1 ≥ 0
    ·rw [if_pos c4] at H
     have c4b0 : decide (0 ≤ x1_1) = true := decide_eq_true c4
     clear c4
     (first | rw [c4b0] | (simp only [i64_w, i32_w]; rw [c4b0]) | skip)
     have H' := Aside0.mk H
     clear H
     go_wp2
     go_meet
     case rel => exact ⟨_, (decide (x1_1 < (a0.size : Int))), sm_, H', ⟨by have := HK1.out; first | omega | exact Nat.le_refl _⟩, dd_⟩
    ·rw [if_neg c4] at H
     have c4b0 : decide (0 ≤ x1_1) = false := decide_eq_false c4
     clear c4
     (first | rw [c4b0] | (simp only [i64_w, i32_w]; rw [c4b0]) | skip)
     have H' := Aside0.mk H
     clear H
     go_wp2
     go_meet
     case rel => exact ⟨_, (false), sm_, H', ⟨by have := HK1.out; first | omega | exact Nat.le_refl _⟩, dd_⟩
   case rest =>
    clear HC3
    try clear p2
    try clear c4
    try clear c4b0
    try clear p2
    obtain ⟨kq, x13_2, rfl, HA, HJ2, ⟨mc2, rfl⟩⟩ := hcut
    cases kq with
    | zero => exact absurd HA.out (by simp [topiaryref11_Skip.j1])
    | succ kj2 =>
     have H := HA.out
     clear HA
     simp only [topiaryref11_Skip.j1] at H
     by_cases c5 : x13_2 = true
     ·subst c5
      rw [if_pos rfl] at H
      have H1 := H
      clear H
      have H := H1
      clear H1
      by_cases c6 : 0 ≤ x1_1
      ·rw [if_pos c6] at H
       have c6b0 : decide (0 ≤ x1_1) = true := decide_eq_true c6
       clear c6
       by_cases c7 : x1_1 < (a0.size : Int)
       ·rw [if_pos c7] at H
        have c7b0 : decide (x1_1 < (a0.size : Int)) = true := decide_eq_true c7
        clear c7
        replace H := Option.bind_eq_some_iff.mp H
        obtain ⟨t136, A90, H⟩ := H
        try dsimp only at H
        have A9 := Aside0.mk A90
        clear A90
        by_cases c10 : t136 = true
        ·subst c10
         rw [if_pos rfl] at H
         have H1 := H
         clear H
         have H := H1
         clear H1
         have H' := Aside0.mk H
         clear H
         have p8 : 0 ≤ (x1_1 : Int) := of_decide_eq_true as_
         have q8 : x1_1 < (a0.size : Int) := of_decide_eq_true as_
         have hx8 := bt_at a0 x1_1
         replace p8 := eq_true p8
         replace q8 := eq_true q8
         go_wp2_with (first | ((with_reducible refine gate_callee (f := 53) rfl ?_); refine goesL_ (some 17) rfl rfl Try.func53 (by kernel_rfl) rfl #[.int .u8 (bt a0 x1_1)] rfl ar_ ?_; (with_reducible refine (topiaryref11_Space.calls (bt a0 x1_1) true _ A9.out).mono ?_); rintro e w' ⟨rfl, ⟨nd, rfl⟩⟩; refine ⟨_, rfl, ?_⟩))
         go_roundg kj2
         case measure => have := HK1.out; have := HJ2.out; omega
         case rel => exact ⟨(wrap64 (x1_1 + 1)), sm_, H', ⟨by have := HK1.out; have := HJ2.out; omega⟩, dd_⟩
        ·replace c10 := Bool.eq_false_iff.mpr c10
         subst c10
         rw [if_neg (show ¬ (false = true) by decide)] at H
         have H1 := H
         clear H
         have H := H1
         clear H1
         obtain rfl := Option.some.inj H
         have p8 : 0 ≤ (x1_1 : Int) := of_decide_eq_true as_
         have q8 : x1_1 < (a0.size : Int) := of_decide_eq_true as_
         have hx8 := bt_at a0 x1_1
         replace p8 := eq_true p8
         replace q8 := eq_true q8
         go_wp2_with (first | ((with_reducible refine gate_callee (f := 53) rfl ?_); refine goesL_ (some 17) rfl rfl Try.func53 (by kernel_rfl) rfl #[.int .u8 (bt a0 x1_1)] rfl ar_ ?_; (with_reducible refine (topiaryref11_Space.calls (bt a0 x1_1) false _ A9.out).mono ?_); rintro e w' ⟨rfl, ⟨nd, rfl⟩⟩; refine ⟨_, rfl, ?_⟩))
         go_ret
         exact ⟨sm_, dd_⟩
       ·rw [if_neg c7] at H
        exact absurd H (by simp)
      ·rw [if_neg c6] at H
       exact absurd H (by simp)
     ·replace c5 := Bool.eq_false_iff.mpr c5
      subst c5
      rw [if_neg (show ¬ (false = true) by decide)] at H
      have H1 := H
      clear H
      have H := H1
      clear H1
      obtain rfl := Option.some.inj H
      go_wp2
      go_ret
      exact ⟨sm_, dd_⟩
def topiaryref12_begins.f (a0 : ByteArray) (a1 : Int) (a2 : ByteArray) : Option (Bool) := if (wrap64 (a1 + (a2.size : Int))) ≤ (a0.size : Int) then (if 0 ≤ a1 then (if a1 ≤ (wrap64 (a1 + (a2.size : Int))) then (some ((a0.extract (a1 : Int).toNat ((wrap64 (a1 + (a2.size : Int))) : Int).toNat).toList == a2.toList)) else (none)) else (none)) else (some false)
set_option maxHeartbeats 8000000 in
set_option maxRecDepth 100000 in
theorem topiaryref12_begins.calls (a0 : ByteArray) (a1 : Int) (a2 : ByteArray) (r : Bool) (w : World) (h : topiaryref12_begins.f a0 a1 a2 = some r) :
  Calls Try.prog 48 #[.string a0, .int .i64 a1, .string a2] w fun e w' => e = .returned (.bool r) ∧ Drawn0 w w' := by
 have H : (if (wrap64 (a1 + (a2.size : Int))) ≤ (a0.size : Int) then (if 0 ≤ a1 then (if a1 ≤ (wrap64 (a1 + (a2.size : Int))) then (some ((a0.extract (a1 : Int).toNat ((wrap64 (a1 + (a2.size : Int))) : Int).toNat).toList == a2.toList)) else (none)) else (none)) else (some false)) = some r := h
 clear h
 by_cases c4 : (wrap64 (a1 + (a2.size : Int))) ≤ (a0.size : Int)
 ·rw [if_pos c4] at H
  have c4b0 : decide ((wrap64 (a1 + (a2.size : Int))) ≤ (a0.size : Int)) = true := decide_eq_true c4
  clear c4
  by_cases c5 : 0 ≤ a1
  ·rw [if_pos c5] at H
   have c5b0 := eq_true c5
   have c5b1 : decide (0 ≤ a1) = true := decide_eq_true c5
   clear c5
   by_cases c6 : a1 ≤ (wrap64 (a1 + (a2.size : Int)))
   ·rw [if_pos c6] at H
    have c6b0 := eq_true c6
    have c6b1 : decide (a1 ≤ (wrap64 (a1 + (a2.size : Int)))) = true := decide_eq_true c6
    have c7b0 := eq_true (of_decide_eq_true as_ : (wrap64 (a1 + (a2.size : Int))) ≤ (a0.size : Int))
    obtain rfl := Option.some.inj H
    go_enter Try.func48, Try.ntmps48
    go_wp2
    go_ret
    exact ⟨sm_, dd_⟩
   ·rw [if_neg c6] at H
    exact absurd H (by simp)
  ·rw [if_neg c5] at H
   exact absurd H (by simp)
 ·rw [if_neg c4] at H
  have c4b0 : decide ((wrap64 (a1 + (a2.size : Int))) ≤ (a0.size : Int)) = false := decide_eq_false c4
  clear c4
  obtain rfl := Option.some.inj H
  go_enter Try.func48, Try.ntmps48
  go_wp2
  go_ret
  exact ⟨sm_, dd_⟩
def topiaryref12_find.l0 : Nat → ByteArray → ByteArray → Int → Option (Int)
 | 0, _, _, _ => none
 | k + 1, x0, x2, x7 => if (wrap64 (x7 + (x2.size : Int))) ≤ (x0.size : Int) then (if 0 ≤ x7 then (if x7 ≤ (wrap64 (x7 + (x2.size : Int))) then (if (x0.extract (x7 : Int).toNat ((wrap64 (x7 + (x2.size : Int))) : Int).toNat).toList = x2.toList then (some x7) else (topiaryref12_find.l0 k x0 x2 (wrap64 (x7 + 1)))) else (none)) else (none)) else (some (-1))
def topiaryref12_find.f (k : Nat) (a0 : ByteArray) (a1 : Int) (a2 : ByteArray) : Option (Int) := topiaryref12_find.l0 k a0 a2 a1
set_option maxHeartbeats 8000000 in
set_option maxRecDepth 100000 in
theorem topiaryref12_find.calls (k : Nat) (a0 : ByteArray) (a1 : Int) (a2 : ByteArray) (r : Int) (w : World) (h : topiaryref12_find.f k a0 a1 a2 = some r) :
  Calls Try.prog 49 #[.string a0, .int .i64 a1, .string a2] w fun e w' => e = .returned (.int .i64 r) ∧ Drawn0 w w' := by
 have H : (topiaryref12_find.l0 k a0 a2 a1) = some r := h
 clear h
 have H' := Aside0.mk H
 clear H
 go_enter Try.func49, Try.ntmps49
 go_wp2
 go_loopg [7] k (fun kq v7 w' => ∃ (x7_1 : Int), v7 = .int .i64 x7_1 ∧ Aside0 (topiaryref12_find.l0 kq a0 a2 x7_1 = some r) ∧ Aside0 (kq ≤ k) ∧ Drawn0 w w')
 case atStart => exact ⟨(a1), sm_, H', ⟨Nat.le_refl _⟩, dd_⟩
 case round =>
  clear H'
  try clear p2
  obtain ⟨x7_1, rfl, HA, HK1, ⟨m1, rfl⟩⟩ := hrel
  cases gk with
  | zero => exact absurd HA.out (by simp [topiaryref12_find.l0])
  | succ k1 =>
   have H := HA.out
   clear HA
   simp only [topiaryref12_find.l0] at H
   by_cases c4 : (wrap64 (x7_1 + (a2.size : Int))) ≤ (a0.size : Int)
   ·rw [if_pos c4] at H
    have c4b0 : decide ((wrap64 (x7_1 + (a2.size : Int))) ≤ (a0.size : Int)) = true := decide_eq_true c4
    clear c4
    by_cases c5 : 0 ≤ x7_1
    ·rw [if_pos c5] at H
     have c5b0 := eq_true c5
     have c5b1 : decide (0 ≤ x7_1) = true := decide_eq_true c5
     clear c5
     by_cases c6 : x7_1 ≤ (wrap64 (x7_1 + (a2.size : Int)))
     ·rw [if_pos c6] at H
      have c6b0 := eq_true c6
      have c6b1 : decide (x7_1 ≤ (wrap64 (x7_1 + (a2.size : Int)))) = true := decide_eq_true c6
      have c7b0 := eq_true (of_decide_eq_true as_ : (wrap64 (x7_1 + (a2.size : Int))) ≤ (a0.size : Int))
      by_cases c8 : (a0.extract (x7_1 : Int).toNat ((wrap64 (x7_1 + (a2.size : Int))) : Int).toNat).toList = a2.toList
      ·rw [if_pos c8] at H
       have c8b0 : ((a0.extract (x7_1 : Int).toNat ((wrap64 (x7_1 + (a2.size : Int))) : Int).toNat).toList == a2.toList) = true := beq_iff_eq.mpr c8
       have c8b1 : ((a0.extract (x7_1 : Int).toNat ((wrap64 (x7_1 + (a2.size : Int))) : Int).toNat).toList != a2.toList) = false := bne_eq_false_iff_eq.mpr c8
       clear c8
       obtain rfl := Option.some.inj H
       go_wp2
       go_ret
       exact ⟨sm_, dd_⟩
      ·rw [if_neg c8] at H
       have c8b0 : ((a0.extract (x7_1 : Int).toNat ((wrap64 (x7_1 + (a2.size : Int))) : Int).toNat).toList == a2.toList) = false := beq_eq_false_iff_ne.mpr c8
       have c8b1 : ((a0.extract (x7_1 : Int).toNat ((wrap64 (x7_1 + (a2.size : Int))) : Int).toNat).toList != a2.toList) = true := bne_iff_ne.mpr c8
       have H' := Aside0.mk H
       clear H
       go_wp2
       go_roundg k1
       case measure => have := HK1.out; omega
       case rel => exact ⟨(wrap64 (x7_1 + 1)), sm_, H', ⟨by have := HK1.out; omega⟩, dd_⟩
     ·rw [if_neg c6] at H
      exact absurd H (by simp)
    ·rw [if_neg c5] at H
     exact absurd H (by simp)
   ·rw [if_neg c4] at H
    have c4b0 : decide ((wrap64 (x7_1 + (a2.size : Int))) ≤ (a0.size : Int)) = false := decide_eq_false c4
    clear c4
    obtain rfl := Option.some.inj H
    go_wp2
    go_ret
    exact ⟨sm_, dd_⟩
end Go.Proofs.Ytoanmoddppmffaa.T
