/- What each function of the program comes to, and its walk: laid by a program. -/
import Derived.Test.YtoanmoddppmffaaJTx0
import Derived.Test.YtoanmoddppmffaaJTx5
namespace Go.Proofs.Ytoanmoddppmffaa.T
open Go.RowKit Go.Proofs.YtoanmoddppmffaaW.PrintWords Go.Proofs.YtoanmoddppmffaaW.PrintLast Go.Proofs.YtoanmoddppmffaaW.PrintMore
set_option linter.unusedVariables false
set_option linter.unusedSimpArgs false
mutual
def topiaryref13_texts.l0 : Nat → List (S71) → Int → ByteArray → Option (ByteArray × Int)
 | 0, _, _, _ => none
 | k + 1, x0, x1, x6 => if x1 < (x0.length : Int) then (if 0 ≤ x1 then (if ((rd_T71 x0 x1).f0) = 6 then (topiaryref13_texts.j1 k x0 x1 x6 true) else (topiaryref13_texts.j1 k x0 x1 x6 (((rd_T71 x0 x1).f0) == 7))) else (none)) else (topiaryref13_texts.j1 k x0 x1 x6 false)
def topiaryref13_texts.j1 : Nat → List (S71) → Int → ByteArray → Bool → Option (ByteArray × Int)
 | 0, _, _, _, _ => none
 | k + 1, x0, x1, x6, x26 => if x26 = true then (if 0 ≤ x1 then (if x1 < (x0.length : Int) then (if ((rd_T71 x0 x1).f0) = 6 then (if x6.size + ((rd_T71 x0 x1).f4).size ≤ 9223372036854775807 then (topiaryref13_texts.l0 k x0 (wrap64 (x1 + 1)) (x6 ++ ((rd_T71 x0 x1).f4))) else (none)) else (topiaryref13_texts.l0 k x0 (wrap64 (x1 + 1)) x6)) else (none)) else (none)) else (some (x6, x1))
end
def topiaryref13_texts.f (k : Nat) (l0 : List (S71)) (a1 : Int) : Option (ByteArray × Int) := topiaryref13_texts.l0 k l0 a1 (⟨#[]⟩ : ByteArray)
set_option maxHeartbeats 8000000 in
set_option maxRecDepth 100000 in
theorem topiaryref13_texts.calls (k : Nat) (A0 : Option Addr) (c0 : Nat) (l0 : List (S71)) (a1 : Int) (r1 : ByteArray) (r2 : Int) (w : World) (hr0 : Kd.C k71 w A0 l0.length l0) (hc0 : l0.length ≤ c0) (h : topiaryref13_texts.f k l0 a1 = some (r1, r2)) :
  Calls Try.prog 36 #[.slice A0 l0.length c0, .int .i64 a1] w fun e w' => e = .returned (.tuple #[.string r1, .int .i64 r2]) ∧ Drawn0 w w' := by
 have HR0 := Aside0.mk hr0
 have HC0 := Aside0.mk hc0
 clear hr0 hc0
 have H : (topiaryref13_texts.l0 k l0 a1 (⟨#[]⟩ : ByteArray)) = some (r1, r2) := h
 clear h
 have H' := Aside0.mk H
 clear H
 go_enter Try.func36, Try.ntmps36
 go_wp2
 go_loopg [1, 6] k (fun kq v1 v6 w' => ∃ (x1_1 : Int) (x6_1 : ByteArray), v1 = .int .i64 x1_1 ∧ v6 = .string x6_1 ∧ Aside0 (topiaryref13_texts.l0 kq l0 x1_1 x6_1 = some (r1, r2)) ∧ Aside0 (kq ≤ k) ∧ Drawn0 w w')
 case atStart => exact ⟨(a1), ((⟨#[]⟩ : ByteArray)), sm_, sm_, H', ⟨Nat.le_refl _⟩, dd_⟩
 case round =>
  clear H'
  try clear p2
  obtain ⟨x1_1, x6_1, rfl, rfl, HA, HK1, ⟨m1, rfl⟩⟩ := hrel
  cases gk with
  | zero => exact absurd HA.out (by simp [topiaryref13_texts.l0])
  | succ k1 =>
   have H := HA.out
   clear HA
   simp only [topiaryref13_texts.l0] at H
   have HC3 := Aside0.mk H
   clear H
   go_upto_region 2 with (fail)
   go_cut [26] (fun v26 wc => ∃ (kq : Nat) (x26_2 : Bool), v26 = .bool x26_2 ∧ Aside0 (topiaryref13_texts.j1 kq l0 x1_1 x6_1 x26_2 = some (r1, r2)) ∧ Aside0 (kq ≤ k1) ∧ Drawn0 w wc)
   case first =>
    have H := HC3.out
    clear HC3
    by_cases c4 : x1_1 < (l0.length : Int)
    ·rw [if_pos c4] at H
     have c4b0 : decide (x1_1 < (l0.length : Int)) = true := decide_eq_true c4
     clear c4
     (first | rw [c4b0] | (simp only [i64_w, i32_w]; rw [c4b0]) | skip)
     by_cases c5 : 0 ≤ x1_1
     ·rw [if_pos c5] at H
      have c5b0 : decide (0 ≤ x1_1) = true := decide_eq_true c5
      clear c5
      by_cases c6 : ((rd_T71 l0 x1_1).f0) = 6
      ·rw [if_pos c6] at H
       have c6b0 : (((rd_T71 l0 x1_1).f0) == 6) = true := beq_iff_eq.mpr c6
       have c6b1 : (((rd_T71 l0 x1_1).f0) != 6) = false := bne_eq_false_iff_eq.mpr c6
       clear c6
       have H' := Aside0.mk H
       clear H
       have p218 : 0 ≤ (x1_1 : Int) := of_decide_eq_true as_
       have q218 : x1_1 < (l0.length : Int) := of_decide_eq_true as_
       obtain ⟨ad218, e218, hx218_0, hx218_1, hx218_2, hx218_3, hx218_4⟩ := at_T71 HR0.out x1_1 p218 q218
       cases e218
       replace p218 := eq_true p218
       replace q218 := eq_true q218
       go_wp2
       go_meet
       case rel => exact ⟨_, (true), sm_, H', ⟨by have := HK1.out; first | omega | exact Nat.le_refl _⟩, dd_⟩
      ·rw [if_neg c6] at H
       have c6b0 : (((rd_T71 l0 x1_1).f0) == 6) = false := beq_eq_false_iff_ne.mpr c6
       have c6b1 : (((rd_T71 l0 x1_1).f0) != 6) = true := bne_iff_ne.mpr c6
       have H' := Aside0.mk H
       clear H
       have p218 : 0 ≤ (x1_1 : Int) := of_decide_eq_true as_
       have q218 : x1_1 < (l0.length : Int) := of_decide_eq_true as_
       obtain ⟨ad218, e218, hx218_0, hx218_1, hx218_2, hx218_3, hx218_4⟩ := at_T71 HR0.out x1_1 p218 q218
       cases e218
       replace p218 := eq_true p218
       replace q218 := eq_true q218
       have p219 : 0 ≤ (x1_1 : Int) := of_decide_eq_true as_
       have q219 : x1_1 < (l0.length : Int) := of_decide_eq_true as_
       obtain ⟨ad219, e219, hx219_0, hx219_1, hx219_2, hx219_3, hx219_4⟩ := at_T71 HR0.out x1_1 p219 q219
       obtain rfl : ad218 = ad219 := (by injection e219)
       replace p219 := eq_true p219
       replace q219 := eq_true q219
       go_wp2
       go_meet
       case rel => exact ⟨_, ((((rd_T71 l0 x1_1).f0) == 7)), sm_, H', ⟨by have := HK1.out; first | omega | exact Nat.le_refl _⟩, dd_⟩
     ·rw [if_neg c5] at H
      exact absurd H (by simp)
    ·rw [if_neg c4] at H
     have c4b0 : decide (x1_1 < (l0.length : Int)) = false := decide_eq_false c4
     clear c4
     (first | rw [c4b0] | (simp only [i64_w, i32_w]; rw [c4b0]) | skip)
     have H' := Aside0.mk H
     clear H
     go_wp2
     go_meet
     case rel => exact ⟨_, (false), sm_, H', ⟨by have := HK1.out; first | omega | exact Nat.le_refl _⟩, dd_⟩
   case rest =>
    clear HC3
    try clear p2
    try clear q2
    try clear hx2
    try clear c3
    try clear c4
    try clear c4b0
    try clear c5
    try clear c5b0
    try clear c6
    try clear c6b0
    try clear c6b1
    try clear hx218_0
    try clear hx218_1
    try clear hx218_2
    try clear hx218_3
    try clear hx218_4
    try clear hx219_0
    try clear hx219_1
    try clear hx219_2
    try clear hx219_3
    try clear hx219_4
    try clear p2
    try clear p218
    try clear p219
    try clear q218
    try clear q219
    obtain ⟨kq, x26_2, rfl, HA, HJ2, ⟨mc2, rfl⟩⟩ := hcut
    cases kq with
    | zero => exact absurd HA.out (by simp [topiaryref13_texts.j1])
    | succ kj2 =>
     have H := HA.out
     clear HA
     simp only [topiaryref13_texts.j1] at H
     by_cases c7 : x26_2 = true
     ·subst c7
      rw [if_pos rfl] at H
      have H1 := H
      clear H
      have H := H1
      clear H1
      by_cases c8 : 0 ≤ x1_1
      ·rw [if_pos c8] at H
       have c8b0 : decide (0 ≤ x1_1) = true := decide_eq_true c8
       clear c8
       by_cases c9 : x1_1 < (l0.length : Int)
       ·rw [if_pos c9] at H
        have c9b0 : decide (x1_1 < (l0.length : Int)) = true := decide_eq_true c9
        clear c9
        by_cases c10 : ((rd_T71 l0 x1_1).f0) = 6
        ·rw [if_pos c10] at H
         have c10b0 : (((rd_T71 l0 x1_1).f0) == 6) = true := beq_iff_eq.mpr c10
         have c10b1 : (((rd_T71 l0 x1_1).f0) != 6) = false := bne_eq_false_iff_eq.mpr c10
         clear c10
         by_cases c11 : x6_1.size + ((rd_T71 l0 x1_1).f4).size ≤ 9223372036854775807
         ·rw [if_pos c11] at H
          have c11b0 := eq_true c11
          have c11b1 : decide (x6_1.size + ((rd_T71 l0 x1_1).f4).size ≤ 9223372036854775807) = true := decide_eq_true c11
          try have c11b2 : (9223372036854775807 < x6_1.size + ((rd_T71 l0 x1_1).f4).size) = False := eq_false (Nat.not_lt.2 c11)
          have H' := Aside0.mk H
          clear H
          have p220 : 0 ≤ (x1_1 : Int) := of_decide_eq_true as_
          have q220 : x1_1 < (l0.length : Int) := of_decide_eq_true as_
          obtain ⟨ad220, e220, hx220_0, hx220_1, hx220_2, hx220_3, hx220_4⟩ := at_T71 HR0.out x1_1 p220 q220
          cases e220
          replace p220 := eq_true p220
          replace q220 := eq_true q220
          have p221 : 0 ≤ (x1_1 : Int) := of_decide_eq_true as_
          have q221 : x1_1 < (l0.length : Int) := of_decide_eq_true as_
          obtain ⟨ad221, e221, hx221_0, hx221_1, hx221_2, hx221_3, hx221_4⟩ := at_T71 HR0.out x1_1 p221 q221
          obtain rfl : ad220 = ad221 := (by injection e221)
          replace p221 := eq_true p221
          replace q221 := eq_true q221
          go_wp2
          go_roundg kj2
          case measure => have := HK1.out; have := HJ2.out; omega
          case rel => exact ⟨(wrap64 (x1_1 + 1)), (x6_1 ++ ((rd_T71 l0 x1_1).f4)), sm_, sm_, H', ⟨by have := HK1.out; have := HJ2.out; omega⟩, dd_⟩
         ·rw [if_neg c11] at H
          exact absurd H (by simp)
        ·rw [if_neg c10] at H
         have c10b0 : (((rd_T71 l0 x1_1).f0) == 6) = false := beq_eq_false_iff_ne.mpr c10
         have c10b1 : (((rd_T71 l0 x1_1).f0) != 6) = true := bne_iff_ne.mpr c10
         have H' := Aside0.mk H
         clear H
         have p220 : 0 ≤ (x1_1 : Int) := of_decide_eq_true as_
         have q220 : x1_1 < (l0.length : Int) := of_decide_eq_true as_
         obtain ⟨ad220, e220, hx220_0, hx220_1, hx220_2, hx220_3, hx220_4⟩ := at_T71 HR0.out x1_1 p220 q220
         cases e220
         replace p220 := eq_true p220
         replace q220 := eq_true q220
         go_wp2
         go_roundg kj2
         case measure => have := HK1.out; have := HJ2.out; omega
         case rel => exact ⟨(wrap64 (x1_1 + 1)), (x6_1), sm_, sm_, H', ⟨by have := HK1.out; have := HJ2.out; omega⟩, dd_⟩
       ·rw [if_neg c9] at H
        exact absurd H (by simp)
      ·rw [if_neg c8] at H
       exact absurd H (by simp)
     ·replace c7 := Bool.eq_false_iff.mpr c7
      subst c7
      rw [if_neg (show ¬ (false = true) by decide)] at H
      have H1 := H
      clear H
      have H := H1
      clear H1
      simp only [Option.some.injEq, Prod.mk.injEq] at H
      obtain ⟨rfl, rfl⟩ := H
      go_wp2
      go_ret2
      exact ⟨sm_, dd_⟩
def topiaryref13_spaces.f (k : Nat) (a0 : ByteArray) : Option (Bool) := (topiaryref11_Skip.f k a0 0).bind fun t222 => (some (t222 == (a0.size : Int)))
set_option maxHeartbeats 8000000 in
set_option maxRecDepth 100000 in
theorem topiaryref13_spaces.calls (k : Nat) (a0 : ByteArray) (r : Bool) (w : World) (h : topiaryref13_spaces.f k a0 = some r) :
  Calls Try.prog 37 #[.string a0] w fun e w' => e = .returned (.bool r) ∧ Drawn0 w w' := by
 have H : ((topiaryref11_Skip.f k a0 0).bind fun t222 => (some (t222 == (a0.size : Int)))) = some r := h
 clear h
 replace H := Option.bind_eq_some_iff.mp H
 obtain ⟨t222, A20, H⟩ := H
 try dsimp only at H
 have A2 := Aside0.mk A20
 clear A20
 obtain rfl := Option.some.inj H
 go_enter Try.func37, Try.ntmps37
 go_wp2_with (first | ((with_reducible refine gate_callee (f := 43) rfl ?_); refine goesL_ (some 4) rfl rfl Try.func43 (by kernel_rfl) rfl #[.string a0, .int .i64 0] rfl ar_ ?_; (with_reducible refine (topiaryref11_Skip.calls k a0 0 t222 _ A2.out).mono ?_); rintro e w' ⟨rfl, ⟨nd, rfl⟩⟩; refine ⟨_, rfl, ?_⟩))
 go_ret
 exact ⟨sm_, dd_⟩
end Go.Proofs.Ytoanmoddppmffaa.T
