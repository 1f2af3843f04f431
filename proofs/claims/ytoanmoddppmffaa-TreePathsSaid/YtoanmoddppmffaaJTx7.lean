/- What each function of the program comes to, and its walk: laid by a program. -/
import Derived.Test.YtoanmoddppmffaaJTx0
namespace Go.Proofs.Ytoanmoddppmffaa.T
open Go.RowKit Go.Proofs.YtoanmoddppmffaaW.PrintWords Go.Proofs.YtoanmoddppmffaaW.PrintLast Go.Proofs.YtoanmoddppmffaaW.PrintMore
set_option linter.unusedVariables false
set_option linter.unusedSimpArgs false
def topiaryref11_begins.f (a0 : ByteArray) (a1 : Int) (a2 : ByteArray) : Option (Bool) := if a1 ≥ 0 then (if a1 ≤ (a0.size : Int) then (if (wrap64 ((a0.size : Int) - a1)) ≥ (a2.size : Int) then (if 0 ≤ a1 then (if a1 ≤ (wrap64 (a1 + (a2.size : Int))) then (if (wrap64 (a1 + (a2.size : Int))) ≤ (a0.size : Int) then (some ((a0.extract (a1 : Int).toNat ((wrap64 (a1 + (a2.size : Int))) : Int).toNat).toList == a2.toList)) else (none)) else (none)) else (none)) else (some false)) else (some false)) else (some false)
set_option maxHeartbeats 8000000 in
set_option maxRecDepth 100000 in
theorem topiaryref11_begins.calls (a0 : ByteArray) (a1 : Int) (a2 : ByteArray) (r : Bool) (w : World) (h : topiaryref11_begins.f a0 a1 a2 = some r) :
  Calls Try.prog 58 #[.string a0, .int .i64 a1, .string a2] w fun e w' => e = .returned (.bool r) ∧ Drawn0 w w' := by
 have H : (if a1 ≥ 0 then (if a1 ≤ (a0.size : Int) then (if (wrap64 ((a0.size : Int) - a1)) ≥ (a2.size : Int) then (if 0 ≤ a1 then (if a1 ≤ (wrap64 (a1 + (a2.size : Int))) then (if (wrap64 (a1 + (a2.size : Int))) ≤ (a0.size : Int) then (some ((a0.extract (a1 : Int).toNat ((wrap64 (a1 + (a2.size : Int))) : Int).toNat).toList == a2.toList)) else (none)) else (none)) else (none)) else (some false)) else (some false)) else (some false)) = some r := h
 clear h
 by_cases c4 : a1 ≥ 0
 ·rw [if_pos c4] at H
  have c4b0 : decide (0 ≤ a1) = true := decide_eq_true c4
  clear c4
  by_cases c5 : a1 ≤ (a0.size : Int)
  ·rw [if_pos c5] at H
   have c5b0 : decide (a1 ≤ (a0.size : Int)) = true := decide_eq_true c5
   clear c5
   by_cases c6 : (wrap64 ((a0.size : Int) - a1)) ≥ (a2.size : Int)
   ·rw [if_pos c6] at H
    have c6b0 : decide ((a2.size : Int) ≤ (wrap64 ((a0.size : Int) - a1))) = true := decide_eq_true c6
    clear c6
    by_cases c7 : 0 ≤ a1
    ·rw [if_pos c7] at H
     have c7b0 := eq_true c7
     have c7b1 : decide (0 ≤ a1) = true := decide_eq_true c7
     clear c7
     by_cases c8 : a1 ≤ (wrap64 (a1 + (a2.size : Int)))
     ·rw [if_pos c8] at H
      have c8b0 := eq_true c8
      have c8b1 : decide (a1 ≤ (wrap64 (a1 + (a2.size : Int)))) = true := decide_eq_true c8
      by_cases c9 : (wrap64 (a1 + (a2.size : Int))) ≤ (a0.size : Int)
      ·rw [if_pos c9] at H
       have c9b0 := eq_true c9
       have c9b1 : decide ((wrap64 (a1 + (a2.size : Int))) ≤ (a0.size : Int)) = true := decide_eq_true c9
       obtain rfl := Option.some.inj H
       go_enter Try.func58, Try.ntmps58
       go_wp2
       go_ret
       exact ⟨sm_, dd_⟩
      ·rw [if_neg c9] at H
       exact absurd H (by simp)
     ·rw [if_neg c8] at H
      exact absurd H (by simp)
    ·rw [if_neg c7] at H
     exact absurd H (by simp)
   ·rw [if_neg c6] at H
    have c6b0 : decide ((a2.size : Int) ≤ (wrap64 ((a0.size : Int) - a1))) = false := decide_eq_false c6
    clear c6
    obtain rfl := Option.some.inj H
    go_enter Try.func58, Try.ntmps58
    go_wp2
    go_ret
    exact ⟨sm_, dd_⟩
  ·rw [if_neg c5] at H
   have c5b0 : decide (a1 ≤ (a0.size : Int)) = false := decide_eq_false c5
   clear c5
   obtain rfl := Option.some.inj H
   go_enter Try.func58, Try.ntmps58
   go_wp2
   go_ret
   exact ⟨sm_, dd_⟩
 ·rw [if_neg c4] at H
  have c4b0 : decide (0 ≤ a1) = false := decide_eq_false c4
  clear c4
  obtain rfl := Option.some.inj H
  go_enter Try.func58, Try.ntmps58
  go_wp2
  go_ret
  exact ⟨sm_, dd_⟩
mutual
def topiaryref11_number.l0 : Nat → ByteArray → Int → Int → Int → Int → Option (Int × Int)
 | 0, _, _, _, _, _ => none
 | k + 1, x0, x1, x2, x8, x9 => if x9 ≤ 8 then (if (wrap64 (x1 + x9)) ≥ (x0.size : Int) then (some (0, 0)) else (if 0 ≤ (wrap64 (x1 + x9)) then (if (wrap64 (x1 + x9)) < (x0.size : Int) then (if (wrap64 (bt x0 (wrap64 (x1 + x9)))) = 59 then (topiaryref11_number.j1 k x0 x1 x2 x8 x9 (wrap64 (bt x0 (wrap64 (x1 + x9)))) (decide (x9 > 0))) else (topiaryref11_number.j1 k x0 x1 x2 x8 x9 (wrap64 (bt x0 (wrap64 (x1 + x9)))) false)) else (none)) else (none))) else (some (0, 0))
def topiaryref11_number.j1 : Nat → ByteArray → Int → Int → Int → Int → Int → Bool → Option (Int × Int)
 | 0, _, _, _, _, _, _, _ => none
 | k + 1, x0, x1, x2, x8, x9, x10, x33 => if x33 = true then (some (x8, x9)) else (if x10 ≥ 48 then (topiaryref11_number.j2 k x0 x1 x2 x8 x9 x10 99 (decide (x10 ≤ 57))) else (topiaryref11_number.j2 k x0 x1 x2 x8 x9 x10 99 false))
def topiaryref11_number.j2 : Nat → ByteArray → Int → Int → Int → Int → Int → Int → Bool → Option (Int × Int)
 | 0, _, _, _, _, _, _, _, _ => none
 | k + 1, x0, x1, x2, x8, x9, x10, x11, x41 => if x41 = true then (topiaryref11_number.j3 k x0 x1 x2 x8 x9 x10 (wrap64 (x10 - 48))) else (topiaryref11_number.j3 k x0 x1 x2 x8 x9 x10 x11)
def topiaryref11_number.j3 : Nat → ByteArray → Int → Int → Int → Int → Int → Int → Option (Int × Int)
 | 0, _, _, _, _, _, _, _ => none
 | k + 1, x0, x1, x2, x8, x9, x10, x11 => if x10 ≥ 97 then (topiaryref11_number.j4 k x0 x1 x2 x8 x9 x10 x11 (decide (x10 ≤ 102))) else (topiaryref11_number.j4 k x0 x1 x2 x8 x9 x10 x11 false)
def topiaryref11_number.j4 : Nat → ByteArray → Int → Int → Int → Int → Int → Int → Bool → Option (Int × Int)
 | 0, _, _, _, _, _, _, _, _ => none
 | k + 1, x0, x1, x2, x8, x9, x10, x11, x49 => if x49 = true then (topiaryref11_number.j5 k x0 x1 x2 x8 x9 x10 (wrap64 ((wrap64 (x10 - 97)) + 10))) else (topiaryref11_number.j5 k x0 x1 x2 x8 x9 x10 x11)
def topiaryref11_number.j5 : Nat → ByteArray → Int → Int → Int → Int → Int → Int → Option (Int × Int)
 | 0, _, _, _, _, _, _, _ => none
 | k + 1, x0, x1, x2, x8, x9, x10, x11 => if x10 ≥ 65 then (topiaryref11_number.j6 k x0 x1 x2 x8 x9 x10 x11 (decide (x10 ≤ 70))) else (topiaryref11_number.j6 k x0 x1 x2 x8 x9 x10 x11 false)
def topiaryref11_number.j6 : Nat → ByteArray → Int → Int → Int → Int → Int → Int → Bool → Option (Int × Int)
 | 0, _, _, _, _, _, _, _, _ => none
 | k + 1, x0, x1, x2, x8, x9, x10, x11, x58 => if x58 = true then (if (wrap64 ((wrap64 (x10 - 65)) + 10)) ≥ x2 then (some (0, 0)) else (topiaryref11_number.l0 k x0 x1 x2 (wrap64 ((wrap64 (x8 * x2)) + (wrap64 ((wrap64 (x10 - 65)) + 10)))) (wrap64 (x9 + 1)))) else (if x11 ≥ x2 then (some (0, 0)) else (topiaryref11_number.l0 k x0 x1 x2 (wrap64 ((wrap64 (x8 * x2)) + x11)) (wrap64 (x9 + 1))))
end
def topiaryref11_number.f (k : Nat) (a0 : ByteArray) (a1 : Int) (a2 : Int) : Option (Int × Int) := topiaryref11_number.l0 k a0 a1 a2 0 0
set_option maxHeartbeats 8000000 in
set_option maxRecDepth 100000 in
theorem topiaryref11_number.calls (k : Nat) (a0 : ByteArray) (a1 : Int) (a2 : Int) (r1 : Int) (r2 : Int) (w : World) (h : topiaryref11_number.f k a0 a1 a2 = some (r1, r2)) :
  Calls Try.prog 59 #[.string a0, .int .i64 a1, .int .i64 a2] w fun e w' => e = .returned (.tuple #[.int .i64 r1, .int .i64 r2]) ∧ Drawn0 w w' := by
 have H : (topiaryref11_number.l0 k a0 a1 a2 0 0) = some (r1, r2) := h
 clear h
 have H' := Aside0.mk H
 clear H
 go_enter Try.func59, Try.ntmps59
 go_wp2
 go_loopg [8, 9] k (fun kq v8 v9 w' => ∃ (x8_1 : Int) (x9_1 : Int), v8 = .int .i64 x8_1 ∧ v9 = .int .i64 x9_1 ∧ Aside0 (topiaryref11_number.l0 kq a0 a1 a2 x8_1 x9_1 = some (r1, r2)) ∧ Aside0 (kq ≤ k) ∧ Drawn0 w w')
 case atStart => exact ⟨(0), (0), sm_, sm_, H', ⟨Nat.le_refl _⟩, dd_⟩
 case round =>
  clear H'
  try clear p2
  obtain ⟨x8_1, x9_1, rfl, rfl, HA, HK1, ⟨m1, rfl⟩⟩ := hrel
  cases gk with
  | zero => exact absurd HA.out (by simp [topiaryref11_number.l0])
  | succ k1 =>
   have H := HA.out
   clear HA
   simp only [topiaryref11_number.l0] at H
   by_cases c4 : x9_1 ≤ 8
   ·rw [if_pos c4] at H
    have c4b0 : decide (x9_1 ≤ 8) = true := decide_eq_true c4
    clear c4
    by_cases c5 : (wrap64 (a1 + x9_1)) ≥ (a0.size : Int)
    ·rw [if_pos c5] at H
     have c5b0 : decide ((a0.size : Int) ≤ (wrap64 (a1 + x9_1))) = true := decide_eq_true c5
     clear c5
     simp only [Option.some.injEq, Prod.mk.injEq] at H
     obtain ⟨rfl, rfl⟩ := H
     go_wp2
     go_ret2
     exact ⟨sm_, dd_⟩
    ·rw [if_neg c5] at H
     have c5b0 : decide ((a0.size : Int) ≤ (wrap64 (a1 + x9_1))) = false := decide_eq_false c5
     clear c5
     obtain ⟨ji6, hji6⟩ : ∃ j_ : Int, (wrap64 (a1 + x9_1)) = j_ := ⟨_, rfl⟩
     replace H : (if 0 ≤ (ji6) then (if (ji6) < (a0.size : Int) then (if (wrap64 (bt a0 (ji6))) = 59 then (topiaryref11_number.j1 k1 a0 a1 a2 x8_1 x9_1 (wrap64 (bt a0 (ji6))) (decide (x9_1 > 0))) else (topiaryref11_number.j1 k1 a0 a1 a2 x8_1 x9_1 (wrap64 (bt a0 (ji6))) false)) else (none)) else (none)) = some (r1, r2) := by first | (rw [hji6] at H; exact H) | (simp only [hji6] at H ⊢; exact H)
     (try rw [hji6] at c5b0)
     have hji6w : (IntKind.i64.wrap (a1 + x9_1)) = ji6 := (i64_w _).trans hji6
     by_cases c7 : 0 ≤ (ji6)
     ·rw [if_pos c7] at H
      have c7b0 : decide (0 ≤ (ji6)) = true := decide_eq_true c7
      clear c7
      by_cases c8 : (ji6) < (a0.size : Int)
      ·rw [if_pos c8] at H
       have c8b0 : decide ((ji6) < (a0.size : Int)) = true := decide_eq_true c8
       clear c8
       have HC10 := Aside0.mk H
       clear H
       have p9 : 0 ≤ ((ji6) : Int) := of_decide_eq_true as_
       have q9 : (ji6) < (a0.size : Int) := of_decide_eq_true as_
       have hx9 := bt_at a0 (ji6)
       replace p9 := eq_true p9
       replace q9 := eq_true q9
       go_upto_region 8 with (fail)
       go_cut [33] (fun v33 wc => ∃ (kq : Nat) (x33_9 : Bool), v33 = .bool x33_9 ∧ Aside0 (topiaryref11_number.j1 kq a0 a1 a2 x8_1 x9_1 (wrap64 (bt a0 (ji6))) x33_9 = some (r1, r2)) ∧ Aside0 (kq ≤ k1) ∧ Drawn0 w wc)
       case first =>
        have H := HC10.out
        clear HC10
        by_cases c11 : (wrap64 (bt a0 (ji6))) = 59
        ·rw [if_pos c11] at H
         have c11b0 : ((wrap64 (bt a0 (ji6))) == 59) = true := beq_iff_eq.mpr c11
         have c11b1 : ((wrap64 (bt a0 (ji6))) != 59) = false := bne_eq_false_iff_eq.mpr c11
         clear c11
         (first | rw [c11b0] | (simp only [i64_w, i32_w]; rw [c11b0]) | skip)
         have H' := Aside0.mk H
         clear H
         go_wp2
         go_meet
         case rel => exact ⟨_, (decide (x9_1 > 0)), sm_, H', ⟨by have := HK1.out; first | omega | exact Nat.le_refl _⟩, dd_⟩
        ·rw [if_neg c11] at H
         have c11b0 : ((wrap64 (bt a0 (ji6))) == 59) = false := beq_eq_false_iff_ne.mpr c11
         have c11b1 : ((wrap64 (bt a0 (ji6))) != 59) = true := bne_iff_ne.mpr c11
         (first | rw [c11b0] | (simp only [i64_w, i32_w]; rw [c11b0]) | skip)
         have H' := Aside0.mk H
         clear H
         go_wp2
         go_meet
         case rel => exact ⟨_, (false), sm_, H', ⟨by have := HK1.out; first | omega | exact Nat.le_refl _⟩, dd_⟩
       case rest =>
        clear HC10
        try clear c1
        try clear p2
        try clear c4
        try clear c4b0
        try clear c5
        try clear c5b0
        try clear p6
        try clear c7
        try clear c7b0
        try clear c8
        try clear c8b0
        try clear p9
        try clear q9
        try clear hx9
        try clear c11
        try clear c11b0
        try clear c11b1
        try clear p2
        try clear p9
        try clear q9
        obtain ⟨kq, x33_9, rfl, HA, HJ9, ⟨mc9, rfl⟩⟩ := hcut
        cases kq with
        | zero => exact absurd HA.out (by simp [topiaryref11_number.j1])
        | succ kj9 =>
         have H := HA.out
         clear HA
         simp only [topiaryref11_number.j1] at H
         by_cases c12 : x33_9 = true
         ·subst c12
          rw [if_pos rfl] at H
          have H1 := H
          clear H
          have H := H1
          clear H1
          simp only [Option.some.injEq, Prod.mk.injEq] at H
          obtain ⟨rfl, rfl⟩ := H
          go_wp2
          go_ret2
          exact ⟨by first | rfl | (simp; done) | (simp only [← hji6] <;> (first | rfl | simp)) | (simp [*]; done), dd_⟩
         ·replace c12 := Bool.eq_false_iff.mpr c12
          subst c12
          rw [if_neg (show ¬ (false = true) by decide)] at H
          have H1 := H
          clear H
          have H := H1
          clear H1
          have HC13 := Aside0.mk H
          clear H
          go_upto_region 11 with (fail)
          go_cut [41] (fun v41 wc => ∃ (kq : Nat) (x41_12 : Bool), v41 = .bool x41_12 ∧ Aside0 (topiaryref11_number.j2 kq a0 a1 a2 x8_1 x9_1 (wrap64 (bt a0 (ji6))) 99 x41_12 = some (r1, r2)) ∧ Aside0 (kq ≤ kj9) ∧ Drawn0 w wc)
          case first =>
           have H := HC13.out
           clear HC13
           by_cases c14 : (wrap64 (bt a0 (ji6))) ≥ 48
           ·rw [if_pos c14] at H
            have c14b0 : decide (48 ≤ (wrap64 (bt a0 (ji6)))) = true := decide_eq_true c14
            clear c14
            (first | rw [c14b0] | (simp only [i64_w, i32_w]; rw [c14b0]) | skip)
            have H' := Aside0.mk H
            clear H
            go_wp2
            go_meet
            case rel => exact ⟨_, (decide ((wrap64 (bt a0 (ji6))) ≤ 57)), (by first | rfl | (simp; done) | (simp only [← hji6] <;> (first | rfl | simp)) | (simp [*]; done)), H', ⟨by have := HK1.out; have := HJ9.out; first | omega | exact Nat.le_refl _⟩, dd_⟩
           ·rw [if_neg c14] at H
            have c14b0 : decide (48 ≤ (wrap64 (bt a0 (ji6)))) = false := decide_eq_false c14
            clear c14
            (first | rw [c14b0] | (simp only [i64_w, i32_w]; rw [c14b0]) | skip)
            have H' := Aside0.mk H
            clear H
            go_wp2
            go_meet
            case rel => exact ⟨_, (false), sm_, H', ⟨by have := HK1.out; have := HJ9.out; first | omega | exact Nat.le_refl _⟩, dd_⟩
          case rest =>
           clear HC13
           try clear c1
           try clear p2
           try clear c4
           try clear c4b0
           try clear c5
           try clear c5b0
           try clear p6
           try clear c7
           try clear c7b0
           try clear c8
           try clear c8b0
           try clear c9
           try clear p9
           try clear q9
           try clear hx9
           try clear c11
           try clear c11b0
           try clear c11b1
           try clear c12
           try clear c14
           try clear c14b0
           try clear p2
           try clear p6
           try clear p9
           try clear q9
           obtain ⟨kq, x41_12, rfl, HA, HJ12, ⟨mc12, rfl⟩⟩ := hcut
           cases kq with
           | zero => exact absurd HA.out (by simp [topiaryref11_number.j2])
           | succ kj12 =>
            have H := HA.out
            clear HA
            simp only [topiaryref11_number.j2] at H
            have HC15 := Aside0.mk H
            clear H
            go_upto_if 41 with (fail)
            go_cut [11] (fun v11 wc => ∃ (kq : Nat) (x11_14 : Int), v11 = .int .i64 x11_14 ∧ Aside0 (topiaryref11_number.j3 kq a0 a1 a2 x8_1 x9_1 (wrap64 (bt a0 (ji6))) x11_14 = some (r1, r2)) ∧ Aside0 (kq ≤ kj12) ∧ Drawn0 w wc)
            case first =>
             have H := HC15.out
             clear HC15
             by_cases c16 : x41_12 = true
             ·subst c16
              rw [if_pos rfl] at H
              have H1 := H
              clear H
              have H := H1
              clear H1
              have H' := Aside0.mk H
              clear H
              go_wp2
              go_meet
              case rel => exact ⟨_, (wrap64 ((wrap64 (bt a0 (ji6))) - 48)), (by first | rfl | (simp; done) | (simp only [← hji6] <;> (first | rfl | simp)) | (simp [*]; done)), H', ⟨by have := HK1.out; have := HJ9.out; have := HJ12.out; first | omega | exact Nat.le_refl _⟩, dd_⟩
             ·replace c16 := Bool.eq_false_iff.mpr c16
              subst c16
              rw [if_neg (show ¬ (false = true) by decide)] at H
              have H1 := H
              clear H
              have H := H1
              clear H1
              have H' := Aside0.mk H
              clear H
              go_wp2
              go_meet
              case rel => exact ⟨_, (99), sm_, H', ⟨by have := HK1.out; have := HJ9.out; have := HJ12.out; first | omega | exact Nat.le_refl _⟩, dd_⟩
            case rest =>
             clear HC15
             try clear c1
             try clear p2
             try clear c4
             try clear c4b0
             try clear c5
             try clear c5b0
             try clear p6
             try clear c7
             try clear c7b0
             try clear c8
             try clear c8b0
             try clear c9
             try clear p9
             try clear q9
             try clear hx9
             try clear c11
             try clear c11b0
             try clear c11b1
             try clear c12
             try clear c14
             try clear c14b0
             try clear c16
             try clear p2
             try clear p6
             try clear p9
             try clear q9
             obtain ⟨kq, x11_14, rfl, HA, HJ14, ⟨mc14, rfl⟩⟩ := hcut
             cases kq with
             | zero => exact absurd HA.out (by simp [topiaryref11_number.j3])
             | succ kj14 =>
              have H := HA.out
              clear HA
              simp only [topiaryref11_number.j3] at H
              have HC17 := Aside0.mk H
              clear H
              go_upto_region 13 with (fail)
              go_cut [49] (fun v49 wc => ∃ (kq : Nat) (x49_16 : Bool), v49 = .bool x49_16 ∧ Aside0 (topiaryref11_number.j4 kq a0 a1 a2 x8_1 x9_1 (wrap64 (bt a0 (ji6))) x11_14 x49_16 = some (r1, r2)) ∧ Aside0 (kq ≤ kj14) ∧ Drawn0 w wc)
              case first =>
               have H := HC17.out
               clear HC17
               by_cases c18 : (wrap64 (bt a0 (ji6))) ≥ 97
               ·rw [if_pos c18] at H
                have c18b0 : decide (97 ≤ (wrap64 (bt a0 (ji6)))) = true := decide_eq_true c18
                clear c18
                (first | rw [c18b0] | (simp only [i64_w, i32_w]; rw [c18b0]) | skip)
                have H' := Aside0.mk H
                clear H
                go_wp2
                go_meet
                case rel => exact ⟨_, (decide ((wrap64 (bt a0 (ji6))) ≤ 102)), (by first | rfl | (simp; done) | (simp only [← hji6] <;> (first | rfl | simp)) | (simp [*]; done)), H', ⟨by have := HK1.out; have := HJ9.out; have := HJ12.out; have := HJ14.out; first | omega | exact Nat.le_refl _⟩, dd_⟩
               ·rw [if_neg c18] at H
                have c18b0 : decide (97 ≤ (wrap64 (bt a0 (ji6)))) = false := decide_eq_false c18
                clear c18
                (first | rw [c18b0] | (simp only [i64_w, i32_w]; rw [c18b0]) | skip)
                have H' := Aside0.mk H
                clear H
                go_wp2
                go_meet
                case rel => exact ⟨_, (false), sm_, H', ⟨by have := HK1.out; have := HJ9.out; have := HJ12.out; have := HJ14.out; first | omega | exact Nat.le_refl _⟩, dd_⟩
              case rest =>
               clear HC17
               try clear c1
               try clear p2
               try clear c4
               try clear c4b0
               try clear c5
               try clear c5b0
               try clear p6
               try clear c7
               try clear c7b0
               try clear c8
               try clear c8b0
               try clear c9
               try clear p9
               try clear q9
               try clear hx9
               try clear c11
               try clear c11b0
               try clear c11b1
               try clear c12
               try clear c14
               try clear c14b0
               try clear c16
               try clear c18
               try clear c18b0
               try clear p2
               try clear p6
               try clear p9
               try clear q9
               obtain ⟨kq, x49_16, rfl, HA, HJ16, ⟨mc16, rfl⟩⟩ := hcut
               cases kq with
               | zero => exact absurd HA.out (by simp [topiaryref11_number.j4])
               | succ kj16 =>
                have H := HA.out
                clear HA
                simp only [topiaryref11_number.j4] at H
                have HC19 := Aside0.mk H
                clear H
                go_upto_if 49 with (fail)
                go_cut [11] (fun v11 wc => ∃ (kq : Nat) (x11_18 : Int), v11 = .int .i64 x11_18 ∧ Aside0 (topiaryref11_number.j5 kq a0 a1 a2 x8_1 x9_1 (wrap64 (bt a0 (ji6))) x11_18 = some (r1, r2)) ∧ Aside0 (kq ≤ kj16) ∧ Drawn0 w wc)
                case first =>
                 have H := HC19.out
                 clear HC19
                 by_cases c20 : x49_16 = true
                 ·subst c20
                  rw [if_pos rfl] at H
                  have H1 := H
                  clear H
                  have H := H1
                  clear H1
                  have H' := Aside0.mk H
                  clear H
                  go_wp2
                  go_meet
                  case rel => exact ⟨_, (wrap64 ((wrap64 ((wrap64 (bt a0 (ji6))) - 97)) + 10)), (by first | rfl | (simp; done) | (simp only [← hji6] <;> (first | rfl | simp)) | (simp [*]; done)), H', ⟨by have := HK1.out; have := HJ9.out; have := HJ12.out; have := HJ14.out; have := HJ16.out; first | omega | exact Nat.le_refl _⟩, dd_⟩
                 ·replace c20 := Bool.eq_false_iff.mpr c20
                  subst c20
                  rw [if_neg (show ¬ (false = true) by decide)] at H
                  have H1 := H
                  clear H
                  have H := H1
                  clear H1
                  have H' := Aside0.mk H
                  clear H
                  go_wp2
                  go_meet
                  case rel => exact ⟨_, (x11_14), sm_, H', ⟨by have := HK1.out; have := HJ9.out; have := HJ12.out; have := HJ14.out; have := HJ16.out; first | omega | exact Nat.le_refl _⟩, dd_⟩
                case rest =>
                 clear HC19
                 try clear c1
                 try clear c2
                 try clear p2
                 try clear c4
                 try clear c4b0
                 try clear c5
                 try clear c5b0
                 try clear p6
                 try clear c7
                 try clear c7b0
                 try clear c8
                 try clear c8b0
                 try clear c9
                 try clear p9
                 try clear q9
                 try clear hx9
                 try clear c11
                 try clear c11b0
                 try clear c11b1
                 try clear c12
                 try clear c14
                 try clear c14b0
                 try clear c16
                 try clear c18
                 try clear c18b0
                 try clear c20
                 try clear p2
                 try clear p6
                 try clear p9
                 try clear q9
                 obtain ⟨kq, x11_18, rfl, HA, HJ18, ⟨mc18, rfl⟩⟩ := hcut
                 cases kq with
                 | zero => exact absurd HA.out (by simp [topiaryref11_number.j5])
                 | succ kj18 =>
                  have H := HA.out
                  clear HA
                  simp only [topiaryref11_number.j5] at H
                  have HC21 := Aside0.mk H
                  clear H
                  go_upto_region 15 with (fail)
                  go_cut [58] (fun v58 wc => ∃ (kq : Nat) (x58_20 : Bool), v58 = .bool x58_20 ∧ Aside0 (topiaryref11_number.j6 kq a0 a1 a2 x8_1 x9_1 (wrap64 (bt a0 (ji6))) x11_18 x58_20 = some (r1, r2)) ∧ Aside0 (kq ≤ kj18) ∧ Drawn0 w wc)
                  case first =>
                   have H := HC21.out
                   clear HC21
                   by_cases c22 : (wrap64 (bt a0 (ji6))) ≥ 65
                   ·rw [if_pos c22] at H
                    have c22b0 : decide (65 ≤ (wrap64 (bt a0 (ji6)))) = true := decide_eq_true c22
                    clear c22
                    (first | rw [c22b0] | (simp only [i64_w, i32_w]; rw [c22b0]) | skip)
                    have H' := Aside0.mk H
                    clear H
                    go_wp2
                    go_meet
                    case rel => exact ⟨_, (decide ((wrap64 (bt a0 (ji6))) ≤ 70)), (by first | rfl | (simp; done) | (simp only [← hji6] <;> (first | rfl | simp)) | (simp [*]; done)), H', ⟨by have := HK1.out; have := HJ9.out; have := HJ12.out; have := HJ14.out; have := HJ16.out; have := HJ18.out; first | omega | exact Nat.le_refl _⟩, dd_⟩
                   ·rw [if_neg c22] at H
                    have c22b0 : decide (65 ≤ (wrap64 (bt a0 (ji6)))) = false := decide_eq_false c22
                    clear c22
                    (first | rw [c22b0] | (simp only [i64_w, i32_w]; rw [c22b0]) | skip)
                    have H' := Aside0.mk H
                    clear H
                    go_wp2
                    go_meet
                    case rel => exact ⟨_, (false), sm_, H', ⟨by have := HK1.out; have := HJ9.out; have := HJ12.out; have := HJ14.out; have := HJ16.out; have := HJ18.out; first | omega | exact Nat.le_refl _⟩, dd_⟩
                  case rest =>
                   clear HC21
                   try clear c1
                   try clear c2
                   try clear p2
                   try clear c4
                   try clear c4b0
                   try clear c5
                   try clear c5b0
                   try clear p6
                   try clear c7
                   try clear c7b0
                   try clear c8
                   try clear c8b0
                   try clear c9
                   try clear p9
                   try clear q9
                   try clear hx9
                   try clear c11
                   try clear c11b0
                   try clear c11b1
                   try clear c12
                   try clear c14
                   try clear c14b0
                   try clear c16
                   try clear c18
                   try clear c18b0
                   try clear c20
                   try clear c22
                   try clear c22b0
                   try clear p2
                   try clear p6
                   try clear p9
                   try clear q9
                   obtain ⟨kq, x58_20, rfl, HA, HJ20, ⟨mc20, rfl⟩⟩ := hcut
                   cases kq with
                   | zero => exact absurd HA.out (by simp [topiaryref11_number.j6])
                   | succ kj20 =>
                    have H := HA.out
                    clear HA
                    simp only [topiaryref11_number.j6] at H
                    by_cases c23 : x58_20 = true
                    ·subst c23
                     rw [if_pos rfl] at H
                     have H1 := H
                     clear H
                     have H := H1
                     clear H1
                     by_cases c24 : (wrap64 ((wrap64 ((wrap64 (bt a0 (ji6))) - 65)) + 10)) ≥ a2
                     ·rw [if_pos c24] at H
                      have c24b0 : decide (a2 ≤ (wrap64 ((wrap64 ((wrap64 (bt a0 (ji6))) - 65)) + 10))) = true := decide_eq_true c24
                      clear c24
                      simp only [Option.some.injEq, Prod.mk.injEq] at H
                      obtain ⟨rfl, rfl⟩ := H
                      go_wp2
                      go_ret2
                      exact ⟨by first | rfl | (simp; done) | (simp only [← hji6] <;> (first | rfl | simp)) | (simp [*]; done), dd_⟩
                     ·rw [if_neg c24] at H
                      have c24b0 : decide (a2 ≤ (wrap64 ((wrap64 ((wrap64 (bt a0 (ji6))) - 65)) + 10))) = false := decide_eq_false c24
                      clear c24
                      have H' := Aside0.mk H
                      clear H
                      go_wp2
                      go_roundg kj20
                      case measure => have := HK1.out; have := HJ9.out; have := HJ12.out; have := HJ14.out; have := HJ16.out; have := HJ18.out; have := HJ20.out; omega
                      case rel => exact ⟨(wrap64 ((wrap64 (x8_1 * a2)) + (wrap64 ((wrap64 ((wrap64 (bt a0 (ji6))) - 65)) + 10)))), (wrap64 (x9_1 + 1)), (by first | rfl | (simp; done) | (simp only [← hji6] <;> (first | rfl | simp)) | (simp [*]; done)), sm_, H', ⟨by have := HK1.out; have := HJ9.out; have := HJ12.out; have := HJ14.out; have := HJ16.out; have := HJ18.out; have := HJ20.out; omega⟩, dd_⟩
                    ·replace c23 := Bool.eq_false_iff.mpr c23
                     subst c23
                     rw [if_neg (show ¬ (false = true) by decide)] at H
                     have H1 := H
                     clear H
                     have H := H1
                     clear H1
                     by_cases c25 : x11_18 ≥ a2
                     ·rw [if_pos c25] at H
                      have c25b0 : decide (a2 ≤ x11_18) = true := decide_eq_true c25
                      clear c25
                      simp only [Option.some.injEq, Prod.mk.injEq] at H
                      obtain ⟨rfl, rfl⟩ := H
                      go_wp2
                      go_ret2
                      exact ⟨by first | rfl | (simp; done) | (simp only [← hji6] <;> (first | rfl | simp)) | (simp [*]; done), dd_⟩
                     ·rw [if_neg c25] at H
                      have c25b0 : decide (a2 ≤ x11_18) = false := decide_eq_false c25
                      clear c25
                      have H' := Aside0.mk H
                      clear H
                      go_wp2
                      go_roundg kj20
                      case measure => have := HK1.out; have := HJ9.out; have := HJ12.out; have := HJ14.out; have := HJ16.out; have := HJ18.out; have := HJ20.out; omega
                      case rel => exact ⟨(wrap64 ((wrap64 (x8_1 * a2)) + x11_18)), (wrap64 (x9_1 + 1)), sm_, sm_, H', ⟨by have := HK1.out; have := HJ9.out; have := HJ12.out; have := HJ14.out; have := HJ16.out; have := HJ18.out; have := HJ20.out; omega⟩, dd_⟩
      ·rw [if_neg c8] at H
       exact absurd H (by simp)
     ·rw [if_neg c7] at H
      exact absurd H (by simp)
   ·rw [if_neg c4] at H
    have c4b0 : decide (x9_1 ≤ 8) = false := decide_eq_false c4
    clear c4
    simp only [Option.some.injEq, Prod.mk.injEq] at H
    obtain ⟨rfl, rfl⟩ := H
    go_wp2
    go_ret2
    exact ⟨sm_, dd_⟩
end Go.Proofs.Ytoanmoddppmffaa.T
