/- What each function of the program comes to, and its walk: laid by a program. -/
import Derived.Test.YtoanmoddppmffaaJTx0
import Derived.Test.YtoanmoddppmffaaJTx3
namespace Go.Proofs.Ytoanmoddppmffaa.T
open Go.RowKit Go.Proofs.YtoanmoddppmffaaW.PrintWords Go.Proofs.YtoanmoddppmffaaW.PrintLast Go.Proofs.YtoanmoddppmffaaW.PrintMore
set_option linter.unusedVariables false
set_option linter.unusedSimpArgs false
mutual
def topiaryref11_Rune.j0 : Nat → ByteArray → Int → Bool → Option (Int × Int)
 | 0, _, _, _ => none
 | k + 1, x0, x1, x19 => if x19 = true then (some ((-1), 0)) else (topiaryref11_Rune.l0 k x0 x1 1)
def topiaryref11_Rune.l0 : Nat → ByteArray → Int → Int → Option (Int × Int)
 | 0, _, _, _ => none
 | k + 1, x0, x1, x6 => if x6 ≤ 4 then (topiaryref11_Rune.j2 k x0 x1 x6 (decide (x6 ≤ (wrap64 ((x0.size : Int) - x1))))) else (topiaryref11_Rune.j2 k x0 x1 x6 false)
def topiaryref11_Rune.j2 : Nat → ByteArray → Int → Int → Bool → Option (Int × Int)
 | 0, _, _, _, _ => none
 | k + 1, x0, x1, x6, x29 => if x29 = true then (topiaryref11_Rune.l1 k x0 x1 x6 0 0) else (some ((-1), 0))
def topiaryref11_Rune.l1 : Nat → ByteArray → Int → Int → Int → Int → Option (Int × Int)
 | 0, _, _, _, _, _ => none
 | k + 1, x0, x1, x6, x7, x8 => if x8 < x6 then (if 0 ≤ (wrap64 (x1 + x8)) then (if (wrap64 (x1 + x8)) < (x0.size : Int) then (if x8 = 0 then (if x6 = 2 then (topiaryref11_Rune.j4 k x0 x1 x6 x8 (wrap64 (bt x0 (wrap64 (x1 + x8)))) 192) else (topiaryref11_Rune.j4 k x0 x1 x6 x8 (wrap64 (bt x0 (wrap64 (x1 + x8)))) 0)) else (topiaryref11_Rune.l1 k x0 x1 x6 (wrap64 ((wrap64 ((wrap64 (x7 * 64)) + (wrap64 (bt x0 (wrap64 (x1 + x8)))))) - 128)) (wrap64 (x8 + 1)))) else (none)) else (none)) else ((topiaryref11_Encode.f x7).bind fun t132 => (if t132.toList = ([] : List UInt8) then (topiaryref11_Rune.l0 k x0 x1 (wrap64 (x6 + 1))) else (if 0 ≤ x1 then (if x1 ≤ (wrap64 (x1 + x6)) then (if (wrap64 (x1 + x6)) ≤ (x0.size : Int) then (if t132.toList = (x0.extract (x1 : Int).toNat ((wrap64 (x1 + x6)) : Int).toNat).toList then (some (x7, x6)) else (topiaryref11_Rune.l0 k x0 x1 (wrap64 (x6 + 1)))) else (none)) else (none)) else (none))))
def topiaryref11_Rune.j4 : Nat → ByteArray → Int → Int → Int → Int → Int → Option (Int × Int)
 | 0, _, _, _, _, _, _ => none
 | k + 1, x0, x1, x6, x8, x9, x10 => if x6 = 3 then (if x6 = 4 then (topiaryref11_Rune.l1 k x0 x1 x6 (wrap64 (x9 - 240)) (wrap64 (x8 + 1))) else (topiaryref11_Rune.l1 k x0 x1 x6 (wrap64 (x9 - 224)) (wrap64 (x8 + 1)))) else (if x6 = 4 then (topiaryref11_Rune.l1 k x0 x1 x6 (wrap64 (x9 - 240)) (wrap64 (x8 + 1))) else (topiaryref11_Rune.l1 k x0 x1 x6 (wrap64 (x9 - x10)) (wrap64 (x8 + 1))))
end
def topiaryref11_Rune.f (k : Nat) (a0 : ByteArray) (a1 : Int) : Option (Int × Int) := if a1 < 0 then (topiaryref11_Rune.j0 k a0 a1 true) else (topiaryref11_Rune.j0 k a0 a1 (decide (a1 ≥ (a0.size : Int))))
set_option maxHeartbeats 8000000 in
set_option maxRecDepth 100000 in
theorem topiaryref11_Rune.calls (k : Nat) (a0 : ByteArray) (a1 : Int) (r1 : Int) (r2 : Int) (w : World) (h : topiaryref11_Rune.f k a0 a1 = some (r1, r2)) :
  Calls Try.prog 46 #[.string a0, .int .i64 a1] w fun e w' => e = .returned (.tuple #[.int .i64 r1, .int .i64 r2]) ∧ Below w.heap.size w w' := by
 have HB := Aside0.mk (Below.refl w.heap.size w)
 have H : (if a1 < 0 then (topiaryref11_Rune.j0 k a0 a1 true) else (topiaryref11_Rune.j0 k a0 a1 (decide (a1 ≥ (a0.size : Int))))) = some (r1, r2) := h
 clear h
 have HC3 := Aside0.mk H
 clear H
 go_enter Try.func46, Try.ntmps46
 go_upto_region 1 with (fail)
 go_cut [19] (fun v19 wc => ∃ (kq : Nat) (x19_2 : Bool), v19 = .bool x19_2 ∧ Aside0 (topiaryref11_Rune.j0 kq a0 a1 x19_2 = some (r1, r2)) ∧ Aside0 (kq ≤ k) ∧ Aside0 (Below w.heap.size w wc))
 case first =>
  have H := HC3.out
  clear HC3
  by_cases c4 : a1 < 0
  ·rw [if_pos c4] at H
   have c4b0 : decide (a1 < 0) = true := decide_eq_true c4
   clear c4
   (first | rw [c4b0] | (simp only [i64_w, i32_w]; rw [c4b0]) | skip)
   have H' := Aside0.mk H
   clear H
   go_wp2
   go_meet
   case rel => exact ⟨_, (true), sm_, H', ⟨by first | omega | exact Nat.le_refl _⟩, ⟨bb_ HB.out⟩⟩
  ·rw [if_neg c4] at H
   have c4b0 : decide (a1 < 0) = false := decide_eq_false c4
   clear c4
   (first | rw [c4b0] | (simp only [i64_w, i32_w]; rw [c4b0]) | skip)
   have H' := Aside0.mk H
   clear H
   go_wp2
   go_meet
   case rel => exact ⟨_, (decide (a1 ≥ (a0.size : Int))), sm_, H', ⟨by first | omega | exact Nat.le_refl _⟩, ⟨bb_ HB.out⟩⟩
 case rest =>
  clear HC3
  try clear p2
  try clear c4
  try clear c4b0
  obtain ⟨kq, x19_2, rfl, HA, HJ2, HB⟩ := hcut
  cases kq with
  | zero => exact absurd HA.out (by simp [topiaryref11_Rune.j0])
  | succ kj2 =>
   have H := HA.out
   clear HA
   simp only [topiaryref11_Rune.j0] at H
   by_cases c5 : x19_2 = true
   ·subst c5
    rw [if_pos rfl] at H
    have H1 := H
    clear H
    have H := H1
    clear H1
    simp only [Option.some.injEq, Prod.mk.injEq] at H
    obtain ⟨rfl, rfl⟩ := H
    go_wp2
    go_ret2
    exact ⟨by first | rfl | (simp [errW_none, errW_some] <;> rfl) | (simp [*, errW_none, errW_some] <;> rfl), bb_ HB.out⟩
   ·replace c5 := Bool.eq_false_iff.mpr c5
    subst c5
    rw [if_neg (show ¬ (false = true) by decide)] at H
    have H1 := H
    clear H
    have H := H1
    clear H1
    have H' := Aside0.mk H
    clear H
    go_wp2
    go_loopg [6] kj2 (fun kq v6 w' => ∃ (x6_2 : Int), v6 = .int .i64 x6_2 ∧ Aside0 (topiaryref11_Rune.l0 kq a0 a1 x6_2 = some (r1, r2)) ∧ Aside0 (kq ≤ kj2) ∧ Aside0 (Below w.heap.size w w'))
    case atStart => exact ⟨(1), sm_, H', ⟨Nat.le_refl _⟩, ⟨bb_ HB.out⟩⟩
    case round =>
     clear H'
     try clear p2
     try clear c4
     try clear c4b0
     try clear c5
     try clear p2
     obtain ⟨x6_2, rfl, HA, HK2, HB⟩ := hrel
     cases gk with
     | zero => exact absurd HA.out (by simp [topiaryref11_Rune.l0])
     | succ k2 =>
      have H := HA.out
      clear HA
      simp only [topiaryref11_Rune.l0] at H
      have HC6 := Aside0.mk H
      clear H
      go_upto_region 4 with (fail)
      go_cut [29] (fun v29 wc => ∃ (kq : Nat) (x29_5 : Bool), v29 = .bool x29_5 ∧ Aside0 (topiaryref11_Rune.j2 kq a0 a1 x6_2 x29_5 = some (r1, r2)) ∧ Aside0 (kq ≤ k2) ∧ Aside0 (Below w.heap.size w wc))
      case first =>
       have H := HC6.out
       clear HC6
       by_cases c7 : x6_2 ≤ 4
       ·rw [if_pos c7] at H
        have c7b0 : decide (x6_2 ≤ 4) = true := decide_eq_true c7
        clear c7
        (first | rw [c7b0] | (simp only [i64_w, i32_w]; rw [c7b0]) | skip)
        have H' := Aside0.mk H
        clear H
        go_wp2
        go_meet
        case rel => exact ⟨_, (decide (x6_2 ≤ (wrap64 ((a0.size : Int) - a1)))), sm_, H', ⟨by have := HJ2.out; have := HK2.out; first | omega | exact Nat.le_refl _⟩, ⟨bb_ HB.out⟩⟩
       ·rw [if_neg c7] at H
        have c7b0 : decide (x6_2 ≤ 4) = false := decide_eq_false c7
        clear c7
        (first | rw [c7b0] | (simp only [i64_w, i32_w]; rw [c7b0]) | skip)
        have H' := Aside0.mk H
        clear H
        go_wp2
        go_meet
        case rel => exact ⟨_, (false), sm_, H', ⟨by have := HJ2.out; have := HK2.out; first | omega | exact Nat.le_refl _⟩, ⟨bb_ HB.out⟩⟩
      case rest =>
       clear HC6
       try clear p2
       try clear c4
       try clear c4b0
       try clear c5
       try clear p6
       try clear c7
       try clear c7b0
       try clear p2
       obtain ⟨kq, x29_5, rfl, HA, HJ5, HB⟩ := hcut
       cases kq with
       | zero => exact absurd HA.out (by simp [topiaryref11_Rune.j2])
       | succ kj5 =>
        have H := HA.out
        clear HA
        simp only [topiaryref11_Rune.j2] at H
        by_cases c8 : x29_5 = true
        ·subst c8
         rw [if_pos rfl] at H
         have H1 := H
         clear H
         have H := H1
         clear H1
         have H' := Aside0.mk H
         clear H
         go_wp2
         go_loopg [7, 8] kj5 (fun kq v7 v8 w' => ∃ (x7_4 : Int) (x8_4 : Int), v7 = .int .i64 x7_4 ∧ v8 = .int .i64 x8_4 ∧ Aside0 (topiaryref11_Rune.l1 kq a0 a1 x6_2 x7_4 x8_4 = some (r1, r2)) ∧ Aside0 (kq ≤ kj5) ∧ Aside0 (Below w.heap.size w w'))
         case atStart => exact ⟨(0), (0), sm_, sm_, H', ⟨Nat.le_refl _⟩, ⟨bb_ HB.out⟩⟩
         case round =>
          clear H'
          try clear p2
          try clear c4
          try clear c4b0
          try clear c5
          try clear p6
          try clear c7
          try clear c7b0
          try clear c8
          try clear p2
          try clear p6
          obtain ⟨x7_4, x8_4, rfl, rfl, HA, HK4, HB⟩ := hrel
          cases gk with
          | zero => exact absurd HA.out (by simp [topiaryref11_Rune.l1])
          | succ k4 =>
           have H := HA.out
           clear HA
           simp only [topiaryref11_Rune.l1] at H
           by_cases c9 : x8_4 < x6_2
           ·rw [if_pos c9] at H
            have c9b0 : decide (x8_4 < x6_2) = true := decide_eq_true c9
            clear c9
            obtain ⟨ji10, hji10⟩ : ∃ j_ : Int, (wrap64 (a1 + x8_4)) = j_ := ⟨_, rfl⟩
            replace H : (if 0 ≤ (ji10) then (if (ji10) < (a0.size : Int) then (if x8_4 = 0 then (if x6_2 = 2 then (topiaryref11_Rune.j4 k4 a0 a1 x6_2 x8_4 (wrap64 (bt a0 (ji10))) 192) else (topiaryref11_Rune.j4 k4 a0 a1 x6_2 x8_4 (wrap64 (bt a0 (ji10))) 0)) else (topiaryref11_Rune.l1 k4 a0 a1 x6_2 (wrap64 ((wrap64 ((wrap64 (x7_4 * 64)) + (wrap64 (bt a0 (ji10))))) - 128)) (wrap64 (x8_4 + 1)))) else (none)) else (none)) = some (r1, r2) := by first | (rw [hji10] at H; exact H) | (simp only [hji10] at H ⊢; exact H)
            have hji10w : (IntKind.i64.wrap (a1 + x8_4)) = ji10 := (i64_w _).trans hji10
            by_cases c11 : 0 ≤ (ji10)
            ·rw [if_pos c11] at H
             have c11b0 : decide (0 ≤ (ji10)) = true := decide_eq_true c11
             clear c11
             by_cases c12 : (ji10) < (a0.size : Int)
             ·rw [if_pos c12] at H
              have c12b0 : decide ((ji10) < (a0.size : Int)) = true := decide_eq_true c12
              clear c12
              by_cases c14 : x8_4 = 0
              ·rw [if_pos c14] at H
               have c14b0 : (x8_4 == 0) = true := beq_iff_eq.mpr c14
               have c14b1 : (x8_4 != 0) = false := bne_eq_false_iff_eq.mpr c14
               clear c14
               have HC15 := Aside0.mk H
               clear H
               have p13 : 0 ≤ ((ji10) : Int) := of_decide_eq_true as_
               have q13 : (ji10) < (a0.size : Int) := of_decide_eq_true as_
               have hx13 := bt_at a0 (ji10)
               replace p13 := eq_true p13
               replace q13 := eq_true q13
               go_upto_if 46 with (fail)
               go_cut [10] (fun v10 wc => ∃ (kq : Nat) (x10_14 : Int), v10 = .int .i64 x10_14 ∧ Aside0 (topiaryref11_Rune.j4 kq a0 a1 x6_2 x8_4 (wrap64 (bt a0 (ji10))) x10_14 = some (r1, r2)) ∧ Aside0 (kq ≤ k4) ∧ Aside0 (Below w.heap.size w wc))
               case first =>
                have H := HC15.out
                clear HC15
                by_cases c16 : x6_2 = 2
                ·rw [if_pos c16] at H
                 have c16b0 : (x6_2 == 2) = true := beq_iff_eq.mpr c16
                 have c16b1 : (x6_2 != 2) = false := bne_eq_false_iff_eq.mpr c16
                 clear c16
                 (first | rw [c16b0] | (simp only [i64_w, i32_w]; rw [c16b0]) | skip)
                 have H' := Aside0.mk H
                 clear H
                 go_wp2
                 go_meet
                 case rel => exact ⟨_, (192), sm_, H', ⟨by have := HJ2.out; have := HK2.out; have := HJ5.out; have := HK4.out; first | omega | exact Nat.le_refl _⟩, ⟨bb_ HB.out⟩⟩
                ·rw [if_neg c16] at H
                 have c16b0 : (x6_2 == 2) = false := beq_eq_false_iff_ne.mpr c16
                 have c16b1 : (x6_2 != 2) = true := bne_iff_ne.mpr c16
                 (first | rw [c16b0] | (simp only [i64_w, i32_w]; rw [c16b0]) | skip)
                 have H' := Aside0.mk H
                 clear H
                 go_wp2
                 go_meet
                 case rel => exact ⟨_, (0), sm_, H', ⟨by have := HJ2.out; have := HK2.out; have := HJ5.out; have := HK4.out; first | omega | exact Nat.le_refl _⟩, ⟨bb_ HB.out⟩⟩
               case rest =>
                clear HC15
                try clear c1
                try clear p1
                try clear q1
                try clear hx1
                try clear p2
                try clear c4
                try clear c4b0
                try clear c5
                try clear p6
                try clear c7
                try clear c7b0
                try clear c8
                try clear c9
                try clear c9b0
                try clear c11
                try clear c11b0
                try clear c12
                try clear c12b0
                try clear p13
                try clear q13
                try clear hx13
                try clear c14
                try clear c14b0
                try clear c14b1
                try clear c16
                try clear c16b0
                try clear c16b1
                try clear p13
                try clear p2
                try clear p6
                try clear q13
                obtain ⟨kq, x10_14, rfl, HA, HJ14, HB⟩ := hcut
                cases kq with
                | zero => exact absurd HA.out (by simp [topiaryref11_Rune.j4])
                | succ kj14 =>
                 have H := HA.out
                 clear HA
                 simp only [topiaryref11_Rune.j4] at H
                 by_cases c17 : x6_2 = 3
                 ·rw [if_pos c17] at H
                  have c17b0 : (x6_2 == 3) = true := beq_iff_eq.mpr c17
                  have c17b1 : (x6_2 != 3) = false := bne_eq_false_iff_eq.mpr c17
                  clear c17
                  by_cases c18 : x6_2 = 4
                  ·rw [if_pos c18] at H
                   have c18b0 : (x6_2 == 4) = true := beq_iff_eq.mpr c18
                   have c18b1 : (x6_2 != 4) = false := bne_eq_false_iff_eq.mpr c18
                   clear c18
                   have H' := Aside0.mk H
                   clear H
                   go_wp2
                   go_roundg kj14
                   case measure => have := HJ2.out; have := HK2.out; have := HJ5.out; have := HK4.out; have := HJ14.out; omega
                   case rel => exact ⟨(wrap64 ((wrap64 (bt a0 (ji10))) - 240)), (wrap64 (x8_4 + 1)), (by first | rfl | (simp; done) | (simp only [← hji10] <;> (first | rfl | simp)) | (simp [*]; done)), sm_, H', ⟨by have := HJ2.out; have := HK2.out; have := HJ5.out; have := HK4.out; have := HJ14.out; omega⟩, ⟨bb_ HB.out⟩⟩
                  ·rw [if_neg c18] at H
                   have c18b0 : (x6_2 == 4) = false := beq_eq_false_iff_ne.mpr c18
                   have c18b1 : (x6_2 != 4) = true := bne_iff_ne.mpr c18
                   have H' := Aside0.mk H
                   clear H
                   go_wp2
                   go_roundg kj14
                   case measure => have := HJ2.out; have := HK2.out; have := HJ5.out; have := HK4.out; have := HJ14.out; omega
                   case rel => exact ⟨(wrap64 ((wrap64 (bt a0 (ji10))) - 224)), (wrap64 (x8_4 + 1)), (by first | rfl | (simp; done) | (simp only [← hji10] <;> (first | rfl | simp)) | (simp [*]; done)), sm_, H', ⟨by have := HJ2.out; have := HK2.out; have := HJ5.out; have := HK4.out; have := HJ14.out; omega⟩, ⟨bb_ HB.out⟩⟩
                 ·rw [if_neg c17] at H
                  have c17b0 : (x6_2 == 3) = false := beq_eq_false_iff_ne.mpr c17
                  have c17b1 : (x6_2 != 3) = true := bne_iff_ne.mpr c17
                  by_cases c19 : x6_2 = 4
                  ·rw [if_pos c19] at H
                   have c19b0 : (x6_2 == 4) = true := beq_iff_eq.mpr c19
                   have c19b1 : (x6_2 != 4) = false := bne_eq_false_iff_eq.mpr c19
                   clear c19
                   have H' := Aside0.mk H
                   clear H
                   go_wp2
                   go_roundg kj14
                   case measure => have := HJ2.out; have := HK2.out; have := HJ5.out; have := HK4.out; have := HJ14.out; omega
                   case rel => exact ⟨(wrap64 ((wrap64 (bt a0 (ji10))) - 240)), (wrap64 (x8_4 + 1)), (by first | rfl | (simp; done) | (simp only [← hji10] <;> (first | rfl | simp)) | (simp [*]; done)), sm_, H', ⟨by have := HJ2.out; have := HK2.out; have := HJ5.out; have := HK4.out; have := HJ14.out; omega⟩, ⟨bb_ HB.out⟩⟩
                  ·rw [if_neg c19] at H
                   have c19b0 : (x6_2 == 4) = false := beq_eq_false_iff_ne.mpr c19
                   have c19b1 : (x6_2 != 4) = true := bne_iff_ne.mpr c19
                   have H' := Aside0.mk H
                   clear H
                   go_wp2
                   go_roundg kj14
                   case measure => have := HJ2.out; have := HK2.out; have := HJ5.out; have := HK4.out; have := HJ14.out; omega
                   case rel => exact ⟨(wrap64 ((wrap64 (bt a0 (ji10))) - x10_14)), (wrap64 (x8_4 + 1)), (by first | rfl | (simp; done) | (simp only [← hji10] <;> (first | rfl | simp)) | (simp [*]; done)), sm_, H', ⟨by have := HJ2.out; have := HK2.out; have := HJ5.out; have := HK4.out; have := HJ14.out; omega⟩, ⟨bb_ HB.out⟩⟩
              ·rw [if_neg c14] at H
               have c14b0 : (x8_4 == 0) = false := beq_eq_false_iff_ne.mpr c14
               have c14b1 : (x8_4 != 0) = true := bne_iff_ne.mpr c14
               have H' := Aside0.mk H
               clear H
               have p13 : 0 ≤ ((ji10) : Int) := of_decide_eq_true as_
               have q13 : (ji10) < (a0.size : Int) := of_decide_eq_true as_
               have hx13 := bt_at a0 (ji10)
               replace p13 := eq_true p13
               replace q13 := eq_true q13
               go_wp2
               go_roundg k4
               case measure => have := HJ2.out; have := HK2.out; have := HJ5.out; have := HK4.out; omega
               case rel => exact ⟨(wrap64 ((wrap64 ((wrap64 (x7_4 * 64)) + (wrap64 (bt a0 (ji10))))) - 128)), (wrap64 (x8_4 + 1)), (by first | rfl | (simp; done) | (simp only [← hji10] <;> (first | rfl | simp)) | (simp [*]; done)), sm_, H', ⟨by have := HJ2.out; have := HK2.out; have := HJ5.out; have := HK4.out; omega⟩, ⟨bb_ HB.out⟩⟩
             ·rw [if_neg c12] at H
              exact absurd H (by simp)
            ·rw [if_neg c11] at H
             exact absurd H (by simp)
           ·rw [if_neg c9] at H
            have c9b0 : decide (x8_4 < x6_2) = false := decide_eq_false c9
            clear c9
            replace H := Option.bind_eq_some_iff.mp H
            obtain ⟨t132, A200, H⟩ := H
            try dsimp only at H
            have A20 := Aside0.mk A200
            clear A200
            by_cases c21 : t132.toList = ([] : List UInt8)
            ·rw [if_pos c21] at H
             have c21b0 : (t132.toList == ([] : List UInt8)) = true := beq_iff_eq.mpr c21
             have c21b1 : (t132.toList != ([] : List UInt8)) = false := bne_eq_false_iff_eq.mpr c21
             clear c21
             have H' := Aside0.mk H
             clear H
             go_wp2_with (first | ((with_reducible refine gate_callee (f := 54) rfl ?_); refine goesL_ (some 60) rfl rfl Try.func54 (by kernel_rfl) rfl #[.int .i64 x7_4] rfl ar_ ?_; (with_reducible refine (topiaryref11_Encode.calls x7_4 t132 _ A20.out).mono ?_); rintro e w22 ⟨rfl, hb⟩; refine ⟨_, rfl, ?_⟩; have n0_ := Aside0.mk (below_step (bb_ HB.out) hb); clear HB; have HB := n0_; clear n0_; (try clear hb); (try clear hb2); (try clear hk); (try clear hi)))
             go_roundg k4
             case measure => have := HJ2.out; have := HK2.out; have := HJ5.out; have := HK4.out; omega
             case rel => exact ⟨(wrap64 (x6_2 + 1)), sm_, H', ⟨by have := HJ2.out; have := HK2.out; have := HJ5.out; have := HK4.out; omega⟩, ⟨bb_ HB.out⟩⟩
            ·rw [if_neg c21] at H
             have c21b0 : (t132.toList == ([] : List UInt8)) = false := beq_eq_false_iff_ne.mpr c21
             have c21b1 : (t132.toList != ([] : List UInt8)) = true := bne_iff_ne.mpr c21
             by_cases c23 : 0 ≤ a1
             ·rw [if_pos c23] at H
              have c23b0 := eq_true c23
              have c23b1 : decide (0 ≤ a1) = true := decide_eq_true c23
              clear c23
              by_cases c24 : a1 ≤ (wrap64 (a1 + x6_2))
              ·rw [if_pos c24] at H
               have c24b0 := eq_true c24
               have c24b1 : decide (a1 ≤ (wrap64 (a1 + x6_2))) = true := decide_eq_true c24
               by_cases c25 : (wrap64 (a1 + x6_2)) ≤ (a0.size : Int)
               ·rw [if_pos c25] at H
                have c25b0 := eq_true c25
                have c25b1 : decide ((wrap64 (a1 + x6_2)) ≤ (a0.size : Int)) = true := decide_eq_true c25
                by_cases c26 : t132.toList = (a0.extract (a1 : Int).toNat ((wrap64 (a1 + x6_2)) : Int).toNat).toList
                ·rw [if_pos c26] at H
                 have c26b0 : (t132.toList == (a0.extract (a1 : Int).toNat ((wrap64 (a1 + x6_2)) : Int).toNat).toList) = true := beq_iff_eq.mpr c26
                 have c26b1 : (t132.toList != (a0.extract (a1 : Int).toNat ((wrap64 (a1 + x6_2)) : Int).toNat).toList) = false := bne_eq_false_iff_eq.mpr c26
                 clear c26
                 simp only [Option.some.injEq, Prod.mk.injEq] at H
                 obtain ⟨rfl, rfl⟩ := H
                 go_wp2_with (first | ((with_reducible refine gate_callee (f := 54) rfl ?_); refine goesL_ (some 60) rfl rfl Try.func54 (by kernel_rfl) rfl #[.int .i64 x7_4] rfl ar_ ?_; (with_reducible refine (topiaryref11_Encode.calls x7_4 t132 _ A20.out).mono ?_); rintro e w27 ⟨rfl, hb⟩; refine ⟨_, rfl, ?_⟩; have n0_ := Aside0.mk (below_step (bb_ HB.out) hb); clear HB; have HB := n0_; clear n0_; (try clear hb); (try clear hb2); (try clear hk); (try clear hi)))
                 go_ret2
                 exact ⟨by first | rfl | (simp [errW_none, errW_some] <;> rfl) | (simp [*, errW_none, errW_some] <;> rfl), bb_ HB.out⟩
                ·rw [if_neg c26] at H
                 have c26b0 : (t132.toList == (a0.extract (a1 : Int).toNat ((wrap64 (a1 + x6_2)) : Int).toNat).toList) = false := beq_eq_false_iff_ne.mpr c26
                 have c26b1 : (t132.toList != (a0.extract (a1 : Int).toNat ((wrap64 (a1 + x6_2)) : Int).toNat).toList) = true := bne_iff_ne.mpr c26
                 have H' := Aside0.mk H
                 clear H
                 go_wp2_with (first | ((with_reducible refine gate_callee (f := 54) rfl ?_); refine goesL_ (some 60) rfl rfl Try.func54 (by kernel_rfl) rfl #[.int .i64 x7_4] rfl ar_ ?_; (with_reducible refine (topiaryref11_Encode.calls x7_4 t132 _ A20.out).mono ?_); rintro e w28 ⟨rfl, hb⟩; refine ⟨_, rfl, ?_⟩; have n0_ := Aside0.mk (below_step (bb_ HB.out) hb); clear HB; have HB := n0_; clear n0_; (try clear hb); (try clear hb2); (try clear hk); (try clear hi)))
                 go_roundg k4
                 case measure => have := HJ2.out; have := HK2.out; have := HJ5.out; have := HK4.out; omega
                 case rel => exact ⟨(wrap64 (x6_2 + 1)), sm_, H', ⟨by have := HJ2.out; have := HK2.out; have := HJ5.out; have := HK4.out; omega⟩, ⟨bb_ HB.out⟩⟩
               ·rw [if_neg c25] at H
                exact absurd H (by simp)
              ·rw [if_neg c24] at H
               exact absurd H (by simp)
             ·rw [if_neg c23] at H
              exact absurd H (by simp)
        ·replace c8 := Bool.eq_false_iff.mpr c8
         subst c8
         rw [if_neg (show ¬ (false = true) by decide)] at H
         have H1 := H
         clear H
         have H := H1
         clear H1
         simp only [Option.some.injEq, Prod.mk.injEq] at H
         obtain ⟨rfl, rfl⟩ := H
         go_wp2
         go_ret2
         exact ⟨by first | rfl | (simp [errW_none, errW_some] <;> rfl) | (simp [*, errW_none, errW_some] <;> rfl), bb_ HB.out⟩
def topiaryref11_Allowed.f (a0 : Int) : Option (Bool) := if a0 = 9 then (some true) else (if a0 = 10 then (some true) else (if a0 = 13 then (some true) else (if a0 ≥ 32 then (if a0 ≤ 55295 then (some true) else (if a0 ≥ 57344 then (if a0 ≤ 65533 then (some true) else (if a0 ≥ 65536 then (some (decide (a0 ≤ 1114111))) else (some false))) else (if a0 ≥ 65536 then (some (decide (a0 ≤ 1114111))) else (some false)))) else (if a0 ≥ 57344 then (if a0 ≤ 65533 then (some true) else (if a0 ≥ 65536 then (some (decide (a0 ≤ 1114111))) else (some false))) else (if a0 ≥ 65536 then (some (decide (a0 ≤ 1114111))) else (some false))))))
set_option maxHeartbeats 8000000 in
set_option maxRecDepth 100000 in
theorem topiaryref11_Allowed.calls (a0 : Int) (r : Bool) (w : World) (h : topiaryref11_Allowed.f a0 = some r) :
  Calls Try.prog 47 #[.int .i64 a0] w fun e w' => e = .returned (.bool r) ∧ Drawn0 w w' := by
 have H : (if a0 = 9 then (some true) else (if a0 = 10 then (some true) else (if a0 = 13 then (some true) else (if a0 ≥ 32 then (if a0 ≤ 55295 then (some true) else (if a0 ≥ 57344 then (if a0 ≤ 65533 then (some true) else (if a0 ≥ 65536 then (some (decide (a0 ≤ 1114111))) else (some false))) else (if a0 ≥ 65536 then (some (decide (a0 ≤ 1114111))) else (some false)))) else (if a0 ≥ 57344 then (if a0 ≤ 65533 then (some true) else (if a0 ≥ 65536 then (some (decide (a0 ≤ 1114111))) else (some false))) else (if a0 ≥ 65536 then (some (decide (a0 ≤ 1114111))) else (some false))))))) = some r := h
 clear h
 by_cases c2 : a0 = 9
 ·rw [if_pos c2] at H
  have c2b0 : (a0 == 9) = true := beq_iff_eq.mpr c2
  have c2b1 : (a0 != 9) = false := bne_eq_false_iff_eq.mpr c2
  clear c2
  obtain rfl := Option.some.inj H
  go_enter Try.func47, Try.ntmps47
  go_wp2
  go_ret
  exact ⟨sm_, dd_⟩
 ·rw [if_neg c2] at H
  have c2b0 : (a0 == 9) = false := beq_eq_false_iff_ne.mpr c2
  have c2b1 : (a0 != 9) = true := bne_iff_ne.mpr c2
  by_cases c3 : a0 = 10
  ·rw [if_pos c3] at H
   have c3b0 : (a0 == 10) = true := beq_iff_eq.mpr c3
   have c3b1 : (a0 != 10) = false := bne_eq_false_iff_eq.mpr c3
   clear c3
   obtain rfl := Option.some.inj H
   go_enter Try.func47, Try.ntmps47
   go_wp2
   go_ret
   exact ⟨sm_, dd_⟩
  ·rw [if_neg c3] at H
   have c3b0 : (a0 == 10) = false := beq_eq_false_iff_ne.mpr c3
   have c3b1 : (a0 != 10) = true := bne_iff_ne.mpr c3
   by_cases c4 : a0 = 13
   ·rw [if_pos c4] at H
    have c4b0 : (a0 == 13) = true := beq_iff_eq.mpr c4
    have c4b1 : (a0 != 13) = false := bne_eq_false_iff_eq.mpr c4
    clear c4
    obtain rfl := Option.some.inj H
    go_enter Try.func47, Try.ntmps47
    go_wp2
    go_ret
    exact ⟨sm_, dd_⟩
   ·rw [if_neg c4] at H
    have c4b0 : (a0 == 13) = false := beq_eq_false_iff_ne.mpr c4
    have c4b1 : (a0 != 13) = true := bne_iff_ne.mpr c4
    by_cases c5 : a0 ≥ 32
    ·rw [if_pos c5] at H
     have c5b0 : decide (32 ≤ a0) = true := decide_eq_true c5
     clear c5
     by_cases c6 : a0 ≤ 55295
     ·rw [if_pos c6] at H
      have c6b0 : decide (a0 ≤ 55295) = true := decide_eq_true c6
      clear c6
      obtain rfl := Option.some.inj H
      go_enter Try.func47, Try.ntmps47
      go_wp2
      go_ret
      exact ⟨sm_, dd_⟩
     ·rw [if_neg c6] at H
      have c6b0 : decide (a0 ≤ 55295) = false := decide_eq_false c6
      clear c6
      by_cases c7 : a0 ≥ 57344
      ·rw [if_pos c7] at H
       have c7b0 : decide (57344 ≤ a0) = true := decide_eq_true c7
       clear c7
       by_cases c8 : a0 ≤ 65533
       ·rw [if_pos c8] at H
        have c8b0 : decide (a0 ≤ 65533) = true := decide_eq_true c8
        clear c8
        obtain rfl := Option.some.inj H
        go_enter Try.func47, Try.ntmps47
        go_wp2
        go_ret
        exact ⟨sm_, dd_⟩
       ·rw [if_neg c8] at H
        have c8b0 : decide (a0 ≤ 65533) = false := decide_eq_false c8
        clear c8
        by_cases c9 : a0 ≥ 65536
        ·rw [if_pos c9] at H
         have c9b0 : decide (65536 ≤ a0) = true := decide_eq_true c9
         clear c9
         obtain rfl := Option.some.inj H
         go_enter Try.func47, Try.ntmps47
         go_wp2
         go_ret
         exact ⟨sm_, dd_⟩
        ·rw [if_neg c9] at H
         have c9b0 : decide (65536 ≤ a0) = false := decide_eq_false c9
         clear c9
         obtain rfl := Option.some.inj H
         go_enter Try.func47, Try.ntmps47
         go_wp2
         go_ret
         exact ⟨sm_, dd_⟩
      ·rw [if_neg c7] at H
       have c7b0 : decide (57344 ≤ a0) = false := decide_eq_false c7
       clear c7
       by_cases c10 : a0 ≥ 65536
       ·rw [if_pos c10] at H
        have c10b0 : decide (65536 ≤ a0) = true := decide_eq_true c10
        clear c10
        obtain rfl := Option.some.inj H
        go_enter Try.func47, Try.ntmps47
        go_wp2
        go_ret
        exact ⟨sm_, dd_⟩
       ·rw [if_neg c10] at H
        have c10b0 : decide (65536 ≤ a0) = false := decide_eq_false c10
        clear c10
        obtain rfl := Option.some.inj H
        go_enter Try.func47, Try.ntmps47
        go_wp2
        go_ret
        exact ⟨sm_, dd_⟩
    ·rw [if_neg c5] at H
     have c5b0 : decide (32 ≤ a0) = false := decide_eq_false c5
     clear c5
     by_cases c11 : a0 ≥ 57344
     ·rw [if_pos c11] at H
      have c11b0 : decide (57344 ≤ a0) = true := decide_eq_true c11
      clear c11
      by_cases c12 : a0 ≤ 65533
      ·rw [if_pos c12] at H
       have c12b0 : decide (a0 ≤ 65533) = true := decide_eq_true c12
       clear c12
       obtain rfl := Option.some.inj H
       go_enter Try.func47, Try.ntmps47
       go_wp2
       go_ret
       exact ⟨sm_, dd_⟩
      ·rw [if_neg c12] at H
       have c12b0 : decide (a0 ≤ 65533) = false := decide_eq_false c12
       clear c12
       by_cases c13 : a0 ≥ 65536
       ·rw [if_pos c13] at H
        have c13b0 : decide (65536 ≤ a0) = true := decide_eq_true c13
        clear c13
        obtain rfl := Option.some.inj H
        go_enter Try.func47, Try.ntmps47
        go_wp2
        go_ret
        exact ⟨sm_, dd_⟩
       ·rw [if_neg c13] at H
        have c13b0 : decide (65536 ≤ a0) = false := decide_eq_false c13
        clear c13
        obtain rfl := Option.some.inj H
        go_enter Try.func47, Try.ntmps47
        go_wp2
        go_ret
        exact ⟨sm_, dd_⟩
     ·rw [if_neg c11] at H
      have c11b0 : decide (57344 ≤ a0) = false := decide_eq_false c11
      clear c11
      by_cases c14 : a0 ≥ 65536
      ·rw [if_pos c14] at H
       have c14b0 : decide (65536 ≤ a0) = true := decide_eq_true c14
       clear c14
       obtain rfl := Option.some.inj H
       go_enter Try.func47, Try.ntmps47
       go_wp2
       go_ret
       exact ⟨sm_, dd_⟩
      ·rw [if_neg c14] at H
       have c14b0 : decide (65536 ≤ a0) = false := decide_eq_false c14
       clear c14
       obtain rfl := Option.some.inj H
       go_enter Try.func47, Try.ntmps47
       go_wp2
       go_ret
       exact ⟨sm_, dd_⟩
def topiaryref11_Valid.l0 : Nat → ByteArray → Int → Option (Bool)
 | 0, _, _ => none
 | k + 1, x0, x3 => if x3 < (x0.size : Int) then ((topiaryref11_Rune.f k x0 x3).bind fun bt133 => ((topiaryref11_Allowed.f bt133.1).bind fun t135 => (if bt133.2 = 0 then (some false) else (if t135 = true then (topiaryref11_Valid.l0 k x0 (wrap64 (x3 + bt133.2))) else (some false))))) else (some true)
def topiaryref11_Valid.f (k : Nat) (a0 : ByteArray) : Option (Bool) := topiaryref11_Valid.l0 k a0 0
set_option maxHeartbeats 8000000 in
set_option maxRecDepth 100000 in
theorem topiaryref11_Valid.calls (k : Nat) (a0 : ByteArray) (r : Bool) (w : World) (h : topiaryref11_Valid.f k a0 = some r) :
  Calls Try.prog 41 #[.string a0] w fun e w' => e = .returned (.bool r) ∧ Below w.heap.size w w' := by
 have HB := Aside0.mk (Below.refl w.heap.size w)
 have H : (topiaryref11_Valid.l0 k a0 0) = some r := h
 clear h
 have H' := Aside0.mk H
 clear H
 go_enter Try.func41, Try.ntmps41
 go_wp2
 go_loopg [3] k (fun kq v3 w' => ∃ (x3_1 : Int), v3 = .int .i64 x3_1 ∧ Aside0 (topiaryref11_Valid.l0 kq a0 x3_1 = some r) ∧ Aside0 (kq ≤ k) ∧ Aside0 (Below w.heap.size w w'))
 case atStart => exact ⟨(0), sm_, H', ⟨Nat.le_refl _⟩, ⟨bb_ HB.out⟩⟩
 case round =>
  clear H'
  obtain ⟨x3_1, rfl, HA, HK1, HB⟩ := hrel
  cases gk with
  | zero => exact absurd HA.out (by simp [topiaryref11_Valid.l0])
  | succ k1 =>
   have H := HA.out
   clear HA
   simp only [topiaryref11_Valid.l0] at H
   by_cases c2 : x3_1 < (a0.size : Int)
   ·rw [if_pos c2] at H
    have c2b0 : decide (x3_1 < (a0.size : Int)) = true := decide_eq_true c2
    clear c2
    replace H := Option.bind_eq_some_iff.mp H
    obtain ⟨⟨t133, t134⟩, A30, H⟩ := H
    try dsimp only at H
    have A3 := Aside0.mk A30
    clear A30
    replace H := Option.bind_eq_some_iff.mp H
    obtain ⟨t135, A40, H⟩ := H
    try dsimp only at H
    have A4 := Aside0.mk A40
    clear A40
    by_cases c5 : t134 = 0
    ·rw [if_pos c5] at H
     have c5b0 : (t134 == 0) = true := beq_iff_eq.mpr c5
     have c5b1 : (t134 != 0) = false := bne_eq_false_iff_eq.mpr c5
     clear c5
     obtain rfl := Option.some.inj H
     go_wp2_with (first | ((with_reducible refine gate_callee (f := 46) rfl ?_); refine goesL_ (some 14) rfl rfl Try.func46 (by kernel_rfl) rfl #[.string a0, .int .i64 x3_1] rfl ar_ ?_; (with_reducible refine (topiaryref11_Rune.calls k1 a0 x3_1 t133 t134 _ A3.out).mono ?_); rintro e w6 ⟨rfl, hb⟩; refine ⟨_, rfl, ?_⟩; have n0_ := Aside0.mk (below_step (bb_ HB.out) hb); clear HB; have HB := n0_; clear n0_; (try clear hb); (try clear hb2); (try clear hk); (try clear hi)) | ((with_reducible refine gate_callee (f := 47) rfl ?_); refine goesL_ (some 18) rfl rfl Try.func47 (by kernel_rfl) rfl #[.int .i64 t133] rfl ar_ ?_; (with_reducible refine (topiaryref11_Allowed.calls t133 t135 _ A4.out).mono ?_); rintro e w' ⟨rfl, ⟨nd, rfl⟩⟩; refine ⟨_, rfl, ?_⟩))
     go_ret
     exact ⟨by first | rfl | (simp [errW_none, errW_some] <;> rfl) | (simp [*, errW_none, errW_some] <;> rfl), bb_ HB.out⟩
    ·rw [if_neg c5] at H
     have c5b0 : (t134 == 0) = false := beq_eq_false_iff_ne.mpr c5
     have c5b1 : (t134 != 0) = true := bne_iff_ne.mpr c5
     by_cases c7 : t135 = true
     ·subst c7
      rw [if_pos rfl] at H
      have H1 := H
      clear H
      have H := H1
      clear H1
      have H' := Aside0.mk H
      clear H
      go_wp2_with (first | ((with_reducible refine gate_callee (f := 46) rfl ?_); refine goesL_ (some 14) rfl rfl Try.func46 (by kernel_rfl) rfl #[.string a0, .int .i64 x3_1] rfl ar_ ?_; (with_reducible refine (topiaryref11_Rune.calls k1 a0 x3_1 t133 t134 _ A3.out).mono ?_); rintro e w8 ⟨rfl, hb⟩; refine ⟨_, rfl, ?_⟩; have n0_ := Aside0.mk (below_step (bb_ HB.out) hb); clear HB; have HB := n0_; clear n0_; (try clear hb); (try clear hb2); (try clear hk); (try clear hi)) | ((with_reducible refine gate_callee (f := 47) rfl ?_); refine goesL_ (some 18) rfl rfl Try.func47 (by kernel_rfl) rfl #[.int .i64 t133] rfl ar_ ?_; (with_reducible refine (topiaryref11_Allowed.calls t133 true _ A4.out).mono ?_); rintro e w' ⟨rfl, ⟨nd, rfl⟩⟩; refine ⟨_, rfl, ?_⟩))
      go_roundg k1
      case measure => have := HK1.out; omega
      case rel => exact ⟨(wrap64 (x3_1 + t134)), sm_, H', ⟨by have := HK1.out; omega⟩, ⟨bb_ HB.out⟩⟩
     ·replace c7 := Bool.eq_false_iff.mpr c7
      subst c7
      rw [if_neg (show ¬ (false = true) by decide)] at H
      have H1 := H
      clear H
      have H := H1
      clear H1
      obtain rfl := Option.some.inj H
      go_wp2_with (first | ((with_reducible refine gate_callee (f := 46) rfl ?_); refine goesL_ (some 14) rfl rfl Try.func46 (by kernel_rfl) rfl #[.string a0, .int .i64 x3_1] rfl ar_ ?_; (with_reducible refine (topiaryref11_Rune.calls k1 a0 x3_1 t133 t134 _ A3.out).mono ?_); rintro e w9 ⟨rfl, hb⟩; refine ⟨_, rfl, ?_⟩; have n0_ := Aside0.mk (below_step (bb_ HB.out) hb); clear HB; have HB := n0_; clear n0_; (try clear hb); (try clear hb2); (try clear hk); (try clear hi)) | ((with_reducible refine gate_callee (f := 47) rfl ?_); refine goesL_ (some 18) rfl rfl Try.func47 (by kernel_rfl) rfl #[.int .i64 t133] rfl ar_ ?_; (with_reducible refine (topiaryref11_Allowed.calls t133 false _ A4.out).mono ?_); rintro e w' ⟨rfl, ⟨nd, rfl⟩⟩; refine ⟨_, rfl, ?_⟩))
      go_ret
      exact ⟨by first | rfl | (simp [errW_none, errW_some] <;> rfl) | (simp [*, errW_none, errW_some] <;> rfl), bb_ HB.out⟩
   ·rw [if_neg c2] at H
    have c2b0 : decide (x3_1 < (a0.size : Int)) = false := decide_eq_false c2
    clear c2
    obtain rfl := Option.some.inj H
    go_wp2
    go_ret
    exact ⟨by first | rfl | (simp [errW_none, errW_some] <;> rfl) | (simp [*, errW_none, errW_some] <;> rfl), bb_ HB.out⟩
def topiaryref11_Space.f (a0 : Int) : Option (Bool) := if a0 = 32 then (some true) else (if a0 = 9 then (some true) else (if a0 = 10 then (some true) else (some (a0 == 13))))
set_option maxHeartbeats 8000000 in
set_option maxRecDepth 100000 in
theorem topiaryref11_Space.calls (a0 : Int) (r : Bool) (w : World) (h : topiaryref11_Space.f a0 = some r) :
  Calls Try.prog 53 #[.int .u8 a0] w fun e w' => e = .returned (.bool r) ∧ Drawn0 w w' := by
 have H : (if a0 = 32 then (some true) else (if a0 = 9 then (some true) else (if a0 = 10 then (some true) else (some (a0 == 13))))) = some r := h
 clear h
 by_cases c2 : a0 = 32
 ·rw [if_pos c2] at H
  have c2b0 : (a0 == 32) = true := beq_iff_eq.mpr c2
  have c2b1 : (a0 != 32) = false := bne_eq_false_iff_eq.mpr c2
  clear c2
  obtain rfl := Option.some.inj H
  go_enter Try.func53, Try.ntmps53
  go_wp2
  go_ret
  exact ⟨sm_, dd_⟩
 ·rw [if_neg c2] at H
  have c2b0 : (a0 == 32) = false := beq_eq_false_iff_ne.mpr c2
  have c2b1 : (a0 != 32) = true := bne_iff_ne.mpr c2
  by_cases c3 : a0 = 9
  ·rw [if_pos c3] at H
   have c3b0 : (a0 == 9) = true := beq_iff_eq.mpr c3
   have c3b1 : (a0 != 9) = false := bne_eq_false_iff_eq.mpr c3
   clear c3
   obtain rfl := Option.some.inj H
   go_enter Try.func53, Try.ntmps53
   go_wp2
   go_ret
   exact ⟨sm_, dd_⟩
  ·rw [if_neg c3] at H
   have c3b0 : (a0 == 9) = false := beq_eq_false_iff_ne.mpr c3
   have c3b1 : (a0 != 9) = true := bne_iff_ne.mpr c3
   by_cases c4 : a0 = 10
   ·rw [if_pos c4] at H
    have c4b0 : (a0 == 10) = true := beq_iff_eq.mpr c4
    have c4b1 : (a0 != 10) = false := bne_eq_false_iff_eq.mpr c4
    clear c4
    obtain rfl := Option.some.inj H
    go_enter Try.func53, Try.ntmps53
    go_wp2
    go_ret
    exact ⟨sm_, dd_⟩
   ·rw [if_neg c4] at H
    have c4b0 : (a0 == 10) = false := beq_eq_false_iff_ne.mpr c4
    have c4b1 : (a0 != 10) = true := bne_iff_ne.mpr c4
    obtain rfl := Option.some.inj H
    go_enter Try.func53, Try.ntmps53
    go_wp2
    go_ret
    exact ⟨sm_, dd_⟩
end Go.Proofs.Ytoanmoddppmffaa.T
